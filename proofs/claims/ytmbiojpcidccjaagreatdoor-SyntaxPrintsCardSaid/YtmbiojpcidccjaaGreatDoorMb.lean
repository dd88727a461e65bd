/- Texts of the proof, one behind the other. -/
import Derived.Test.YtmbiojpcidccjaaGreatDoorMa
import Derived.Lib.Builder
import Derived.Lib.AppendStr
import Derived.Lib.UnsafeStr
import Derived.ProofKit
import Derived.Lib.LaidTab
import Derived.Deep.Slices
import Derived.Deep.Fields
import Derived.OpenShut
import Derived.Lib.ItoaNum
import Derived.Lib.Join
import Derived.Lib.ItoaLen
import Derived.Test.YtmbiojpcidccjaaGreatDoorProg
set_option linter.all false
namespace Go.Sx
open Go.RowKit Go.Par
section
variable {P : Program} {n : Nat} {L : Sl} {H : Hp} {w0 : World} {bs : List Res} {Q : Exit → Act → World → Prop} {ops : Array Oper} {rest : List Oper} {K : Act → World → Prop}
variable {d : Option Tmp} {ty : TypeId} {pos : String} {aft : Array Edge} {g : Option (Nat × Bool)} {v : Value} {t : Tmp} {op : Op} {x y z : Operand} {T T' : TypeId}
def ptrN (P : Program) (T : TypeId) : Option TypeId := match P.underlying T with | some (.pointer e) => if (P.info? e).isSome then some e else none | _ => none
theorem ptrN_spec {e : TypeId} (h : ptrN P T = some e) : P.underlying T = some (.pointer e) ∧ ∃ j,P.info? e = some j := by
 unfold ptrN at h
 cases hu : P.underlying T with
 | none => rw [hu] at h;cases h
 | some q =>
  rw [hu] at h
  cases q <;> simp only [reduceCtorEq] at h
  rename_i e'
  split at h
  ·rename_i hi
   cases h
   exact ⟨rfl,Option.isSome_iff_exists.1 hi⟩
  ·cases h
theorem Yl.neqP {e : TypeId} {a : Addr} (hT : ptrN P T = some e) (hx : ev L x = some (.pointer (some a))) (hy : ev L y = some (.pointer (some a))) : Yl P L H w0 bs ⟨d,.binOp .neq T x y T',ty,pos,aft,g⟩ (.bool false) := .of_run fun ac W f _ => by
 obtain ⟨hp,j,hj⟩ := ptrN_spec hT
 have h := Lib.run_neq_ptr_same (P := P) W a hp hj
 unfold execOp
 simp [f x _ hx,f y _ hy,Sem.run_bind,eqGuard,Sem.run_pure,Result.andThen,h]
theorem Yl.eqPn {e : TypeId} {p : Option Addr} (hT : ptrN P T = some e) (hx : ev L x = some (.pointer p)) (hy : ev L y = some (.pointer none)) : Yl P L H w0 bs ⟨d,.binOp .eql T x y T',ty,pos,aft,g⟩ (.bool p.isNone) := .of_run fun ac W f _ => by
 obtain ⟨hp,j,hj⟩ := ptrN_spec hT
 have h : ∀ q : Nat,(Op.equalIn (q + 1) T (.pointer p) (.pointer none)).run P W = .ok p.isNone W := fun q => by
  cases p <;> simp [Op.equalIn,run_underlying hp]
 unfold execOp
 simp [f x _ hx,f y _ hy,Sem.run_bind,eqGuard,Sem.run_pure,Result.andThen,binOp,Op.equal,Op.maxDepth,h 9999]
theorem Yl.ext {f : FuncId} {xs : List Operand} {vs : List Value} {ats : Array TypeId} (hv : evs L xs = some vs) (h : ∀ W,(callFunc f vs.toArray).run P W = .ok (.value v) W) : Yl P L H w0 bs ⟨d,.call ⟨.value (.func f),xs.toArray,ats⟩,ty,pos,aft,g⟩ v := .of_run fun a W f0 s => by
 have hm := evs_map f0 hv
 have : (#[] : Array Value) = [].toArray := rfl
 unfold execOp
 simp only [resolve,Act.eval,Deferred.ofValue,Sem.run_bind,Sem.run_pure,Result.andThen,invoke,List.map_toArray,hm,this,List.append_toArray,List.nil_append,List.append_nil,h]
def unsN (P : Program) (T : TypeId) : Bool := match P.underlying T with | some .unsafePointer => true | _ => false
theorem unsN_spec (h : unsN P T = true) : P.underlying T = some .unsafePointer := by
 unfold unsN at h
 cases hu : P.underlying T with
 | none => rw [hu] at h;cases h
 | some q => rw [hu] at h;cases q <;> simp_all
def ptrS (P : Program) (T : TypeId) : Option (TypeId × Nat) := match P.underlying T with | some (.pointer e) => (P.info? e).map fun j => (e,j.size) | _ => none
theorem ptrS_spec {e : TypeId} {m : Nat} (h : ptrS P T = some (e,m)) : P.underlying T = some (.pointer e) ∧ ∃ j,P.info? e = some j ∧ j.size = m := by
 unfold ptrS at h
 cases hu : P.underlying T with
 | none => rw [hu] at h;cases h
 | some q =>
  rw [hu] at h
  cases q <;> simp only [reduceCtorEq] at h
  rename_i e'
  obtain ⟨j,hj,h2⟩ := Option.map_eq_some_iff.1 h
  injection h2 with h3 h4
  subst h3 h4
  exact ⟨rfl,j,hj,rfl⟩
theorem St.shape {W : World} {b : Nat} {l : List Value} {t' : TypeId} (s : St H w0 bs W) (hm : Res.box b l t' ∈ bs) : W.shape? b = some (t',l.length) := by
 have hb := (s.own _ hm).1.2
 simp [World.shape?,hb]
theorem Yl.toU {e : TypeId} {m b : Nat} {l : List Value} {t' : TypeId} (hT : ptrS P T = some (e,m + 1)) (hT' : unsN P T' = true) (hm : Res.box b l t' ∈ bs) (hl : 0 < l.length) (hx : ev L x = some (.pointer (some ⟨b,0,none⟩))) : Yl P L H w0 bs ⟨d,.convert T T' x,ty,pos,aft,g⟩ (.pointer (some ⟨b,0,none⟩)) := .of_run fun ac W f s => by
 obtain ⟨hp,j,hj,hjs⟩ := ptrS_spec hT
 have h := Lib.run_to_unsafe (P := P) W ⟨b,0,none⟩ hp (unsN_spec hT') hj (by omega) (s.shape hm) hl
 unfold execOp
 simp only [f x _ hx,Sem.run_bind,h,Result.andThen,Sem.run_pure]
theorem Yl.fromU {e : TypeId} {m b : Nat} {l : List Value} {t' : TypeId} (hT : unsN P T = true) (hT' : ptrS P T' = some (e,m)) (hm : Res.box b l t' ∈ bs) (hlies : liesAt P P.depth t' (l.length / P.cellsOf t') 0 e 1 = true) (hx : ev L x = some (.pointer (some ⟨b,0,none⟩))) : Yl P L H w0 bs ⟨d,.convert T T' x,ty,pos,aft,g⟩ (.pointer (some ⟨b,0,none⟩)) := .of_run fun ac W f s => by
 obtain ⟨hp,j,hj,hjs⟩ := ptrS_spec hT'
 have h := Lib.run_from_unsafe (P := P) W ⟨b,0,none⟩ (unsN_spec hT) hp hj (s.shape hm) hlies
 unfold execOp
 simp only [f x _ hx,Sem.run_bind,h,Result.andThen,Sem.run_pure]
theorem strCells_eq (l : List UInt8) : Lib.strCells ⟨l.toArray⟩ = l.map byteV := by simp [Lib.strCells,byteV]
def byteN (P : Program) (T : TypeId) : Option TypeId := match P.underlying T with | some (.slice e) => (P.info? e).bind fun i => (match i.zero with | some (.int .u8 0) => if i.size = 1 ∧ i.bytes = 1 then some e else none | _ => none) | _ => none
theorem byteN_spec {e : TypeId} (h : byteN P T = some e) : P.underlying T = some (.slice e) ∧ ∃ i,P.info? e = some i ∧ i.zero = some (.int .u8 0) ∧ i.size = 1 ∧ i.bytes = 1 := by
 unfold byteN at h
 cases hu : P.underlying T with
 | none => rw [hu] at h;cases h
 | some q =>
  rw [hu] at h
  cases q <;> simp only [reduceCtorEq] at h
  rename_i e'
  obtain ⟨i,hi,h2⟩ := Option.bind_eq_some_iff.1 h
  split at h2
  ·rename_i hz
   split at h2
   ·rename_i hs
    cases h2
    exact ⟨rfl,i,hi,hz,hs.1,hs.2⟩
   ·cases h2
  ·cases h2
theorem At.as {e T2 : TypeId} {k : Nat} {r : Value} {l s0 : List UInt8} {bs' : Value → List Res} (hT : byteN P T = some e) (hT2 : isStr P T2 = true) (hx : ev L x = some r) (hm : ∀ r',Upd bs (.row e 1 r k (l.map byteV)) (.row e 1 r' (k + s0.length) ((l ++ s0).map byteV)) (bs' r'))
 (hy : ev L y = some (.string ⟨s0.toArray⟩)) (hb : k + s0.length ≤ 140737488355328) (ht : Nat.blt t n = true)
 (h : ∀ r',At n ((t,r') :: L) H w0 (bs' r') (wpList P ops Q rest)) : At n L H w0 bs (wpList P ops Q (⟨some t,.call ⟨.builtin .append,#[x,y],#[T,T2]⟩,ty,pos,aft,none⟩ :: rest)) := by
 obtain ⟨hu,i,hi,hz,hs1,hby⟩ := byteN_spec hT
 refine cons ?_
 intro a W f s
 have hown : W.ownsRow w0.heap.size e 1 r k (l.map byteV) := (s.own _ (hm r).mem).1
 have hsz : (⟨s0.toArray⟩ : ByteArray).size = s0.length := str_size s0
 obtain ⟨v',W',hr,ho,hg,hnil⟩ := Lib.run_append_own_string (P := P) W w0.heap.size T T2 ty e i hu (isStr_spec hT2) hi hz hs1 hby r k (l.map byteV) hown ⟨s0.toArray⟩ (by rw [hsz];simp only [maxLen];omega) (by rw [hsz];exact hb) s.ext.size
 rw [strCells_eq,← List.map_append,hsz] at ho
 have hblk : ∀ q,v'.ownBlock = some q → r.ownBlock = some q ∨ W.heap.size ≤ q := by
  have hus := isStr_spec hT2
  rcases hown.2 with ⟨rfl,rfl⟩ | ⟨g,cap,cur,rfl,hbg,hgc,hnc,hcm,hcs,htake⟩
  ·intro q hq
   by_cases hm0 : s0.length = 0
   ·rw [hnil.2 ⟨rfl,by rw [hsz];exact hm0⟩] at hq;cases hq
   ·have h2 := run_append_nil_string (P := P) W T T2 ty e i (.int .u8 0) hu hus hi hz ⟨s0.toArray⟩ (by omega) (by omega) (by rw [hby,hsz];omega)
    rw [h2] at hr
    injection hr with e1 e2
    rw [← e1] at hq
    right
    have := Option.some.inj hq
    simp at this
    omega
  ·intro q hq
   by_cases hroom : k + s0.length ≤ cap
   ·have hcs' : cur.size = cap := by simpa using hcs
    have h2 := Lib.run_append_room_string (P := P) W T T2 ty e i hu hus hi hs1 g k cap cur hgc ⟨s0.toArray⟩ (by rw [hsz];exact hroom) (by rw [hsz];omega)
    rw [h2] at hr
    injection hr with e1 e2
    rw [← e1] at hq
    exact .inl hq
   ·have h2 := Lib.run_append_grow_string (P := P) W T T2 ty e i (.int .u8 0) hu hus hi hz ⟨g,0,none⟩ k cap (l.map byteV) (by rw [hs1];exact hown.1) (World.ownsRow.cells hown (g := g) rfl) ⟨s0.toArray⟩ (by omega) (by omega) (by rw [hby,hsz];exact growslice_fits (by omega) (by omega))
    rw [h2] at hr
    injection hr with e1 e2
    rw [← e1] at hq
    right
    have := Option.some.inj hq
    simp at this
    omega
 refine one_plain rfl ?_
 unfold Oper.wp execOp
 simp only [resolve,invoke,builtin,Sem.run_bind,Sem.run_pure,Result.andThen_ok,List.map_toArray,List.map_cons,List.map_nil,f.ev hx,f.ev hy,hr]
 refine h v' _ _ (f.put ht _) ?_
 have hlt : ∀ q,r.ownBlock = some q → w0.heap.size ≤ q := fun q hq => (World.ownsRow.lt hown q hq).1
 refine s.upd (hm v') ?_ hg.size (fun q hq hn => hg.block q hq (fun e => hn e.symm)) ho hblk
 refine Ext.of_below ⟨hg.os.trans s.ext.below.os,hg.tape.trans s.ext.below.tape,hg.output.trans s.ext.below.output,Nat.le_trans s.ext.below.size hg.size,fun q hq => ?_⟩
 rw [hg.block q (Nat.lt_of_lt_of_le hq s.ext.size) (fun e => by have := hlt q e.symm;omega)]
 exact s.ext.below.block q hq
theorem Yl.sliceData {b m c : Nat} {ts : Array TypeId} (hc : c ≠ 0) (hx : ev L x = some (.slice (some ⟨b,0,none⟩) m c)) : Yl P L H w0 bs ⟨d,.call ⟨.builtin .unsafeSliceData,#[x],ts⟩,ty,pos,aft,g⟩ (.pointer (some ⟨b,0,none⟩)) := .of_run fun ac W f _ => by
 have h1 : (Builtin.unsafeSliceData_ ts ty #[.slice (some ⟨b,0,none⟩) m c]).run P W = .ok (.pointer (some ⟨b,0,none⟩)) W := by
  have e : Builtin.unsafeSliceData_ ts ty #[.slice (some ⟨b,0,none⟩) m c] = (if c ≠ 0 then pure (.pointer (some ⟨b,0,none⟩)) else do
   if (← viewAt b).isSome then pure (.pointer (some ⟨b,0,none⟩)) else pure (.pointer (some ⟨← newObj (.view ⟨b,0,none⟩ (← elemOf ty)),0,none⟩))) := rfl
  rw [e,if_pos hc];simp
 unfold execOp
 simp only [f x _ hx,resolve,invoke,builtin,Sem.run_bind,Sem.run_pure,Result.andThen_ok,List.map_toArray,List.map_cons,List.map_nil,h1]
theorem At.us {e pt it : TypeId} {b c k : Nat} {l : List UInt8} {z : Int} (hp : ptrS P pt = some (e,k)) (hc1 : P.cellsOf e = 1) (hm : Res.row e 1 (.slice (some ⟨b,0,none⟩) l.length c) l.length (l.map byteV) ∈ bs) (h0 : l ≠ []) (h63 : l.length ≤ 9223372036854775807) (hx : ev L x = some (.pointer (some ⟨b,0,none⟩))) (hy : ev L y = some (.int .i64 z)) (hz : z = (l.length : Nat)) (ht : Nat.blt t n = true)
 (h : At n ((t,.string ⟨l.toArray⟩) :: L) H w0 [] (wpList P ops Q rest)) : At n L H w0 bs (wpList P ops Q (⟨some t,.call ⟨.builtin .unsafeString,#[x,y],#[pt,it]⟩,ty,pos,aft,none⟩ :: rest)) := by
 subst hz
 refine cons ?_
 intro a W f s
 obtain ⟨hu,j,hj,hjs⟩ := ptrS_spec hp
 have hown := (s.own _ hm).1
 have hH := (s.own _ hm).2 b rfl
 obtain ⟨_,⟨h1,_⟩ | ⟨g,cap,cur,e1,hg,hc,hn,hcm,hcs,htk⟩⟩ := hown
 ·cases h1
 injection e1 with e2 e3 e4
 obtain rfl : b = g := by injection (Option.some.inj e2)
 have hcells := World.ownsRow.cells (s.own _ hm).1 (g := b) rfl
 have hcs' : cur.size = cap := by simpa using hcs
 have hr := Lib.run_unsafeString_row (P := P) W pt it ty e hu hc1 b cur.size (by simp [World.shape?,hc]) l h0 (by omega) h63 (fun q u hq => hcells q _ (by rw [List.getElem?_map,hq];rfl))
 have hl0 : l.length ≠ 0 := by simpa using h0
 refine one_plain rfl ?_
 unfold Oper.wp execOp
 simp only [resolve,invoke,builtin,Sem.run_bind,Sem.run_pure,Result.andThen_ok,List.map_toArray,List.map_cons,List.map_nil,f.ev hx,f.ev hy,hr]
 refine h _ _ (f.put ht _) ?_
 have hk : ∀ q,q ≠ b → (W.freeze ⟨b,0,none⟩ l.length).heap[q]? = W.heap[q]? := fun q hq => by
  unfold World.freeze
  rw [if_neg hl0]
  show (W.heap.modify b _)[q]? = _
  rw [Array.getElem?_modify,if_neg (Ne.symm hq)]
 have hsz : (W.freeze ⟨b,0,none⟩ l.length).heap.size = W.heap.size := by unfold World.freeze;rw [if_neg hl0];simp
 have hx := s.ext.below
 have h5 : (W.freeze ⟨b,0,none⟩ l.length).os = W.os ∧ (W.freeze ⟨b,0,none⟩ l.length).tape = W.tape ∧ (W.freeze ⟨b,0,none⟩ l.length).output = W.output := by unfold World.freeze;rw [if_neg hl0];exact ⟨rfl,rfl,rfl⟩
 refine ⟨Ext.of_below ⟨h5.1.trans hx.os,h5.2.1.trans hx.tape,h5.2.2.trans hx.output,by rw [hsz];exact hx.size,fun q hq => ?_⟩,fun q o hq => ?_,(fun _ h => by cases h),.nil⟩
 ·rw [hk q (by omega)];exact hx.block q hq
 ·rw [hk q (fun e => by rw [e,hH] at hq;cases hq)];exact s.agr q o hq
theorem St.pickT {W : World} {hd tl hd' : List Res} (s : St H w0 (hd ++ tl) W) (ix : List Nat) (hn : nodupB ix = true) (hm : ix.map (fun i => hd[i]?) = hd'.map some) : St H w0 (hd' ++ tl) W := by
 have hlt : ∀ i x,hd[i]? = some x → (hd ++ tl)[i]? = some x := fun i x e => by
  rw [List.getElem?_append_left (List.getElem?_eq_some_iff.1 e).1];exact e
 have key : ∀ (ix : List Nat) (hd' : List Res),nodupB ix = true → ix.map (fun i => hd[i]?) = hd'.map some → (∀ x ∈ hd',∃ i ∈ ix,hd[i]? = some x) ∧ (hd' ++ tl).Pairwise Res.apart := by
  intro ix
  induction ix with
  | nil =>
   intro hd' _ hm
   cases hd' with
   | nil => exact ⟨fun x hx => (by cases hx),(List.pairwise_append.1 s.apart).2.1⟩
   | cons a r => simp at hm
  | cons i r ih =>
   intro hd' hn hm
   cases hd' with
   | nil => simp at hm
   | cons a q =>
    simp only [List.map_cons,List.cons.injEq] at hm
    simp only [nodupB,Bool.and_eq_true,Bool.not_eq_true'] at hn
    obtain ⟨h1,h2⟩ := ih q hn.2 hm.2
    refine ⟨fun x hx => ?_,?_⟩
    ·rcases List.mem_cons.1 hx with rfl | hx
     ·exact ⟨i,.head _,hm.1⟩
     ·obtain ⟨j,hj,e⟩ := h1 x hx
      exact ⟨j,.tail _ hj,e⟩
    ·rw [List.cons_append,List.pairwise_cons]
     refine ⟨fun y hy => ?_,h2⟩
     rcases List.mem_append.1 hy with hy | hy
     ·obtain ⟨j,hj,e⟩ := h1 y hy
      refine pairwise_at s.apart (hlt _ _ hm.1) (hlt _ _ e) fun h => ?_
      subst h
      have := hn.1
      simp [hj] at this
     ·exact (List.pairwise_append.1 s.apart).2.2 a (List.mem_of_getElem? hm.1) y hy
 obtain ⟨h1,h2⟩ := key ix hd' hn hm
 refine ⟨s.ext,s.agr,fun x hx => ?_,h2⟩
 rcases List.mem_append.1 hx with hx | hx
 ·obtain ⟨i,_,e⟩ := h1 x hx
  exact s.own x (List.mem_append_left _ (List.mem_of_getElem? e))
 ·exact s.own x (List.mem_append_right _ hx)
theorem At.pt {G : Act → World → Prop} {hd tl hd' : List Res} (ix : List Nat) (hn : nodupB ix = true) (hm : ix.map (fun i => hd[i]?) = hd'.map some) (h : At n L H w0 (hd' ++ tl) G) : At n L H w0 (hd ++ tl) G := fun a W f s => h a W f (s.pickT ix hn hm)
theorem At.mk {e : TypeId} {v0 : Value} {bytes m : Nat} {kl kc : IntKind} {i j : Int} (hT : rowN P T = some (e,1,bytes)) (hz0 : zeroN P e = some [v0]) (hx : ev L x = some (.int kl i)) (hy : ev L y = some (.int kc j)) (hi : i = (m : Int)) (hj : j = (m : Int)) (hb : bytes * m ≤ 281474976710656) (h63 : m ≤ 9223372036854775807) (ht : Nat.blt t n = true)
 (h : ∀ b,At n ((t,.slice (some ⟨b,0,none⟩) m m) :: L) H w0 (.box b (List.replicate m v0) e :: bs) (wpList P ops Q rest)) : At n L H w0 bs (wpList P ops Q (⟨some t,.makeSlice T x y,ty,pos,aft,none⟩ :: rest)) := by
 subst hi hj
 obtain ⟨hu,q,z,hq,hz,hsz,hby,hzs,h0⟩ := rowN_spec hT
 have hz1 : z.cells.toList = [v0] := by
  have h2 := hz0
  unfold zeroN at h2
  rw [hq] at h2
  simp only [Option.bind_some,hz,Option.map_some,Option.some.injEq] at h2
  exact h2
 refine cons ?_
 intro a W f s
 refine one_plain rfl ?_
 have hbz : (q.bytes : Int) * (m : Int) ≤ 281474976710656 := by
  have h5 : ((q.bytes * m : Nat) : Int) ≤ 281474976710656 := by rw [hby];omega
  rwa [Int.natCast_mul] at h5
 have hr := run_make (P := P) W T e q z hu hq hz kl kc m m (by omega) (Int.le_refl _) hbz (by omega)
 have hcs : madeCells z.cells (((m : Int)).toNat * q.size) = (List.replicate m v0).toArray := by
  have e1 : z.cells = #[v0] := by rw [← Array.toArray_toList (xs := z.cells),hz1]
  rw [e1,hsz,Int.toNat_natCast,Nat.mul_one]
  apply Array.ext
  ·simp [madeCells]
  ·intro i h1 h2
   simp [madeCells,Nat.mod_one]
 rw [hcs,Int.toNat_natCast] at hr
 unfold Oper.wp execOp
 simp only [Sem.run_bind,Sem.run_pure,Result.andThen_ok,f.ev hx,f.ev hy,hr]
 exact h _ _ _ (f.put ht _) (s.alloc _ _)
end
theorem dt {p : Prop} [Decidable p] : (decide p = true) = p := decide_eq_true_eq
theorem df {p : Prop} [Decidable p] : (decide p = false) = ¬ p := propext decide_eq_false_iff_not
theorem nb {a b : Nat} (h : Nat.ble a b = true) : a ≤ b := Nat.le_of_ble_eq_true h
theorem z0 {l : List Value} : ∀ (j : Nat) u,l[j]? = some u → l[0 + j]? = some u := fun j u h => by rw [Nat.zero_add];exact h
theorem w6 {i : Int} (h : -9223372036854775808 ≤ i ∧ i ≤ 9223372036854775807) : IntKind.i64.wrap i = i := w64 h.1 h.2
section
variable {P : Program} {n : Nat} {L : Sl} {H : Hp} {w0 : World} {bs : List Res} {Q : Exit → Act → World → Prop} {ops : Array Oper}
theorem At.nt {K : Act → World → Prop} (h : At n L H w0 bs K) : At n L H w0 bs (wpList P ops (Exit.then K Q) []) := .nl (.tN h)
theorem At.sr {id : Nat} {l : List Oper} {y : Code} (h : At n L H w0 bs (wpList P l.toArray (Exit.then (y.wp P Q) Q) l)) : At n L H w0 bs ((Code.seq (Code.region id l.toArray false) y).wp P Q) := .sq (.rg h)
theorem At.ns {Q' : Exit → Act → World → Prop} {id : Nat} {l : List Oper} {y : Code} (h : At n L H w0 bs (wpList P l.toArray (Exit.then (y.wp P Q') Q') l)) : At n L H w0 bs (wpList P ops (Exit.then ((Code.seq (Code.region id l.toArray false) y).wp P Q') Q) []) := .nl (.tN (.sq (.rg h)))
end
section
variable {P : Program} {n : Nat} {L : Sl} {H : Hp} {w0 : World} {bs : List Res} {Q : Exit → Act → World → Prop} {ops : Array Oper} {K : Act → World → Prop}
def exN (K : Act → World → Prop) (Q : Exit → Act → World → Prop) : Exit → Act → World → Prop := fun e => match e with | .normal => K | e => Q e
theorem At.ar {id : Nat} {l : List Oper} (m : Nat) (l0 : Array Bool) (hm : P.follows .mixedOrders = true) (hn : l.toArray.size = m) (h0 : Array.replicate m false = l0)
 (h : At n L H w0 bs (wpAny P .any l.toArray Q m l0)) : At n L H w0 bs ((Code.region id l.toArray true).wp P Q) := anyRegion m l0 hm hn h0 h
theorem At.an {fuel : Nat} {listed : Array Bool} (x : Nat) (rs : List Nat) (hr : Region.ready .any ops listed = x :: rs)
 (h : AllIn (fun i => At n L H w0 bs (wpOp P ops Q i (wpAny P .any ops Q fuel (listed.setIfInBounds i true)))) (x :: rs)) : At n L H w0 bs (wpAny P .any ops Q (fuel + 1) listed) := anyStep x rs hr h
theorem one_exN {o : Oper} {a : Act} {w : World} (h : one P ops (exN K Q) o K a w) : one P ops Q o K a w := by
 unfold one at *
 split at h <;> rename_i hw
 ·rw [if_pos hw];exact h
 ·rw [if_neg hw];exact h
theorem At.ao {fuel i : Nat} {listed : Array Bool} {o : Oper} (l' : Array Bool) (ho : ops[i]? = some o) (hl : listed.setIfInBounds i true = l') (h : At n L H w0 bs (wpList P ops (exN (wpAny P .any ops Q fuel l') Q) [o])) :
 At n L H w0 bs (wpOp P ops Q i (wpAny P .any ops Q fuel (listed.setIfInBounds i true))) := anyOp l' ho hl fun a W f s => one_exN (h a W f s)
theorem At.nx (h : At n L H w0 bs K) : At n L H w0 bs (wpList P ops (exN K Q) []) := nil h
theorem At.ae {listed : Array Bool} (hr : Region.ready .any ops listed = []) (h : At n L H w0 bs (Q .normal)) : At n L H w0 bs (wpAny P .any ops Q 0 listed) := anyEnd hr h
theorem Yl.cutHi2 {d : Option Tmp} {ty : TypeId} {pos : String} {aft : Array Edge} {g : Option (Nat × Bool)} {x y : Operand} {T : TypeId} {p : Option Addr} {len c z h : Nat} {k : IntKind} {i : Int} (hT : slN P T = some z) (hx : ev L x = some (.slice p len c)) (hy : ev L y = some (.int k i)) (e : i = (h : Int)) (hh : h ≤ c) :
 Yl P L H w0 bs ⟨d,.slice T x none (some y) none,ty,pos,aft,g⟩ (.slice (if c = 0 then p else p.map fun q => q.add 0) h c) := .of_run fun a W f _ => by
 subst e
 obtain ⟨el,hu,hz⟩ := slN_spec hT
 unfold execOp
 simp [f x _ hx,f y _ hy,Instr.sliceAt,Instr.slice,underlying,program,Sem.run,Result.andThen,hu,Instr.sliceBounds,Instr.sliceBound,asIntOf,hh,run_sizeOf hz]
theorem rep_take2 {z n c hi : Nat} {ds : List D} {p : Option Addr} (h : Rep H (.seq z ds) [.slice p n c]) (hl : hi ≤ n) : Rep H (.seq z (ds.take hi)) [.slice (if c = 0 then p else p.map fun q => q.add 0) hi c] := by
 have hn := h.len
 by_cases hc : c = 0
 ·have h0 : ds = [] := List.eq_nil_of_length_eq_zero (by omega)
  rw [if_pos hc,h0,List.take_nil,show hi = 0 by omega]
  exact .empty (by omega)
 rw [if_neg hc]
 unfold Rep at h
 obtain ⟨p',c',h1,h2,h3,h4⟩ := h
 injection h1 with h1 _
 injection h1 with h5 h6 h7
 subst h5 h7
 rcases h4 with h4 | ⟨b',off',cs,rfl,h9,h10⟩
 ·subst h4
  obtain rfl : hi = 0 := by simp only [List.length_nil] at h6;omega
  exact .empty (by omega)
 ·exact .mk (h9.take (hi * z)) (h10.take hi) (by rw [List.length_take];omega) (by omega) (by omega)
end
inductive Ty where
 | int (k : IntKind)
 | bool
 | strg
 | seq (τ : Ty)
 | str (fs : List Ty)
 | arr (n : Nat) (τ : Ty)
mutual
def Ty.cells : Ty → Nat
 | .int _ => 1
 | .bool => 1
 | .strg => 1
 | .seq _ => 1
 | .str fs => Ty.cellsL fs
 | .arr n τ => n * Ty.cells τ
def Ty.cellsL : List Ty → Nat
 | [] => 0
 | τ :: r => Ty.cells τ + Ty.cellsL r
end
mutual
def Ty.at (P : Program) : Ty → TypeId → Bool
 | .int k,t => match P.underlying t with | some (.int k') => decide (k' = k) | _ => false
 | .bool,t => match P.underlying t with | some .bool => true | _ => false
 | .strg,t => match P.underlying t with | some .string => true | _ => false
 | .seq τ,t => match P.underlying t with | some (.slice e) => Ty.at P τ e && decide (P.cellsOf e = Ty.cells τ) && decide (0 < Ty.cells τ) | _ => false
 | .str fs,t => match P.underlying t with | some (.struct g) => decide (P.cellsOf t = Ty.cellsL fs) && Ty.atL P fs g.toList 0 | _ => false
 | .arr n τ,t => match P.underlying t with | some (.array m e) => decide (m = n) && Ty.at P τ e && decide (P.cellsOf e = Ty.cells τ) && decide (P.cellsOf t = n * Ty.cells τ) | _ => false
def Ty.atL (P : Program) : List Ty → List Field → Nat → Bool
 | [],[],_ => true
 | τ :: r,f :: g,o => Ty.at P τ f.type && decide (f.offset = o) && decide (P.cellsOf f.type = Ty.cells τ) && Ty.atL P r g (o + Ty.cells τ)
 | _,_,_ => false
end
mutual
def Ty.has : Ty → D → Prop
 | .int k,d => ∃ n,d = .val (.int k n) ∧ (Lit.int k n).wf = true
 | .bool,d => ∃ b,d = .val (.bool b)
 | .strg,_ => False
 | .seq τ,d => ∃ ds,d = .seq (Ty.cells τ) ds ∧ ∀ x ∈ ds,Ty.has τ x
 | .str fs,d => ∃ ds,d = .str ds ∧ Ty.hasL fs ds
 | .arr _ _,_ => False
def Ty.hasL : List Ty → List D → Prop
 | [],ds => ds = []
 | τ :: r,ds => ∃ d q,ds = d :: q ∧ Ty.has τ d ∧ Ty.hasL r q
end
mutual
def Ty.opn : Ty → Bool
 | .int _ => true
 | .bool => true
 | .strg => false
 | .seq τ => Ty.opn τ
 | .str fs => Ty.opnL fs
 | .arr _ _ => false
def Ty.opnL : List Ty → Bool
 | [] => true
 | τ :: r => Ty.opn τ && Ty.opnL r
end
mutual
def Ty.pln : Ty → Bool
 | .int _ => true
 | .bool => true
 | .strg => true
 | .seq _ => false
 | .str fs => Ty.plnL fs
 | .arr _ τ => Ty.pln τ
def Ty.plnL : List Ty → Bool
 | [] => true
 | τ :: r => Ty.pln τ && Ty.plnL r
end
def allH (W : World) : Hp := fun b => W.heap[b]?
theorem allH_agr (W : World) : Agr (allH W) W := fun _ _ h => h
theorem cell_block {W : World} {a : Addr} {v : Value} (h : W.cell? a = some v) : ∃ cs t m,W.heap[a.block]? = some (.cells cs t m) ∧ a.spot = Option.none ∧ cs[a.off]? = some v := by
 unfold World.cell? at h
 split at h
 ·rename_i cs t m e
  split at h
  ·cases h
  ·rename_i hs
   exact ⟨cs,t,m,e,by simpa using hs,h⟩
 ·cases h
theorem add_add (a : Addr) (x y : Nat) : (a.add x).add y = a.add (x + y) := by
 by_cases hx : x = 0
 ·subst hx;simp [Addr.add]
 ·by_cases hy : y = 0
  ·subst hy;simp [Addr.add]
  ·simp [Addr.add,hx,hy,Nat.add_assoc]
section
variable {H : Type} {enc : TypeId × Value → H} {P : Program} {base : Nat} {sp : Nat → Bool} {held : Bool}
mutual
theorem Ty.opens (W : World) : ∀ (τ : Ty) (t : TypeId) (fuel : Nat) (cs : List Value) (x : DataW H × List MemPlace),Ty.at P τ t = true → Ty.opn τ = true → DataW.trod enc P W base sp held fuel t cs = some x → ∃ d,Ty.has τ d ∧ Rep (allH W) d cs
 | .int k,t,fuel,cs,x,ha,_,h => by
  unfold Ty.at at ha
  split at ha
  ·rename_i k' hu
   obtain rfl : k' = k := by simpa using ha
   obtain ⟨n,rfl,_,hw⟩ := DataW.trod_int hu h
   refine ⟨.val (.int k' n),?_,?_⟩
   ·unfold Ty.has;exact ⟨n,rfl,hw⟩
   ·unfold Rep;exact ⟨rfl,rfl,trivial⟩
  ·cases ha
 | .bool,t,fuel,cs,x,ha,_,h => by
  unfold Ty.at at ha
  split at ha
  ·rename_i hu
   obtain ⟨b,rfl,_⟩ := DataW.trod_bool hu h
   refine ⟨.val (.bool b),?_,?_⟩
   ·unfold Ty.has;exact ⟨b,rfl⟩
   ·unfold Rep;exact ⟨rfl,rfl,trivial⟩
  ·cases ha
 | .strg,_,_,_,_,_,ho,_ => by simp [Ty.opn] at ho
 | .arr _ _,_,_,_,_,_,ho,_ => by simp [Ty.opn] at ho
 | .str fs,t,fuel,cs,x,ha,ho,h => by
  unfold Ty.at at ha
  split at ha
  ·rename_i g hu
   simp only [Bool.and_eq_true,decide_eq_true_eq] at ha
   unfold Ty.opn at ho
   obtain ⟨xs,n,_,rfl,hl,hlen,hf⟩ := DataW.trod_struct hu h
   obtain ⟨ds,h1,h2⟩ := Ty.opensL W fs g.toList 0 n cs ha.2 ho (by rw [hl,ha.1];omega) (fun i f hi => by
    have hi2 : g[i]? = some f := by simpa using hi
    have := hf i f hi2
    have hlt : i < xs.length := by rw [hlen];exact (Array.getElem?_eq_some_iff.1 hi2).1
    rw [List.getElem?_eq_getElem hlt] at this
    exact ⟨_,this⟩)
   refine ⟨.str ds,?_,?_⟩
   ·unfold Ty.has;exact ⟨ds,rfl,h1⟩
   ·unfold Rep;simpa using h2
  ·cases ha
 | .seq τ,t,fuel,cs,x,ha,ho,h => by
  unfold Ty.at at ha
  split at ha
  ·rename_i e hu
   simp only [Bool.and_eq_true,decide_eq_true_eq] at ha
   obtain ⟨⟨ha,hz⟩,h0⟩ := ha
   unfold Ty.opn at ho
   rcases Go.Deep.open_slice hu h with ⟨rfl,-⟩ | ⟨a,len,cap,m,n,D,Pl,rfl,-,hl,hm,hmm,-,hi⟩
   ·refine ⟨.seq (Ty.cells τ) [],?_,.empty (by simp [maxLen])⟩
    unfold Ty.has;exact ⟨[],rfl,by simp⟩
   have hlm : len ≤ m := by rw [hmm];split <;> omega
   have key : ∀ q,q ≤ len → ∃ ds l,ds.length = q ∧ (∀ x ∈ ds,Ty.has τ x) ∧ RepZ (allH W) (Ty.cells τ) ds l ∧ l.length = q * Ty.cells τ ∧ ∀ (j : Nat) u,l[j]? = some u → W.cell? (a.add j) = some u := by
    intro q
    induction q with
    | zero => intro _;exact ⟨[],[],rfl,by simp,RepZ.nil,by simp,by simp⟩
    | succ q ih =>
     intro hq
     obtain ⟨ds,l,h1,h2,h3,h4,h5⟩ := ih (by omega)
     obtain ⟨cs',hc,ht⟩ := hi q (by omega)
     rw [hz] at hc
     obtain ⟨_,hcl,hat⟩ := World.cells?_some hc
     obtain ⟨d,hd,hr⟩ := Ty.opens W τ e n cs' _ ha ho ht
     refine ⟨ds ++ [d],l ++ cs',by simp [h1],?_,h3.snoc hr hcl,by rw [List.length_append,h4,hcl,Nat.succ_mul],?_⟩
     ·intro x hx
      rcases List.mem_append.1 hx with hx | hx
      ·exact h2 x hx
      ·rw [List.mem_singleton.1 hx];exact hd
     ·intro j u hj
      by_cases hjl : j < l.length
      ·rw [List.getElem?_append_left hjl] at hj;exact h5 j u hj
      ·rw [List.getElem?_append_right (by omega)] at hj
       have hjc := (List.getElem?_eq_some_iff.1 hj).1
       have := hat (j - l.length) (by omega)
       rw [hj] at this
       have h9 : q * Ty.cells τ + (j - l.length) = j := by omega
       have h10 : (a.add (q * Ty.cells τ)).add (j - l.length) = a.add j := by rw [add_add,h9]
       rw [← h10]
       exact this
   obtain ⟨ds,l,h1,h2,h3,h4,h5⟩ := key len (Nat.le_refl _)
   refine ⟨.seq (Ty.cells τ) ds,?_,?_⟩
   ·unfold Ty.has;exact ⟨ds,rfl,h2⟩
   by_cases hl0 : len = 0
   ·subst hl0
    obtain rfl := List.eq_nil_of_length_eq_zero h1
    exact .empty hm
   ·have hlp : 0 < l.length := by rw [h4];exact Nat.mul_pos (by omega) h0
    have hc0 := h5 0 _ (List.getElem?_eq_getElem hlp)
    rw [show a.add 0 = a by simp [Addr.add]] at hc0
    obtain ⟨arr,t',mk,hb,hs,_⟩ := cell_block hc0
    obtain ⟨ab,ao,ap⟩ := a
    simp only at hs hb
    subst hs
    refine .mk ⟨arr,t',mk,hb,fun j u hu => ?_⟩ h3 h1 hl hm
    have h6 := h5 j u hu
    rw [Addr.add_lit] at h6
    obtain ⟨arr',t'',mk',hb',_,h7⟩ := cell_block h6
    have e2 := Option.some.inj (hb.symm.trans hb')
    injection e2 with e3
    subst e3
    exact h7
  ·cases ha
theorem Ty.opensL (W : World) : ∀ (fs : List Ty) (g : List Field) (o n : Nat) (cs : List Value),Ty.atL P fs g o = true → Ty.opnL fs = true → cs.length = o + Ty.cellsL fs →
 (∀ (i : Nat) f,g[i]? = some f → ∃ y,DataW.trod enc P W base sp held n f.type ((cs.drop f.offset).take (P.cellsOf f.type)) = some y) → ∃ ds,Ty.hasL fs ds ∧ RepL (allH W) ds (cs.drop o)
 | [],[],o,n,cs,_,_,hl,_ => by
  refine ⟨[],by unfold Ty.hasL;rfl,?_⟩
  unfold RepL
  exact List.drop_of_length_le (by simp only [Ty.cellsL] at hl;omega)
 | [],_ :: _,_,_,_,ha,_,_,_ => by simp [Ty.atL] at ha
 | _ :: _,[],_,_,_,ha,_,_,_ => by simp [Ty.atL] at ha
 | τ :: r,f :: g,o,n,cs,ha,ho,hl,hf => by
  unfold Ty.atL at ha
  unfold Ty.opnL at ho
  simp only [Bool.and_eq_true,decide_eq_true_eq] at ha ho
  obtain ⟨⟨⟨a1,a2⟩,a3⟩,a4⟩ := ha
  obtain ⟨y,hy⟩ := hf 0 f rfl
  rw [a2,a3] at hy
  obtain ⟨d,h1,h2⟩ := Ty.opens W τ f.type n _ y a1 ho.1 hy
  unfold Ty.cellsL at hl
  obtain ⟨ds,h3,h4⟩ := Ty.opensL W r g (o + Ty.cells τ) n cs a4 ho.2 (by omega) (fun i f' hi => hf (i + 1) f' (by simpa using hi))
  refine ⟨d :: ds,by unfold Ty.hasL;exact ⟨d,ds,rfl,h1,h3⟩,?_⟩
  unfold RepL
  exact ⟨_,_,by rw [← List.drop_drop,List.take_append_drop],h2,h4⟩
end
mutual
def flatD : DataW H → List Value
 | .lit (.int k n) => [.int k n]
 | .lit (.bool b) => [.bool b]
 | .lit (.string l) => [.string ⟨l.toArray⟩]
 | .agg ps => flatDs ps
 | _ => []
def flatDs : List (DataW H) → List Value
 | [] => []
 | d :: r => flatD d ++ flatDs r
end
mutual
theorem Ty.flat (W : World) : ∀ (τ : Ty) (t : TypeId) (fuel : Nat) (cs : List Value) (x : DataW H × List MemPlace),Ty.at P τ t = true → Ty.pln τ = true → DataW.trod enc P W base sp held fuel t cs = some x → cs = flatD x.1
 | .int k,t,fuel,cs,x,ha,_,h => by
  unfold Ty.at at ha
  split at ha
  ·rename_i k' hu
   obtain ⟨n,rfl,rfl,hw⟩ := DataW.trod_int hu h
   simp only [flatD]
  ·cases ha
 | .bool,t,fuel,cs,x,ha,_,h => by
  unfold Ty.at at ha
  split at ha
  ·rename_i hu
   obtain ⟨b,rfl,rfl⟩ := DataW.trod_bool hu h
   simp only [flatD]
  ·cases ha
 | .strg,t,fuel,cs,x,ha,_,h => by
  unfold Ty.at at ha
  split at ha
  ·rename_i hu
   obtain ⟨s,rfl,rfl,_⟩ := DataW.trod_string hu h
   simp only [flatD]
  ·cases ha
 | .seq _,_,_,_,_,_,ho,_ => by simp [Ty.pln] at ho
 | .str fs,t,fuel,cs,x,ha,ho,h => by
  unfold Ty.at at ha
  split at ha
  ·rename_i g hu
   simp only [Bool.and_eq_true,decide_eq_true_eq] at ha
   unfold Ty.pln at ho
   obtain ⟨xs,n,_,rfl,hl,hlen,hf⟩ := DataW.trod_struct hu h
   have h2 := Ty.flatL W fs g.toList 0 n cs xs ha.2 ho (by rw [hl,ha.1];omega) (by simpa using hlen) (fun i f hi => hf i f (by simpa using hi))
   simpa [flatD] using h2
  ·cases ha
 | .arr k τ,t,fuel,cs,x,ha,ho,h => by
  unfold Ty.at at ha
  split at ha
  ·rename_i m e hu
   simp only [Bool.and_eq_true,decide_eq_true_eq] at ha
   obtain ⟨⟨⟨hm,ha⟩,hz⟩,hct⟩ := ha
   subst hm
   unfold Ty.pln at ho
   obtain ⟨xs,n,_,rfl,hl,hlen,hf⟩ := DataW.trod_array hu h
   have key : ∀ (xs : List (DataW H × List MemPlace)) (cs : List Value),cs.length = xs.length * Ty.cells τ → (∀ i,i < xs.length → DataW.trod enc P W base sp held n e ((cs.drop (i * Ty.cells τ)).take (Ty.cells τ)) = xs[i]?) → cs = flatDs (xs.map (·.1)) := by
    intro xs
    induction xs with
    | nil => intro cs hc _;simp at hc;simp [hc,flatDs]
    | cons y r ih =>
     intro cs hc hi
     have h0 := hi 0 (by simp)
     simp only [Nat.zero_mul,List.drop_zero,List.getElem?_cons_zero] at h0
     have e0 := Ty.flat W τ e n _ y ha ho h0
     have e1 := ih (cs.drop (Ty.cells τ)) (by rw [List.length_drop,hc,List.length_cons,Nat.succ_mul];omega) (fun i hlt => by
      have := hi (i + 1) (by simp;omega)
      rw [List.getElem?_cons_succ] at this
      rw [← this,List.drop_drop,show Ty.cells τ + i * Ty.cells τ = (i + 1) * Ty.cells τ by rw [Nat.succ_mul];omega])
     simp only [List.map_cons,flatDs]
     rw [← e0,← e1,List.take_append_drop]
   have h2 := key xs cs (by rw [hl,hct,hlen]) (fun i hlt => by
    have := hf i (by omega)
    rw [hz] at this
    exact this)
   simpa [flatD] using h2
  ·cases ha
theorem Ty.flatL (W : World) : ∀ (fs : List Ty) (g : List Field) (o n : Nat) (cs : List Value) (xs : List (DataW H × List MemPlace)),Ty.atL P fs g o = true → Ty.plnL fs = true → cs.length = o + Ty.cellsL fs → xs.length = g.length →
 (∀ (i : Nat) f,g[i]? = some f → DataW.trod enc P W base sp held n f.type ((cs.drop f.offset).take (P.cellsOf f.type)) = xs[i]?) → cs.drop o = flatDs (xs.map (·.1))
 | [],[],o,n,cs,xs,_,_,hl,hx,_ => by
  obtain rfl := List.eq_nil_of_length_eq_zero hx
  simp only [List.map_nil,flatDs]
  exact List.drop_of_length_le (by simp only [Ty.cellsL] at hl;omega)
 | [],_ :: _,_,_,_,_,ha,_,_,_,_ => by simp [Ty.atL] at ha
 | _ :: _,[],_,_,_,_,ha,_,_,_,_ => by simp [Ty.atL] at ha
 | τ :: r,f :: g,o,n,cs,[],ha,ho,hl,hx,hf => by simp at hx
 | τ :: r,f :: g,o,n,cs,y :: xs,ha,ho,hl,hx,hf => by
  unfold Ty.atL at ha
  unfold Ty.plnL at ho
  simp only [Bool.and_eq_true,decide_eq_true_eq] at ha ho
  obtain ⟨⟨⟨a1,a2⟩,a3⟩,a4⟩ := ha
  have hy := hf 0 f rfl
  rw [a2,a3,List.getElem?_cons_zero] at hy
  have e0 := Ty.flat W τ f.type n _ y a1 ho.1 hy
  unfold Ty.cellsL at hl
  have e1 := Ty.flatL W r g (o + Ty.cells τ) n cs xs a4 ho.2 (by omega) (by simpa using hx) (fun i f' hi => by
   have := hf (i + 1) f' (by simpa using hi)
   rw [List.getElem?_cons_succ] at this
   exact this)
  simp only [List.map_cons,flatDs]
  rw [← e0,← e1,← List.drop_drop,List.take_append_drop]
end
end
theorem laid_mem {P : Program} {W : World} {name : String} {dat : DataW Unit} {rest : List (String × DataW Unit)} {g : Nat} {t : TypeId} (τ : Ty) (cs : List Value)
 (hg : P.globalNamed name = some g) (hty : (P.globals[g]?).map (·.type) = some t) (ha : Ty.at P τ t = true) (hp : Ty.pln τ = true) (hc : flatD dat = cs) (h : laidMet P ((name,dat) :: rest) W) : MemAt (allH W) g 0 cs := by
 obtain ⟨ps,⟨g',t',cs',fuel,p,q,hg',ht',hvar,hd,_,_⟩,_⟩ := h
 obtain rfl := Option.some.inj (hg.symm.trans hg')
 obtain rfl := Option.some.inj (hty.symm.trans ht')
 have e := Ty.flat W τ t fuel cs'.toList _ ha hp hd
 dsimp only at e
 rw [hc] at e
 unfold World.var? at hvar
 rw [hg] at hvar
 simp only [Option.bind_some] at hvar
 split at hvar
 ·rename_i arr T m hb
  refine ⟨arr,T,m,hb,fun j u hu => ?_⟩
  obtain rfl := Option.some.inj hvar
  rw [Nat.zero_add]
  rw [← e] at hu
  simpa using hu
 ·cases hvar
theorem list_of {α β : Type} {f : α → β} : ∀ {ds : List β},(∀ x ∈ ds,∃ y,x = f y) → ∃ l : List α,ds = l.map f
 | [],_ => ⟨[],rfl⟩
 | d :: r,h => by
  obtain ⟨y,rfl⟩ := h d (.head _)
  obtain ⟨l,rfl⟩ := list_of (ds := r) fun x hx => h x (.tail _ hx)
  exact ⟨y :: l,rfl⟩
theorem has_u8 {n : Int} (h : (Lit.int .u8 n).wf = true) : ∃ x : UInt8,n = x.toNat := by
 have e1 : IntKind.u8.min = 0 := rfl
 have e2 : IntKind.u8.max = 255 := rfl
 simp only [Lit.wf,e1,e2,Bool.and_eq_true,decide_eq_true_eq] at h
 exact ⟨UInt8.ofNat n.toNat,by simp [UInt8.toNat_ofNat'];omega⟩
theorem has_i64 {n : Int} (h : (Lit.int .i64 n).wf = true) : ∃ x : Int64,n = x.toInt := by
 have e1 : IntKind.i64.min = -9223372036854775808 := rfl
 have e2 : IntKind.i64.max = 9223372036854775807 := rfl
 simp only [Lit.wf,e1,e2,Bool.and_eq_true,decide_eq_true_eq] at h
 exact ⟨Int64.ofInt n,(Int64.toInt_ofInt_of_le (by simpa using h.1) (by have := h.2;omega)).symm⟩
inductive Pi0 where
 | done
 | no
 | light (i : Nat) (r : Pi0)
 | alt (i k : Nat) (r q : Pi0)
inductive PlT where
 | done
 | no
 | light (i : Nat) (o : Oper) (r : PlT)
 | alt (i k : Nat) (o : Oper) (r q : PlT)
def fillT (l : List Oper) : Pi0 → PlT
 | .done => .done
 | .no => .no
 | .light i r => .light i l[i]! (fillT l r)
 | .alt i k r q => .alt i k l[i]! (fillT l r) (fillT l q)
def okT (ops : Array Oper) (n : Nat) : List Nat → List Nat → Pi0 → Bool
 | D,A,.done => A.isEmpty && (List.range n).all fun j => D.contains j
 | D,A,.no => !A.isEmpty && (List.range n).all fun j => D.contains j || A.contains j || A.any fun i => reach ops n j i
 | D,A,.light i r => A.isEmpty && decide (i < n) && !D.contains i && ((List.range n).all fun j => !Region.waitsFor .any ops i j || D.contains j) && okT ops n (i :: D) [] r
 | D,A,.alt i k r q => decide (i < n) && !D.contains i && ((List.range n).all fun j => !Region.waitsFor .any ops i j || D.contains j) && (!(k == 1) || D.all fun j => reach ops n i j) && okT ops n (i :: D) [] r && okT ops n D (i :: A) q
section
variable {P : Program} {ops : Array Oper} {w0 : World} {n N : Nat}
def FlowT (P : Program) (ops : Array Oper) (n : Nat) (w0 : World) (N : Nat) (E : Sl → Hp → List Res → Prop) : PlT → List (Nat × Oper × Value) → Sl → Hp → List Res → Prop
 | .done,_,L,H,bs => E L H bs
 | .no,_,_,_,_ => True
 | .light i o r,pa,L,H,bs => ∃ v,(∀ a W,Fr N L a → St H w0 bs W → Yq P ops o v a W) ∧ (∀ t,o.dst = some t → t < N) ∧ FlowT P ops n w0 N E r ((i,o,v) :: pa) (putL o.dst v L) H bs
 | .alt i k o r q,pa,L,H,bs => ((∀ t,o.dst = some t → t < N) ∧ At N L H w0 bs (one P ops (fun _ _ _ => False) o fun a' W' => ∃ v H' bs',Fr N (putL o.dst v L) a' ∧ St H' w0 bs' W' ∧ (k = 1 ∨ (∀ W,St H' w0 bs' W → St H w0 bs W) ∨ RedoP P ops n w0 N L H' bs' i pa) ∧ FlowT P ops n w0 N E r pa (putL o.dst v L) H' bs')) ∧ FlowT P ops n w0 N E q pa L H bs
structure GT (P : Program) (ops : Array Oper) (l : List Oper) (w0 : World) (n N : Nat) (a0 : Act) (E : Sl → Hp → List Res → Prop) (listed : Array Bool) (a : Act) (W : World) (val : Nat → Value) (dec : Nat → Bool) (D : List Nat) (L : Sl) (H : Hp) (bs : List Res) (pa : List (Nat × Oper × Value)) : Prop where
 head : HeadInv .any ops n listed
 frame : a = frm ops val (st listed) n a0
 full : Fr N L (frm ops val dec n a0)
 sub : ∀ i,i < n → st listed i = true → dec i = true
 world : St H w0 bs W
 light : ∀ i o,i < n → ops[i]? = some o → dec i = true → st listed i = false → ∀ W,St H w0 bs W → Yq P ops o (val i) (frm ops val dec n a0) W
 past : ∀ i o,i < n → ops[i]? = some o → dec i = true → st listed i = false → (i,o,val i) ∈ pa
 set : ∀ j,dec j = D.contains j
 deps : ∀ i j,i < n → j < n → dec i = true → Region.waitsFor .any ops i j = true → dec j = true
variable {l : List Oper} {a0 : Act} {E : Sl → Hp → List Res → Prop} {Q : Exit → Act → World → Prop} {listed : Array Bool} {a : Act} {W : World} {val : Nat → Value} {dec : Nat → Bool} {D A : List Nat} {L : Sl} {H : Hp} {bs : List Res} {pa : List (Nat × Oper × Value)}
theorem upd_set {i : Nat} (h : ∀ j,dec j = D.contains j) : ∀ j,upd dec i true j = (i :: D).contains j := fun j => by
 by_cases e : j = i
 ·subst e;rw [upd_same];simp
 ·rw [upd_ne _ _ e,h j,List.contains_cons]
  have : (j == i) = false := by simpa using e
  rw [this];simp
theorem waits_ok {i : Nat} (h : ((List.range n).all fun j => !Region.waitsFor .any ops i j || D.contains j) = true) {j : Nat} (hj : j < n) (hw : Region.waitsFor .any ops i j = true) : D.contains j = true := by
 have := List.all_eq_true.1 h j (List.mem_range.2 hj)
 rw [hw] at this
 simpa using this
theorem GT.decide (F : Fit ops n []) {i : Nat} {o : Oper} (I : GT P ops l w0 n N a0 E listed a W val dec D L H bs pa) (hi : i < n) (ho : ops[i]? = some o) (hiD : D.contains i = false) (hwt : ((List.range n).all fun j => !Region.waitsFor .any ops i j || D.contains j) = true)
 {v : Value} (hy : ∀ a W,Fr N L a → St H w0 bs W → Yq P ops o v a W) (hN : ∀ t,o.dst = some t → t < N) :
 GT P ops l w0 n N a0 E listed a W (upd val i v) (upd dec i true) (i :: D) (putL o.dst v L) H bs ((i,o,v) :: pa) := by
 have hdi : dec i = false := (I.set i).trans hiD
 have hdeps : ∀ j,j < n → Region.waitsFor .any ops i j = true → dec j = true := fun j hj hw => (I.set j).trans (waits_ok hwt hj hw)
 have hii : ∀ j,j < n → Region.waitsFor .any ops i j = true → j ≠ i := fun j hj hw e => by
  have := hdeps j hj hw
  rw [e,hdi] at this;cases this
 have hli : st listed i = false := by
  cases h : st listed i with
  | false => rfl
  | true => have := I.sub i hi h;rw [hdi] at this;cases this
 have hput := frm_put (a0 := a0) (val := val) (v := v) F hi ho hdi
 refine ⟨I.head,?_,?_,?_,I.world,?_,?_,upd_set I.set,?_⟩
 ·rw [I.frame]
  refine frm_congr _ _ _ _ a0 n fun k _ => ⟨rfl,fun hk => (upd_ne _ _ fun e => ?_).symm⟩
  subst e;rw [hli] at hk;cases hk
 ·rw [hput];exact I.full.putL v hN
 ·intro j hj hs
  by_cases e : j = i
  ·subst e;exact upd_same _ _ _
  ·rw [upd_ne _ _ e];exact I.sub j hj hs
 ·intro j oj hj hoj hd hs W hW
  by_cases e : j = i
  ·subst e
   obtain rfl : oj = o := Option.some.inj (hoj.symm.trans ho)
   rw [upd_same]
   refine Yq.same (fun cs b => F.sel j oj cs b ho) (fun t ht => ?_) (hy _ W I.full hW)
   refine eval_same F hj ho (fun k hk hw => ?_) t ht
   have hkd := hdeps k hk hw
   have hki := hii k hk hw
   exact ⟨by rw [upd_ne _ _ hki];exact hkd,hkd,upd_ne _ _ hki⟩
  ·rw [upd_ne _ _ e] at hd ⊢
   refine Yq.same (fun cs b => F.sel j oj cs b hoj) (fun t ht => ?_) (I.light j oj hj hoj hd hs W hW)
   refine eval_same F hj hoj (fun k hk hw => ?_) t ht
   have hkd := I.deps j k hj hk hd hw
   have hki : k ≠ i := fun e => by subst e;rw [hdi] at hkd;cases hkd
   exact ⟨by rw [upd_ne _ _ hki];exact hkd,hkd,upd_ne _ _ hki⟩
 ·intro j oj hj hoj hd hs
  by_cases e : j = i
  ·subst e
   obtain rfl : oj = o := Option.some.inj (hoj.symm.trans ho)
   rw [upd_same];exact .head _
  ·rw [upd_ne _ _ e] at hd ⊢
   exact .tail _ (I.past j oj hj hoj hd hs)
 ·intro j k hj hk hd hw
  by_cases e : j = i
  ·subst e
   rw [upd_ne _ _ (hii k hk hw)];exact hdeps k hk hw
  ·rw [upd_ne _ _ e] at hd
   have := I.deps j k hj hk hd hw
   by_cases e2 : k = i
   ·subst e2;exact upd_same _ _ _
   ·rw [upd_ne _ _ e2];exact this
theorem GT.step (F : Fit ops n []) {i : Nat} {o : Oper} {W' : World} (I : GT P ops l w0 n N a0 E listed a W val dec D L H bs pa) (hi : i < n) (ho : ops[i]? = some o) (hr : i ∈ Region.ready .any ops listed) (hd : dec i = true) (hx : Ext W W') :
 GT P ops l w0 n N a0 E (listed.setIfInBounds i true) (a.put o.dst (val i)) W' val dec D L H bs pa := by
 have hun : st listed i = false := (mem_ready.1 hr).1
 have e1 : dstOf ops i = o.dst := by simp [dstOf,ho]
 refine ⟨I.head.set hr hi,?_,I.full,?_,I.world.more hx,?_,?_,I.set,I.deps⟩
 ·rw [I.frame,frm_more val (st listed) (st (listed.setIfInBounds i true)) a0 i st_set_same hun (fun k hk => st_set hk) n hi F.apart,e1]
 ·intro j hj hs
  by_cases e : j = i
  ·subst e;exact hd
  ·rw [st_set e] at hs;exact I.sub j hj hs
 ·intro j oj hj hoj hdj hs
  have e : j ≠ i := fun e => by subst e;rw [st_set_same] at hs;cases hs
  rw [st_set e] at hs
  exact I.light j oj hj hoj hdj hs
 ·intro j oj hj hoj hdj hs
  have e : j ≠ i := fun e => by subst e;rw [st_set_same] at hs;cases hs
  rw [st_set e] at hs
  exact I.past j oj hj hoj hdj hs
theorem GT.heavy (F : Fit ops n []) {i k : Nat} {o : Oper} {v : Value} {W' : World} {H' : Hp} {bs' : List Res} (I : GT P ops l w0 n N a0 E listed a W val dec D L H bs pa) (hi : i < n) (ho : ops[i]? = some o) (hiD : D.contains i = false) (hwt : ((List.range n).all fun j => !Region.waitsFor .any ops i j || D.contains j) = true) (hk1 : (!(k == 1) || D.all fun j => reach ops n i j) = true) (hN : ∀ t,o.dst = some t → t < N) (hr : i ∈ Region.ready .any ops listed)
 (hs : St H' w0 bs' W') (hws : k = 1 ∨ (∀ W,St H' w0 bs' W → St H w0 bs W) ∨ RedoP P ops n w0 N L H' bs' i pa) :
 GT P ops l w0 n N a0 E (listed.setIfInBounds i true) (a.put o.dst v) W' (upd val i v) (upd dec i true) (i :: D) (putL o.dst v L) H' bs' pa := by
 have hdi : dec i = false := (I.set i).trans hiD
 have hdeps : ∀ j,j < n → Region.waitsFor .any ops i j = true → dec j = true := fun j hj hw => (I.set j).trans (waits_ok hwt hj hw)
 have hii : ∀ j,j < n → Region.waitsFor .any ops i j = true → j ≠ i := fun j hj hw e => by
  have := hdeps j hj hw
  rw [e,hdi] at this;cases this
 have hun : st listed i = false := (mem_ready.1 hr).1
 have e1 : dstOf ops i = o.dst := by simp [dstOf,ho]
 have hput := frm_put (a0 := a0) (val := val) (v := v) F hi ho hdi
 refine ⟨I.head.set hr hi,?_,?_,?_,hs,?_,?_,upd_set I.set,?_⟩
 ·rw [I.frame,frm_more (upd val i v) (st listed) (st (listed.setIfInBounds i true)) a0 i st_set_same hun (fun k hk => st_set hk) n hi F.apart,e1,upd_same]
  congr 1
  refine frm_congr _ _ _ _ a0 n fun k _ => ⟨rfl,fun hk => (upd_ne _ _ fun e => ?_).symm⟩
  subst e;rw [hun] at hk;cases hk
 ·rw [hput];exact I.full.putL v hN
 ·intro j hj hs
  by_cases e : j = i
  ·subst e;exact upd_same _ _ _
  ·rw [upd_ne _ _ e];rw [st_set e] at hs;exact I.sub j hj hs
 ·intro j oj hj hoj hd hs W hW
  have e : j ≠ i := fun e => by subst e;rw [st_set_same] at hs;cases hs
  rw [st_set e] at hs
  rw [upd_ne _ _ e] at hd ⊢
  have hdone : reach ops n i j = true → False := fun h1 => by
   obtain ⟨_,oi,hoi,hall⟩ := mem_ready.1 hr
   have h2 := reach_listed I.head n i j h1 (fun ok hok x hx hb => by
    obtain rfl : ok = oi := Option.some.inj (hok.symm.trans hoi)
    exact hall x hx hb)
   rw [getD_both hs] at h2
   cases h2
  have hy : Yq P ops oj (val j) (frm ops val dec n a0) W := by
   rcases hws with hk | hw | hw
   ·subst hk
    have hjD : j ∈ D := by have := (I.set j).symm.trans hd;simpa using this
    simp only [beq_self_eq_true,Bool.not_true,Bool.false_or] at hk1
    exact (hdone (List.all_eq_true.1 hk1 j hjD)).elim
   ·exact I.light j oj hj hoj hd hs W (hw W hW)
   ·rcases hw.at (I.past j oj hj hoj hd hs) with h1 | h1
    ·exact (hdone h1).elim
    ·exact h1 _ W I.full hW
  refine Yq.same (fun cs b => F.sel j oj cs b hoj) (fun t ht => ?_) hy
  refine eval_same F hj hoj (fun k hk hw => ?_) t ht
  have hkd := I.deps j k hj hk hd hw
  have hki : k ≠ i := fun e => by subst e;rw [hdi] at hkd;cases hkd
  exact ⟨by rw [upd_ne _ _ hki];exact hkd,hkd,upd_ne _ _ hki⟩
 ·intro j oj hj hoj hd hs
  have e : j ≠ i := fun e => by subst e;rw [st_set_same] at hs;cases hs
  rw [st_set e] at hs
  rw [upd_ne _ _ e] at hd ⊢
  exact I.past j oj hj hoj hd hs
 ·intro j k hj hk hd hw
  by_cases e : j = i
  ·subst e
   rw [upd_ne _ _ (hii k hk hw)];exact hdeps k hk hw
  ·rw [upd_ne _ _ e] at hd
   have := I.deps j k hj hk hd hw
   by_cases e2 : k = i
   ·subst e2;exact upd_same _ _ _
   ·rw [upd_ne _ _ e2];exact this
theorem chain_find (hl : ops = l.toArray) {j : Nat} (hj : j < n) (hjD : D.contains j = false) (hnr : ∀ i,D.contains i = false → i < n → reach ops n j i = false) :
 ∀ (q : Pi0) (A : List Nat),(q = .no ∨ ∃ i k r q',q = .alt i k r q') → okT ops n D A q = true → (∀ i ∈ A,D.contains i = false ∧ i < n ∧ i ≠ j) → FlowT P ops n w0 N E (fillT l q) pa L H bs →
  ∃ k r,((List.range n).all fun x => !Region.waitsFor .any ops j x || D.contains x) = true ∧ (!(k == 1) || D.all fun x => reach ops n j x) = true ∧ okT ops n (j :: D) [] r = true ∧ (∀ t,(l[j]!).dst = some t → t < N) ∧
   At N L H w0 bs (one P ops (fun _ _ _ => False) l[j]! fun a' W' => ∃ v H' bs',Fr N (putL (l[j]!).dst v L) a' ∧ St H' w0 bs' W' ∧ (k = 1 ∨ (∀ W,St H' w0 bs' W → St H w0 bs W) ∨ RedoP P ops n w0 N L H' bs' j pa) ∧ FlowT P ops n w0 N E (fillT l r) pa (putL (l[j]!).dst v L) H' bs') := by
 intro q
 induction q with
 | done => rintro A (h | ⟨_,_,_,_,h⟩) <;> cases h
 | light i r => rintro A (h | ⟨_,_,_,_,h⟩) <;> cases h
 | no =>
  intro A _ hok hA _
  exfalso
  simp only [okT,Bool.and_eq_true] at hok
  have := List.all_eq_true.1 hok.2 j (List.mem_range.2 hj)
  simp only [Bool.or_eq_true] at this
  rcases this with (h | h) | h
  ·rw [hjD] at h;cases h
  ·exact (hA j (by simpa using h)).2.2 rfl
  ·obtain ⟨i,hi,hre⟩ := List.any_eq_true.1 h
   rw [hnr i (hA i hi).1 (hA i hi).2.1] at hre;cases hre
 | alt i k r q' ihr ihq =>
  intro A _ hok hA hF
  simp only [okT,Bool.and_eq_true,decide_eq_true_eq,Bool.not_eq_true'] at hok
  obtain ⟨⟨⟨⟨⟨h1,h2⟩,h3⟩,h4⟩,h5⟩,h6⟩ := hok
  unfold fillT FlowT at hF
  by_cases e : i = j
  ·subst e
   exact ⟨k,r,h3,h4,h5,hF.1.1,hF.1.2⟩
  ·have hq : q' = .no ∨ ∃ i k r q'',q' = .alt i k r q'' := by
    cases q' with
    | done => simp [okT] at h6
    | light i r => simp [okT] at h6
    | no => exact .inl rfl
    | alt i k r q => exact .inr ⟨_,_,_,_,rfl⟩
   refine ihq (i :: A) hq h6 (fun x hx => ?_) hF.2
   rcases List.mem_cons.1 hx with rfl | hx
   ·exact ⟨h2,h1,e⟩
   ·exact hA x hx
theorem flowT_game (hl : ops = l.toArray) (F : Fit ops n []) (hend : ∀ L H bs,E L H bs → At N L H w0 bs (wpList P ops Q (ops.toList.drop n))) :
 ∀ (m : Nat) (p : Pi0) (listed : Array Bool) (a : Act) (W : World) (val : Nat → Value) (dec : Nat → Bool) (D : List Nat) (L : Sl) (H : Hp) (bs : List Res) (pa : List (Nat × Oper × Value)),cnt (st listed) n = m → okT ops n D [] p = true →
  FlowT P ops n w0 N E (fillT l p) pa L H bs → GT P ops l w0 n N a0 E listed a W val dec D L H bs pa → wpAny P .any ops Q (m + (ops.size - n)) listed a W := by
 have hop : ∀ i,i < n → ops[i]? = some l[i]! := fun i hi => by
  have h1 : i < ops.size := by have := F.lt;omega
  subst hl
  have h2 : i < l.length := by simpa using h1
  simp [h2]
 intro m
 induction m with
 | zero =>
  intro p
  induction p with
  | done =>
   intro listed a W val dec D L H bs pa hm hok hF I
   have hall := cnt_zero _ n hm
   have hcan : listed = ((List.range ops.size).map fun k => Decidable.decide (k < n)).toArray := by
    apply Array.ext
    ·simp [I.head.size]
    ·intro k h1 h2
     have hk : k < ops.size := by rw [← I.head.size];exact h1
     simp only [List.getElem_toArray,List.getElem_map,List.getElem_range]
     by_cases hkn : k < n
     ·have := hall k hkn
      simp [st,h1] at this
      simp [this,hkn]
     ·have := I.head.tail k (by omega) hk
      simp [h1] at this
      simp [this,hkn]
   rw [Nat.zero_add]
   have hlen : (ops.toList.drop n).length = ops.size - n := by simp
   rw [← hlen]
   refine wpAny_of_seq (ops.toList.drop n) n listed a W (fun j => by simp [List.getElem?_drop]) (by rw [hlen,hcan];exact F.seq) ?_
   have hfr : a = frm ops val dec n a0 := by
    rw [I.frame]
    exact frm_congr _ _ _ _ a0 n (fun k hk => ⟨by rw [hall k hk,I.sub k hk (hall k hk)],fun _ => rfl⟩)
   rw [hfr]
   exact hend L H bs hF _ W I.full I.world
  | no =>
   intro listed a W val dec D L H bs pa hm hok hF I
   simp [okT] at hok
  | light i r ih =>
   intro listed a W val dec D L H bs pa hm hok hF I
   have hall := cnt_zero _ n hm
   simp only [okT,Bool.and_eq_true,decide_eq_true_eq,Bool.not_eq_true'] at hok
   have := I.sub i hok.1.1.1.2 (hall i hok.1.1.1.2)
   rw [I.set i,hok.1.1.2] at this;cases this
  | alt i k r q ih1 ih2 =>
   intro listed a W val dec D L H bs pa hm hok hF I
   have hall := cnt_zero _ n hm
   simp only [okT,Bool.and_eq_true,decide_eq_true_eq,Bool.not_eq_true'] at hok
   have := I.sub i hok.1.1.1.1.1 (hall i hok.1.1.1.1.1)
   rw [I.set i,hok.1.1.1.1.2] at this;cases this
 | succ m ih =>
  have one_step : ∀ (p : Pi0) (listed : Array Bool) (a : Act) (W : World) (val : Nat → Value) (dec : Nat → Bool) (D : List Nat) (L : Sl) (H : Hp) (bs : List Res) (pa : List (Nat × Oper × Value)),cnt (st listed) n = m + 1 → okT ops n D [] p = true →
   FlowT P ops n w0 N E (fillT l p) pa L H bs → GT P ops l w0 n N a0 E listed a W val dec D L H bs pa → (p = .done ∨ p = .no ∨ ∃ i k r q,p = .alt i k r q) → wpAny P .any ops Q (m + 1 + (ops.size - n)) listed a W := by
   intro p listed a W val dec D L H bs pa hm hok hF I hp
   obtain ⟨k0,hk0,hun0,hbelow⟩ := cnt_pos (st listed) n (by omega)
   have hk0s : k0 < ops.size := by have := F.lt;omega
   have hready0 : k0 ∈ Region.ready .any ops listed := by
    refine mem_ready.2 ⟨hun0,ops[k0],Array.getElem?_eq_getElem hk0s,fun e he hb => ?_⟩
    have hlt := F.back k0 _ (Array.getElem?_eq_getElem hk0s) e he hb
    have := hbelow e.on hlt
    have hsz : e.on < listed.size := by rw [I.head.size];omega
    simpa [st,hsz] using this
   rw [show m + 1 + (ops.size - n) = (m + (ops.size - n)) + 1 by omega]
   refine ⟨fun h0 => (by rw [h0] at hready0;cases hready0),fun j hj => ?_⟩
   have hjn : j < n := by
    rcases Nat.lt_or_ge j n with h | h
    ·exact h
    ·exact absurd hj (tail_waitsF F.sink F.chain I.head _ k0 rfl hk0 rfl hun0 j h)
   obtain ⟨hun,oj,hoj,hall⟩ := mem_ready.1 hj
   have hcnt : cnt (st (listed.setIfInBounds j true)) n = m := by
    have := cnt_more (st listed) (st (listed.setIfInBounds j true)) j st_set_same hun (fun k hk => st_set hk) n hjn
    omega
   have hS : ∀ k,k < n → Region.waitsFor .any ops j k = true → st listed k = true := by
    intro k hk hw
    obtain ⟨oi,hoi,e,he,hb,hon⟩ := Region.waitsFor_spec hw
    obtain rfl : oi = oj := Option.some.inj (hoi.symm.trans hoj)
    have h1 := hall e he hb
    rw [hon] at h1
    have hsz : k < listed.size := by rw [I.head.size];have := F.lt;omega
    simp [hsz] at h1
    simp [st,hsz,h1]
   have hev : ∀ t ∈ oj.looksAt ops,a.eval (.tmp t) = (frm ops val dec n a0).eval (.tmp t) := fun t ht => by
    rw [I.frame]
    exact eval_same F hjn hoj (fun k hk hw => ⟨hS k hk hw,I.sub k hk (hS k hk hw),rfl⟩) t ht
   cases hd : dec j with
   | true =>
    have hy : Yq P ops oj (val j) a W := Yq.same (fun cs b => F.sel j oj cs b hoj) hev (I.light j oj hjn hoj hd hun W I.world)
    exact hy.wpOp hoj fun W' hx => ih p _ _ _ _ _ _ _ _ _ _ hcnt hok hF (I.step F hjn hoj hj hd hx)
   | false =>
    have hjD : D.contains j = false := (I.set j).symm.trans hd
    have hch : p = .no ∨ ∃ i k r q',p = .alt i k r q' := by
     rcases hp with rfl | rfl | h
     ·exfalso
      simp only [okT,Bool.and_eq_true] at hok
      have := List.all_eq_true.1 hok.2 j (List.mem_range.2 hjn)
      rw [hjD] at this;cases this
     ·exact .inl Z
     ·exact .inr h
    obtain ⟨k,r,h1,h2,h3,h4,h5⟩ := chain_find hl hjn hjD (fun i hi hin => by
     cases hre : reach ops n j i with
     | false => rfl
     | true =>
      have h2 := reach_listed I.head n j i hre (fun ok hok e he hb => by
       obtain rfl : ok = oj := Option.some.inj (hok.symm.trans hoj)
       exact hall e he hb)
      have h3 : st listed i = false := by
       cases h : st listed i with
       | false => rfl
       | true => have := I.sub i hin h;rw [I.set i,hi] at this;cases this
      rw [getD_both h3] at h2;cases h2) p [] hch hok (fun i hi => by cases hi) hF
    have hoj2 := hop j hjn
    obtain rfl : oj = l[j]! := Option.some.inj (hoj.symm.trans hoj2)
    refine one_same hoj (fun cs b => F.sel j _ cs b hoj) hev (fun b W' ⟨v,H',bs',hf,_⟩ => hf.defers) ?_ (h5 _ W I.full I.world)
    rintro v W' ⟨v',H',bs',hf,hs,hw,hp'⟩
    have hvv : putL (l[j]!).dst v' L = putL (l[j]!).dst v L := by
     cases hdst : (l[j]!).dst with
     | none => rfl
     | some t =>
      rw [hdst] at hf
      have h1 := hf.slot t v' (by unfold putL look;rw [Nat.beq_refl,cond_true])
      have h2 : t < N := h4 t hdst
      have h3 := (I.full.put (by simpa [Nat.blt_eq] using h2) v).slot t v (by unfold look;rw [Nat.beq_refl,cond_true])
      rw [h3] at h1
      rw [h1]
    rw [hvv] at hp'
    exact ih r _ _ _ _ _ _ _ _ _ _ hcnt h3 hp' (I.heavy F hjn hoj hjD h1 h2 h4 hj hs hw)
  intro p
  induction p with
  | done => exact fun listed a W val dec D L H bs pa hm hok hF I => one_step _ listed a W val dec D L H bs pa hm hok hF I (.inl rfl)
  | no => exact fun listed a W val dec D L H bs pa hm hok hF I => one_step _ listed a W val dec D L H bs pa hm hok hF I (.inr (.inl rfl))
  | alt i k r q _ _ => exact fun listed a W val dec D L H bs pa hm hok hF I => one_step _ listed a W val dec D L H bs pa hm hok hF I (.inr (.inr ⟨_,_,_,_,rfl⟩))
  | light i r ihr =>
   intro listed a W val dec D L H bs pa hm hok hF I
   simp only [okT,Bool.and_eq_true,decide_eq_true_eq,Bool.not_eq_true'] at hok
   obtain ⟨⟨⟨⟨_,hi⟩,hiD⟩,hwt⟩,hok'⟩ := hok
   unfold fillT FlowT at hF
   obtain ⟨v,hy,hN,hF'⟩ := hF
   exact ihr listed a W _ _ _ _ H bs _ hm hok' hF' (I.decide F hi (hop i hi) hiD hwt hy hN)
theorem flowT {id : Nat} {l : List Oper} {p : PlT} {Q : Exit → Act → World → Prop} {L : Sl} {H : Hp} {bs : List Res} (n : Nat) (p0 : Pi0) (hm : P.follows .mixedOrders = true) (hB : (parB l.toArray n [] && okT l.toArray n [] [] p0) = true) (ht : fillT l p0 = p)
 (h : FlowT P l.toArray n w0 N (fun L H bs => At N L H w0 bs (wpList P l.toArray Q (l.drop n))) p [] L H bs) : At N L H w0 bs ((Code.region id l.toArray true).wp P Q) := by
 simp only [Bool.and_eq_true] at hB
 obtain ⟨h1,h2⟩ := hB
 have F := Fit.of h1
 have hlt : n < l.length := by simpa using F.lt
 subst ht
 intro a W f s
 refine wp_region_any hm ?_
 have hsz : l.toArray.size = l.length := by simp
 have hc0 : ∀ m,m ≤ n → cnt (st (Array.replicate l.toArray.size false)) m = m := by
  intro m
  induction m with
  | zero => intro _;rfl
  | succ m ih =>
   intro hm
   unfold cnt
   rw [ih (by omega)]
   have : st (Array.replicate l.toArray.size false) m = false := by
    have : m < l.length := by omega
    simp [st,this]
   rw [this];simp
 have hfrm : ∀ (val : Nat → Value) (m : Nat),frm l.toArray val (fun _ => false) m a = a := fun val m => by
  induction m with
  | zero => rfl
  | succ m ih => unfold frm;simp [ih]
 have hall : ∀ m,m ≤ n → ∀ k,k < m → st (Array.replicate l.toArray.size false) k = false := fun m hm k hk => by
  have : k < l.length := by omega
  simp [st,this]
 have hh : HeadInv .any l.toArray n (Array.replicate l.toArray.size false) := by
  refine ⟨by simp,fun j oj hj hl => ?_,fun t ht ht' => ?_⟩
  ·exfalso
   rcases Nat.lt_or_ge j l.length with h | h
   ·simp [h] at hl
   ·simp [h] at hl
  ·have : t < l.length := by simpa using ht'
   simp [this]
 have key := flowT_game (Q := Q) (a0 := a) (l := l) rfl F (fun L H bs h => by simpa using h) n p0 (Array.replicate l.toArray.size false) a _ (fun _ => undef) (fun _ => false) [] L H bs [] (hc0 n (Nat.le_refl _)) h2 h
  ⟨hh,?_,by rw [hfrm];exact f,?_,s.more ((Ext.refl W).drew),fun _ _ _ _ h => (by cases h),fun _ _ _ _ h => (by cases h),fun _ => rfl,fun _ _ _ _ h => (by cases h)⟩
 ·have : n + (l.toArray.size - n) = l.toArray.size := by rw [hsz];omega
  rw [this] at key
  exact key
 ·rw [frm_congr (fun _ => undef) (fun _ => undef) _ (fun _ => false) a n (fun k hk => ⟨hall n (Nat.le_refl _) k hk,fun _ => rfl⟩),hfrm]
 ·intro i hi hs;rw [hall n (Nat.le_refl _) i hi] at hs;cases hs
end
section
variable {P : Program} {n : Nat} {L : Sl} {H : Hp} {w0 : World} {bs : List Res} {Q : Exit → Act → World → Prop} {ops : Array Oper} {rest : List Oper} {K : Act → World → Prop}
variable {d : Option Tmp} {ty : TypeId} {pos : String} {aft : Array Edge} {g : Option (Nat × Bool)} {v : Value} {t : Tmp} {op : Op} {x y z : Operand} {T T' : TypeId}
variable {N hn : Nat} {pa : List (Nat × Oper × Value)} {E : Sl → Hp → List Res → Prop} {r q : PlT} {i k : Nat}
def AltT (P : Program) (ops : Array Oper) (n : Nat) (w0 : World) (N : Nat) (E : Sl → Hp → List Res → Prop) (i k : Nat) (o : Oper) (r : PlT) (pa : List (Nat × Oper × Value)) (L : Sl) (H : Hp) (bs : List Res) : Prop :=
 (∀ t,o.dst = some t → t < N) ∧ At N L H w0 bs (one P ops (fun _ _ _ => False) o fun a' W' => ∃ v H' bs',Fr N (putL o.dst v L) a' ∧ St H' w0 bs' W' ∧ (k = 1 ∨ (∀ W,St H' w0 bs' W → St H w0 bs W) ∨ RedoP P ops n w0 N L H' bs' i pa) ∧ FlowT P ops n w0 N E r pa (putL o.dst v L) H' bs')
theorem FlowT.h1 {o : Oper} (h : AltT P ops hn w0 N E i k o r pa L H bs) : FlowT P ops hn w0 N E (.alt i k o r .no) pa L H bs := ⟨h,trivial⟩
theorem FlowT.h {o : Oper} (h : AltT P ops hn w0 N E i k o r pa L H bs) (hq : FlowT P ops hn w0 N E q pa L H bs) : FlowT P ops hn w0 N E (.alt i k o r q) pa L H bs := ⟨h,hq⟩
theorem FlowT.nn : FlowT P ops hn w0 N E .no pa L H bs := trivial
theorem FlowT.yv (hy : Yl P L H w0 bs ⟨some t,op,ty,pos,aft,none⟩ v) (ht : Nat.blt t N = true) (h : FlowT P ops hn w0 N E r ((i,⟨some t,op,ty,pos,aft,none⟩,v) :: pa) ((t,v) :: L) H bs) : FlowT P ops hn w0 N E (.light i ⟨some t,op,ty,pos,aft,none⟩ r) pa L H bs :=
 ⟨v,fun a W f s => .inl ⟨by simp [Region.wanted],hy a W (fun x u e => f.ev e) s⟩,blt_of ht,h⟩
theorem FlowT.m (hx : ev L x = some v) (ht : Nat.blt t N = true) (h : FlowT P ops hn w0 N E r ((i,⟨some t,.move x,ty,pos,aft,none⟩,v) :: pa) ((t,v) :: L) H bs) : FlowT P ops hn w0 N E (.light i ⟨some t,.move x,ty,pos,aft,none⟩ r) pa L H bs := .yv (.move hx) ht h
theorem AltT.into {H' : Hp} {bs' : List Res} (hw : k = 1 ∨ (∀ W,St H' w0 bs' W → St H w0 bs W) ∨ RedoP P ops hn w0 N L H' bs' i pa) (h : FlowT P ops hn w0 N E r pa ((t,v) :: L) H' bs') :
 At N ((t,v) :: L) H' w0 bs' (fun a' W' => ∃ v H' bs',Fr N (putL (some t) v L) a' ∧ St H' w0 bs' W' ∧ (k = 1 ∨ (∀ W,St H' w0 bs' W → St H w0 bs W) ∨ RedoP P ops hn w0 N L H' bs' i pa) ∧ FlowT P ops hn w0 N E r pa (putL (some t) v L) H' bs') := fun _ _ f s => ⟨v,H',bs',f,s,hw,h⟩
theorem AltT.al {l : List Value} (hz : zeroN P T = some l) (ht : Nat.blt t N = true) (h : ∀ b,FlowT P ops hn w0 N E r pa ((t,.pointer (some ⟨b,0,none⟩)) :: L) H (.box b l T :: bs)) : AltT P ops hn w0 N E i k ⟨some t,.alloc T,ty,pos,aft,none⟩ r pa L H bs :=
 ⟨blt_of ht,alloc hz ht fun b => AltT.into (.inr<|.inl fun _ s => s.drop) (h b)⟩
theorem AltT.bl {ps : List (Nat × Operand)} {pv : List (Nat × Value)} {len : Nat} {e : TypeId} {l : List Value} (hv : evp L ps = some pv) (hb : bslN P T len pv = some (e,l)) (ht : Nat.blt t N = true)
 (h : ∀ b,FlowT P ops hn w0 N E r pa ((t,.slice (some ⟨b,0,none⟩) len len) :: L) H (.box b l e :: bs)) : AltT P ops hn w0 N E i k ⟨some t,.buildSlice T len ps.toArray,ty,pos,aft,none⟩ r pa L H bs :=
 ⟨blt_of ht,buildSlice hv hb ht fun b => AltT.into (.inr<|.inl fun _ s => s.drop) (h b)⟩
theorem AltT.ct {X : Type} {f : FuncId} {xs : List Operand} {vs : List Value} {ats : Array TypeId} {C : X → Hp → Prop} {val : X → Value} (hf : callN P f = true) (hv : evs L xs = some vs)
 (hc : ∀ W,St H w0 bs W → Calls P f vs.toArray W fun e W' => ∃ x H',C x H' ∧ e = .returned (val x) ∧ Grow H W H' W') (ht : Nat.blt t N = true)
 (h : ∀ x H',C x H' → HUp w0 H H' → FlowT P ops hn w0 N E r pa ((t,val x) :: L) H' bs) : AltT P ops hn w0 N E i k ⟨some t,.call ⟨.value (.func f),xs.toArray,ats⟩,ty,pos,aft,none⟩ r pa L H bs :=
 ⟨blt_of ht,callT hf hv hc ht fun x H' hx u => AltT.into (.inr<|.inl fun _ s => s.weakH u.up) (h x H' hx u)⟩
theorem AltT.c3 {X : Type} {f : FuncId} {xs : List Operand} {vs : List Value} {ats : Array TypeId} {C : X → Prop} {val : X → Value} {H' : X → Hp} {bs' : X → List Res} (hf : callN P f = true) (hv : evs L xs = some vs)
 (hc : ∀ W,St H w0 bs W → Calls P f vs.toArray W fun e W' => ∃ x,C x ∧ e = .returned (val x) ∧ St (H' x) w0 (bs' x) W') (ht : Nat.blt t N = true)
 (hr : ∀ x,C x → RedoP P ops hn w0 N L (H' x) (bs' x) i pa) (h : ∀ x,C x → FlowT P ops hn w0 N E r pa ((t,val x) :: L) (H' x) (bs' x)) : AltT P ops hn w0 N E i 2 ⟨some t,.call ⟨.value (.func f),xs.toArray,ats⟩,ty,pos,aft,none⟩ r pa L H bs :=
 ⟨blt_of ht,callS hf hv hc ht fun x hx => AltT.into (.inr<|.inr<|hr x hx) (h x hx)⟩
theorem FlowT.fn {l tl : List Oper} {nn : Nat} (ht : l.drop nn = tl) (h : At N L H w0 bs (wpList P ops Q tl)) : FlowT P ops hn w0 N (fun L H bs => At N L H w0 bs (wpList P ops Q (l.drop nn))) .done pa L H bs := by
 subst ht;exact h
theorem At.ft {id : Nat} {l : List Oper} {p : PlT} (nn : Nat) (p0 : Pi0) (hm : P.follows .mixedOrders = true) (hB : (parB l.toArray nn [] && okT l.toArray nn [] [] p0) = true) (ht : fillT l p0 = p)
 (h : FlowT P l.toArray nn w0 n (fun L H bs => At n L H w0 bs (wpList P l.toArray Q (l.drop nn))) p [] L H bs) : At n L H w0 bs ((Code.region id l.toArray true).wp P Q) := flowT nn p0 hm hB ht h
end
def SliceAt (H : Hp) (v : Value) (n : Nat) (xs : List Value) : Prop := (v = .slice none 0 0 ∧ n = 0) ∨ ∃ b c,v = .slice (some ⟨b,0,none⟩) n c ∧ n ≤ c ∧ c ≤ maxLen ∧ MemAt H b 0 xs
theorem SliceAt.rep {H : Hp} {v : Value} {n z : Nat} {xs : List Value} {ds : List D} (h : SliceAt H v n xs) (hz : RepZ H z ds xs) (hn : ds.length = n) : Rep H (.seq z ds) [v] := by
 rcases h with ⟨rfl,rfl⟩ | ⟨b,c,rfl,h1,h2,h3⟩
 ·obtain rfl := List.eq_nil_of_length_eq_zero hn
  exact .empty (by simp [maxLen])
 ·exact .mk h3 hz hn h1 h2
theorem SliceAt.sl {H : Hp} {v : Value} {n : Nat} {xs : List Value} (h : SliceAt H v n xs) : ∃ p c,v = .slice p n c := by
 rcases h with ⟨rfl,rfl⟩ | ⟨b,c,rfl,_⟩
 ·exact ⟨_,_,rfl⟩
 ·exact ⟨_,_,rfl⟩
theorem Upd.new {bs bs' : List Res} {x y : Res} (h : Upd bs x y bs') : y ∈ bs' := by
 induction h with
 | head => exact .head _
 | tail _ ih => exact .tail _ ih
theorem SliceAt.up {H H' : Hp} {v : Value} {n : Nat} {xs : List Value} (h : SliceAt H v n xs) (u : Up H H') : SliceAt H' v n xs := by
 rcases h with h | ⟨b,c,e,h1,h2,h3⟩
 ·exact .inl h
 ·exact .inr ⟨b,c,e,h1,h2,h3.up u⟩
section
variable {P : Program} {n : Nat} {L : Sl} {H : Hp} {w0 : World} {bs : List Res} {Q : Exit → Act → World → Prop} {ops : Array Oper} {rest : List Oper} {K : Act → World → Prop}
variable {d : Option Tmp} {ty : TypeId} {pos : String} {aft : Array Edge} {v : Value} {t : Tmp} {x y : Operand} {T : TypeId}
theorem St.boxRowZ {b m z : Nat} {l : List Value} {e : TypeId} {W : World} (h : St H w0 (.box b l e :: bs) W) (hz : l.length = m * z) (hl : m ≤ maxLen) : St H w0 (.row e z (.slice (some ⟨b,0,none⟩) m m) m l :: bs) W := by
 have hb := h.own _ (.head _)
 refine ⟨h.ext,h.agr,fun x hx => ?_,?_⟩
 ·rcases List.mem_cons.1 hx with rfl | hx
  ·exact ⟨⟨hz,.inr ⟨b,m,l.toArray,rfl,hb.1.1,hb.1.2,Nat.le_refl _,hl,by simpa using hz,by rw [← hz];simp⟩⟩,fun c e => hb.2 c e⟩
  ·exact h.own x (.tail _ hx)
 ·have h1 := h.apart
  rw [List.pairwise_cons] at h1 ⊢
  exact ⟨fun z hz c e => h1.1 z hz c e,h1.2⟩
theorem appendR {e : TypeId} {size bytes m k : Nat} {r v : Value} {xs news : List Value} {bs' : Value → List Res} (hT : rowN P T = some (e,size,bytes)) (hx : ev L x = some r) (hm : ∀ r',Upd bs (.row e size r k xs) (.row e size r' (k + m) (xs ++ news)) (bs' r'))
 (hy : ev L y = some v) (hs : SliceAt H v m news) (hl : news.length = m * size) (h1 : ∀ u ∈ news,u.oneCell' = true) (h63 : k + m ≤ maxLen) (hb : (k + m) * bytes ≤ 140737488355328) (ht : Nat.blt t n = true)
 (h : ∀ r',At n ((t,r') :: L) H w0 (bs' r') K) : At n L H w0 bs (one P ops Q ⟨some t,.call ⟨.builtin .append,#[x,y],#[T,T]⟩,ty,pos,aft,none⟩ K) := by
 rcases hs with ⟨rfl,rfl⟩ | ⟨b,c,rfl,_,_,hmem⟩
 ·have hn : news = [] := List.eq_nil_of_length_eq_zero (by rw [hl,Nat.zero_mul])
  subst hn
  have e2 : bs' r = bs := (hm r).same (by rw [Nat.add_zero,List.append_nil])
  have h2 := h r
  rw [e2] at h2
  exact appendNone hT hx (hm r).mem hy ht h2
 ·exact appendA hT hx hm hy (fun W s j u e => by rw [Addr.add_lit];exact hmem.cell s.agr e) hl h1 h63 hb ht fun r' _ => h r'
variable {N hn i : Nat} {pa : List (Nat × Oper × Value)} {E : Sl → Hp → List Res → Prop} {q : PlT}
theorem AltT.apR {e : TypeId} {size bytes m k : Nat} {r v : Value} {xs news : List Value} {bs' : Value → List Res} (hT : rowN P T = some (e,size,bytes)) (hx : ev L x = some r) (hm : ∀ r',Upd bs (.row e size r k xs) (.row e size r' (k + m) (xs ++ news)) (bs' r'))
 (hy : ev L y = some v) (hs : SliceAt H v m news) (hl : news.length = m * size) (h1 : ∀ u ∈ news,u.oneCell' = true) (h63 : k + m ≤ maxLen) (hb : (k + m) * bytes ≤ 140737488355328) (ht : Nat.blt t N = true)
 (hr : ∀ r',RedoP P ops hn w0 N L H (bs' r') i pa) (h : ∀ p c,FlowT P ops hn w0 N E q pa ((t,.slice p (k + m) c) :: L) H (bs' (.slice p (k + m) c))) : AltT P ops hn w0 N E i 2 ⟨some t,.call ⟨.builtin .append,#[x,y],#[T,T]⟩,ty,pos,aft,none⟩ q pa L H bs :=
 ⟨blt_of ht,appendR hT hx hm hy hs hl h1 h63 hb ht fun r' => At.ra (hm r').new fun p c e => by subst e;exact AltT.into (.inr<|.inr<|hr _) (h p c)⟩
theorem AltT.blR {ps : List (Nat × Operand)} {pv : List (Nat × Value)} {len z k : Nat} {e : TypeId} {l : List Value} (hv : evp L ps = some pv) (hb : bslN P T len pv = some (e,l)) (ht : Nat.blt t N = true) (hz : l.length = len * z) (hl : len ≤ maxLen)
 (h : ∀ b,FlowT P ops hn w0 N E q pa ((t,.slice (some ⟨b,0,none⟩) len len) :: L) H (.row e z (.slice (some ⟨b,0,none⟩) len len) len l :: bs)) : AltT P ops hn w0 N E i k ⟨some t,.buildSlice T len ps.toArray,ty,pos,aft,none⟩ q pa L H bs :=
 ⟨blt_of ht,buildSlice hv hb ht fun b => reSt (fun _ s => s.boxRowZ hz hl) (AltT.into (.inr<|.inl fun _ s => s.drop) (h b))⟩
theorem freezeAt {e : TypeId} {size k : Nat} {r : Value} {xs : List Value} {G : Act → World → Prop} (h : ∀ H',HUp w0 H H' → SliceAt H' r k xs → At n L H' w0 bs G) : At n L H w0 (.row e size r k xs :: bs) G :=
 freezeRow fun H' u hr => h H' u (by
  rcases hr with h | ⟨b,c,e,h1,h2,h3⟩
  ·exact .inl h
  ·exact .inr ⟨b,c,e,h1,h2,h3⟩)
end
section
variable {P : Program} {n : Nat} {L : Sl} {H : Hp} {w0 : World} {bs : List Res} {Q : Exit → Act → World → Prop} {ops : Array Oper} {rest : List Oper} {K : Act → World → Prop}
variable {d : Option Tmp} {ty : TypeId} {pos : String} {aft : Array Edge} {v : Value} {t : Tmp} {x y : Operand} {T : TypeId}
theorem appendD {e : TypeId} {size bytes m c k : Nat} {p : Option Addr} {r : Value} {xs : List Value} {ds : List D} {bs' : List Value → Value → List Res} (hT : rowN P T = some (e,size,bytes)) (hx : ev L x = some r)
 (hm : ∀ news r',Upd bs (.row e size r k xs) (.row e size r' (k + m) (xs ++ news)) (bs' news r')) (hy : ev L y = some (.slice p m c)) (hr : Rep H (.seq size ds) [.slice p m c])
 (h63 : k + m ≤ maxLen) (hb : (k + m) * bytes ≤ 140737488355328) (ht : Nat.blt t n = true)
 (h : ∀ news r',RepZ H size ds news → At n ((t,r') :: L) H w0 (bs' news r') K) : At n L H w0 bs (one P ops Q ⟨some t,.call ⟨.builtin .append,#[x,y],#[T,T]⟩,ty,pos,aft,none⟩ K) := by
 have hlen := hr.len
 unfold Rep at hr
 obtain ⟨p',c',h1,h2,h3,h4⟩ := hr
 injection h1 with h1 _
 injection h1 with e1 e2 e3
 subst e1 e3
 rcases h4 with h4 | ⟨b,off,cs,rfl,hmem,hz⟩
 ·subst h4
  obtain rfl : m = 0 := e2
  cases p with
  | some A => exact appendA hT hx (hm []) hy (fun W s j u e => by simp at e) (by simp) (by simp) h63 hb ht fun r' _ => h [] r' .nil
  | none =>
   obtain ⟨hu,i,z,hi,hz,hsz,hby,hzs,h0⟩ := rowN_spec hT
   have e4 : bs' [] r = bs := (hm [] r).same (by rw [Nat.add_zero,List.append_nil])
   have h5 := h [] r .nil
   rw [e4] at h5
   intro a W f s
   refine one_plain rfl ?_
   unfold Oper.wp
   have hown : W.ownsRow w0.heap.size e size r k xs := (s.own _ (hm [] r).mem).1
   have hrun : (Builtin.append_ #[T,T] ty #[r,.slice none 0 c]).run P W = .ok r W := by
    rcases hown.2 with ⟨rfl,rfl⟩ | ⟨g,cap,cur,rfl,hbg,hgc,hnc,hcm,hcs,htake⟩
    ·simp [Builtin.append_,run_underlying hu,sizeOf,typeInfo,hi,Builtin.lenOf,Builtin.firstCells]
    ·simp [Builtin.append_,run_underlying hu,sizeOf,typeInfo,hi,Builtin.lenOf,Builtin.firstCells,hnc,storeCells]
   simp [execOp,resolve,invoke,builtin,f.ev hx,f.ev hy,hrun,Result.andThen,Oper.upon]
   exact h5 _ _ (f.put ht _) s
 ·exact appendA hT hx (hm cs) hy (fun W s j u e => by rw [Addr.add_lit];exact hmem.cell s.agr e) (by rw [hz.len,e2]) hz.one h63 hb ht fun r' _ => h cs r' hz
theorem At.apD {e : TypeId} {size bytes m c k : Nat} {p : Option Addr} {r : Value} {xs : List Value} {ds : List D} {bs' : List Value → Value → List Res} (hT : rowN P T = some (e,size,bytes)) (hx : ev L x = some r)
 (hm : ∀ news r',Upd bs (.row e size r k xs) (.row e size r' (k + m) (xs ++ news)) (bs' news r')) (hy : ev L y = some (.slice p m c)) (hr : Rep H (.seq size ds) [.slice p m c])
 (h63 : k + m ≤ maxLen) (hb : (k + m) * bytes ≤ 140737488355328) (ht : Nat.blt t n = true)
 (h : ∀ news r',RepZ H size ds news → At n ((t,r') :: L) H w0 (bs' news r') (wpList P ops Q rest)) : At n L H w0 bs (wpList P ops Q (⟨some t,.call ⟨.builtin .append,#[x,y],#[T,T]⟩,ty,pos,aft,none⟩ :: rest)) := cons (appendD hT hx hm hy hr h63 hb ht h)
theorem At.blR {ps : List (Nat × Operand)} {pv : List (Nat × Value)} {len z : Nat} {e : TypeId} {l : List Value} (hv : evp L ps = some pv) (hb : bslN P T len pv = some (e,l)) (ht : Nat.blt t n = true) (hz : l.length = len * z) (hl : len ≤ maxLen)
 (h : ∀ b,At n ((t,.slice (some ⟨b,0,none⟩) len len) :: L) H w0 (.row e z (.slice (some ⟨b,0,none⟩) len len) len l :: bs) (wpList P ops Q rest)) : At n L H w0 bs (wpList P ops Q (⟨some t,.buildSlice T len ps.toArray,ty,pos,aft,none⟩ :: rest)) :=
 .bl hv hb ht fun b => reSt (fun _ s => s.boxRowZ hz hl) (h b)
theorem At.rb {e : TypeId} {size k : Nat} {r : Value} {xs : List Value} {G : Act → World → Prop} (hk : 0 < k) (h : ∀ g cap more,r = .slice (some ⟨g,0,none⟩) k cap → k ≤ cap → cap ≤ maxLen → At n L H w0 (.box g (xs ++ more) e :: bs) G) : At n L H w0 (.row e size r k xs :: bs) G := fun a W f s => by
 have ho := s.own _ (.head _)
 have hap := List.pairwise_cons.1 s.apart
 have h1 : W.ownsRow w0.heap.size e size r k xs := ho.1
 rcases h1.2 with ⟨_,h0⟩ | ⟨g,cap,cur,hr,hbg,hgc,hnc,hcm,hcs,htake⟩
 ·omega
 ·have hcur : cur = (xs ++ cur.toList.drop (k * size)).toArray := by rw [← htake,List.take_append_drop]
  refine h g cap (cur.toList.drop (k * size)) hr hnc hcm a W f ⟨s.ext,s.agr,fun q hq => ?_,?_⟩
  ·rcases List.mem_cons.1 hq with rfl | hq
   ·exact ⟨⟨hbg,by rw [hgc];rw [← hcur]⟩,fun b eb => ho.2 b (by rw [hr];exact eb)⟩
   ·exact s.own q (.tail _ hq)
  ·exact List.pairwise_cons.2 ⟨fun q hq b eb => hap.1 q hq b (by rw [hr];exact eb),hap.2⟩
theorem At.rc {e : TypeId} {size k g cap : Nat} {xs : List Value} {G : Act → World → Prop} (hk : 0 < k) (h : ∀ more,k ≤ cap → cap ≤ maxLen → At n L H w0 (.box g (xs ++ more) e :: bs) G) : At n L H w0 (.row e size (.slice (some ⟨g,0,none⟩) k cap) k xs :: bs) G :=
 .rb hk fun g' cap' more er h1 h2 => by
  injection er with e1 _ e3
  injection e1 with e1
  injection e1 with e1
  subst e1 e3
  exact h more h1 h2
theorem At.rs {e : TypeId} {size k : Nat} {r : Value} {xs : List Value} {G : Act → World → Prop} (hm : Res.row e size r k xs ∈ bs) (hk : 0 < k) (h : ∀ g c,r = .slice (some ⟨g,0,none⟩) k c → At n L H w0 bs G) : At n L H w0 bs G := fun a W f s => by
 have ho : W.ownsRow w0.heap.size e size r k xs := (s.own _ hm).1
 rcases ho.2 with ⟨hr,h0⟩ | ⟨g,cap,cur,hr,_⟩
 ·omega
 ·exact h g cap hr a W f s
theorem Yl.loadR {e : TypeId} {size k g c off m : Nat} {xs vs : List Value} (hp : ev L x = some (.pointer (some ⟨g,off,none⟩))) (hT : aggN P T = some (some m)) (hm : Res.row e size (.slice (some ⟨g,0,none⟩) k c) k xs ∈ bs) (hl : vs.length = m) (hv : ∀ (j : Nat) u,vs[j]? = some u → xs[off + j]? = some u) {gd : Option (Nat × Bool)} : Yl P L H w0 bs ⟨d,.load T x,ty,pos,aft,gd⟩ (.agg vs.toArray) := .of_run fun a W f s => by
 subst hl
 have ho : W.ownsRow w0.heap.size e size (.slice (some ⟨g,0,none⟩) k c) k xs := (s.own _ hm).1
 obtain ⟨h1,h2⟩ := run_isAgg_yes (W := W) hT
 have h3 : (loadCells ⟨g,off,none⟩ vs.length).run P W = .ok vs.toArray W := run_loadCells_list W _ vs fun j u e => by
  have := World.ownsRow.cells ho (g := g) rfl (off + j) u (hv j u e)
  rw [Addr.add_lit,Nat.zero_add] at this
  rw [Addr.add_lit];exact this
 unfold execOp
 simp only [f x _ hp,Instr.loadAt,Instr.sureAddr,loadVar,Sem.run_bind,Sem.run_pure,Result.andThen,h1,h2,if_true,h3]
theorem MemAt.pre {H : Hp} {b off : Nat} {xs more : List Value} (h : MemAt H b off (xs ++ more)) : MemAt H b off xs := by
 obtain ⟨arr,t,m,h1,h2⟩ := h
 exact ⟨arr,t,m,h1,fun j u e => h2 j u (by rw [List.getElem?_append_left (List.getElem?_eq_some_iff.1 e).1];exact e)⟩
theorem setsL_app : ∀ (vs l more : List Value) (off : Nat),off + vs.length ≤ l.length → setsL (l ++ more) off vs = setsL l off vs ++ more
 | [],l,more,off,_ => rfl
 | v :: r,l,more,off,h => by
  unfold setsL
  rw [List.length_cons] at h
  rw [List.set_append_left _ _ (by omega)]
  exact setsL_app r (l.set off v) more (off + 1) (by rw [List.length_set];omega)
theorem setsL_right : ∀ (vs p l : List Value) (off : Nat),setsL (p ++ l) (p.length + off) vs = p ++ setsL l off vs
 | [],p,l,off => rfl
 | v :: r,p,l,off => by
  unfold setsL
  rw [List.set_append_right _ _ (by omega),show p.length + off - p.length = off by omega,Nat.add_assoc]
  exact setsL_right r p (l.set off v) (off + 1)
theorem RepZ.put {H : Hp} {z : Nat} {d : D} {vs : List Value} (hd : Rep H d vs) (hz : vs.length = z) : ∀ {ds : List D} {l : List Value} {i : Nat},RepZ H z ds l → i < ds.length → RepZ H z (ds.set i d) (setsL l (i * z) vs)
 | [],l,i,_,hi => by simp at hi
 | d0 :: r,l,0,h,_ => by
  unfold RepZ at h
  obtain ⟨x,y,rfl,h1,h2,h3⟩ := h
  rw [List.set_cons_zero,Nat.zero_mul,setsL_app _ _ _ _ (by omega)]
  have := setsL_all vs [] x (by omega)
  simp only [List.nil_append,List.length_nil] at this
  rw [this]
  unfold RepZ
  exact ⟨vs,y,rfl,hz,hd,h3⟩
 | d0 :: r,l,i + 1,h,hi => by
  unfold RepZ at h
  obtain ⟨x,y,rfl,h1,h2,h3⟩ := h
  have := RepZ.put hd hz (i := i) h3 (by simpa using hi)
  rw [List.set_cons_succ,show (i + 1) * z = x.length + i * z by rw [h1,Nat.succ_mul];omega,setsL_right]
  unfold RepZ
  exact ⟨x,_,rfl,h1,h2,this⟩
theorem At.sE {b off : Nat} {l vs : List Value} {t' : TypeId} {bs' : List Res} (hm : Upd bs (.box b l t') (.box b (setsL l off vs) t') bs') (hp : ev L x = some (.pointer (some ⟨b,off,none⟩))) (hv : ev L y = some (.agg vs.toArray)) (hT : sizeN P T = some vs.length) (h1 : ∀ u ∈ vs,u.oneCell' = true)
 (ho : off + vs.length ≤ l.length) (h : At n L H w0 bs' (wpList P ops Q rest)) : At n L H w0 bs (wpList P ops Q (⟨none,.store T x y,ty,pos,aft,none⟩ :: rest)) := cons (stores hp hv hT rfl h1 hm ho h)
variable {N hn i : Nat} {pa : List (Nat × Oper × Value)} {E : Sl → Hp → List Res → Prop} {q : PlT} {fr : List (Nat × Nat × Oper)}
theorem AltT.apD {e : TypeId} {size bytes m c k : Nat} {p : Option Addr} {r : Value} {xs : List Value} {ds : List D} {bs' : List Value → Value → List Res} (hT : rowN P T = some (e,size,bytes)) (hx : ev L x = some r)
 (hm : ∀ news r',Upd bs (.row e size r k xs) (.row e size r' (k + m) (xs ++ news)) (bs' news r')) (hy : ev L y = some (.slice p m c)) (hr : Rep H (.seq size ds) [.slice p m c])
 (h63 : k + m ≤ maxLen) (hb : (k + m) * bytes ≤ 140737488355328) (ht : Nat.blt t N = true)
 (hr2 : ∀ news r',RedoP P ops hn w0 N L H (bs' news r') i pa) (h : ∀ news p c,RepZ H size ds news → FlowT P ops hn w0 N E q pa ((t,.slice p (k + m) c) :: L) H (bs' news (.slice p (k + m) c))) :
 AltT P ops hn w0 N E i 2 ⟨some t,.call ⟨.builtin .append,#[x,y],#[T,T]⟩,ty,pos,aft,none⟩ q pa L H bs :=
 ⟨blt_of ht,appendD hT hx hm hy hr h63 hb ht fun news r' hz => At.ra (hm news r').new fun p c e => by subst e;exact AltT.into (.inr<|.inr<|hr2 _ _) (h news p c hz)⟩
theorem FlowP.apD {e : TypeId} {size bytes m c k : Nat} {p : Option Addr} {r : Value} {xs : List Value} {ds : List D} {bs' : List Value → Value → List Res} (hT : rowN P T = some (e,size,bytes)) (hx : ev L x = some r)
 (hm : ∀ news r',Upd bs (.row e size r k xs) (.row e size r' (k + m) (xs ++ news)) (bs' news r')) (hy : ev L y = some (.slice p m c)) (hr : Rep H (.seq size ds) [.slice p m c])
 (h63 : k + m ≤ maxLen) (hb : (k + m) * bytes ≤ 140737488355328) (ht : Nat.blt t N = true)
 (hr2 : ∀ news r',RedoP P ops hn w0 N L H (bs' news r') i pa) (h : ∀ news p c,RepZ H size ds news → FlowP P ops hn w0 N E fr pa ((t,.slice p (k + m) c) :: L) H (bs' news (.slice p (k + m) c))) :
 FlowP P ops hn w0 N E ((i,3,⟨some t,.call ⟨.builtin .append,#[x,y],#[T,T]⟩,ty,pos,aft,none⟩) :: fr) pa L H bs :=
 ⟨blt_of ht,appendD hT hx hm hy hr h63 hb ht fun news r' hz => At.ra (hm news r').new fun p c e => by subst e;exact FlowP.into (.inr<|.inr<|hr2 _ _) (h news p c hz)⟩
theorem FlowP.blR {ps : List (Nat × Operand)} {pv : List (Nat × Value)} {len z k : Nat} {e : TypeId} {l : List Value} (hv : evp L ps = some pv) (hb : bslN P T len pv = some (e,l)) (ht : Nat.blt t N = true) (hz : l.length = len * z) (hl : len ≤ maxLen)
 (h : ∀ b,FlowP P ops hn w0 N E fr pa ((t,.slice (some ⟨b,0,none⟩) len len) :: L) H (.row e z (.slice (some ⟨b,0,none⟩) len len) len l :: bs)) : FlowP P ops hn w0 N E ((i,k + 1,⟨some t,.buildSlice T len ps.toArray,ty,pos,aft,none⟩) :: fr) pa L H bs :=
 ⟨blt_of ht,buildSlice hv hb ht fun b => reSt (fun _ s => s.boxRowZ hz hl) (FlowP.into (.inr<|.inl fun _ s => s.drop) (h b))⟩
theorem At.apD0 {e : TypeId} {size bytes m c : Nat} {p : Option Addr} {r : Value} {ds : List D} {bs' : List Value → Value → List Res} (hT : rowN P T = some (e,size,bytes)) (hx : ev L x = some r)
 (hm : ∀ news r',Upd bs (.row e size r 0 []) (.row e size r' m news) (bs' news r')) (hy : ev L y = some (.slice p m c)) (hr : Rep H (.seq size ds) [.slice p m c])
 (h63 : m ≤ maxLen) (hb : m * bytes ≤ 140737488355328) (ht : Nat.blt t n = true)
 (h : ∀ news r',RepZ H size ds news → At n ((t,r') :: L) H w0 (bs' news r') (wpList P ops Q rest)) : At n L H w0 bs (wpList P ops Q (⟨some t,.call ⟨.builtin .append,#[x,y],#[T,T]⟩,ty,pos,aft,none⟩ :: rest)) :=
 .apD hT hx (k := 0) (xs := []) (fun news r' => by rw [Nat.zero_add];exact hm news r') hy hr (by omega) (by rw [Nat.zero_add];exact hb) ht h
theorem AltT.apD0 {e : TypeId} {size bytes m c : Nat} {p : Option Addr} {r : Value} {ds : List D} {bs' : List Value → Value → List Res} (hT : rowN P T = some (e,size,bytes)) (hx : ev L x = some r)
 (hm : ∀ news r',Upd bs (.row e size r 0 []) (.row e size r' m news) (bs' news r')) (hy : ev L y = some (.slice p m c)) (hr : Rep H (.seq size ds) [.slice p m c])
 (h63 : m ≤ maxLen) (hb : m * bytes ≤ 140737488355328) (ht : Nat.blt t N = true)
 (hr2 : ∀ news r',RedoP P ops hn w0 N L H (bs' news r') i pa) (h : ∀ news p c,RepZ H size ds news → FlowT P ops hn w0 N E q pa ((t,.slice p m c) :: L) H (bs' news (.slice p m c))) :
 AltT P ops hn w0 N E i 2 ⟨some t,.call ⟨.builtin .append,#[x,y],#[T,T]⟩,ty,pos,aft,none⟩ q pa L H bs :=
 .apD hT hx (k := 0) (xs := []) (fun news r' => by rw [Nat.zero_add];exact hm news r') hy hr (by omega) (by rw [Nat.zero_add];exact hb) ht hr2 fun news p c hz => by rw [Nat.zero_add];exact h news p c hz
theorem FlowP.apD0 {e : TypeId} {size bytes m c : Nat} {p : Option Addr} {r : Value} {ds : List D} {bs' : List Value → Value → List Res} (hT : rowN P T = some (e,size,bytes)) (hx : ev L x = some r)
 (hm : ∀ news r',Upd bs (.row e size r 0 []) (.row e size r' m news) (bs' news r')) (hy : ev L y = some (.slice p m c)) (hr : Rep H (.seq size ds) [.slice p m c])
 (h63 : m ≤ maxLen) (hb : m * bytes ≤ 140737488355328) (ht : Nat.blt t N = true)
 (hr2 : ∀ news r',RedoP P ops hn w0 N L H (bs' news r') i pa) (h : ∀ news p c,RepZ H size ds news → FlowP P ops hn w0 N E fr pa ((t,.slice p m c) :: L) H (bs' news (.slice p m c))) :
 FlowP P ops hn w0 N E ((i,3,⟨some t,.call ⟨.builtin .append,#[x,y],#[T,T]⟩,ty,pos,aft,none⟩) :: fr) pa L H bs :=
 .apD hT hx (k := 0) (xs := []) (fun news r' => by rw [Nat.zero_add];exact hm news r') hy hr (by omega) (by rw [Nat.zero_add];exact hb) ht hr2 fun news p c hz => by rw [Nat.zero_add];exact h news p c hz
end
end Go.Sx
namespace Go.Proofs.YtmbiojpcidccjaaGreatDoor
open Go.RowKit Go.Par Go.Sx
abbrev Str := List UInt8
def strV (l : Str) : Value := .string ⟨l.toArray⟩
inductive Ex where
 | mk (op : UInt8) (nm : Str) (n : Int64) (args : List Ex)
inductive Sm where
 | mk (kind : UInt8) (nm hd : Str) (ex : List Ex) (th el : List Sm)
def Ex.op : Ex → UInt8 | .mk op _ _ _ => op
def Ex.args : Ex → List Ex | .mk _ _ _ args => args
mutual
def dEx (k : IntKind) : Ex → D
 | .mk op nm n args => .str [.val (.int k op.toNat),.val (strV nm),.val (.int .i64 n.toInt),.seq 4 (dExs k args)]
def dExs (k : IntKind) : List Ex → List D
 | [] => []
 | e :: r => dEx k e :: dExs k r
end
theorem dExs_map (k : IntKind) : ∀ l,dExs k l = l.map (dEx k)
 | [] => rfl
 | e :: r => by rw [dExs,dExs_map k r];rfl
theorem dEx_mk (k : IntKind) (op : UInt8) (nm : Str) (n : Int64) (args : List Ex) : dEx k (.mk op nm n args) = .str [.val (.int k op.toNat),.val (strV nm),.val (.int .i64 n.toInt),.seq 4 (args.map (dEx k))] := by rw [dEx,dExs_map]
mutual
def dSm (k : IntKind) : Sm → D
 | .mk kd nm hd ex th el => .str [.val (.int k kd.toNat),.val (strV nm),.val (strV hd),.seq 4 (ex.map (dEx k)),.seq 6 (dSms k th),.seq 6 (dSms k el)]
def dSms (k : IntKind) : List Sm → List D
 | [] => []
 | e :: r => dSm k e :: dSms k r
end
theorem dSms_map (k : IntKind) : ∀ l,dSms k l = l.map (dSm k)
 | [] => rfl
 | e :: r => by rw [dSms,dSms_map k r];rfl
theorem dSm_mk (k : IntKind) (kd : UInt8) (nm hd : Str) (ex : List Ex) (th el : List Sm) : dSm k (.mk kd nm hd ex th el) = .str [.val (.int k kd.toNat),.val (strV nm),.val (strV hd),.seq 4 (ex.map (dEx k)),.seq 6 (th.map (dSm k)),.seq 6 (el.map (dSm k))] := by rw [dSm,dSms_map,dSms_map]
theorem Ex.ind {C : Ex → Prop} (h : ∀ op nm n args,(∀ a ∈ args,C a) → C (.mk op nm n args)) : ∀ e,C e
 | .mk op nm n args => h op nm n args fun a ha => Ex.ind h a
termination_by e => SizeOf.sizeOf e
decreasing_by
 have := List.sizeOf_lt_of_mem ha
 simp;omega
theorem Sm.ind {C : Sm → Prop} (h : ∀ kd nm hd ex th el,(∀ a ∈ th,C a) → (∀ a ∈ el,C a) → C (.mk kd nm hd ex th el)) : ∀ e,C e
 | .mk kd nm hd ex th el => h kd nm hd ex th el (fun a ha => Sm.ind h a) (fun a ha => Sm.ind h a)
termination_by e => SizeOf.sizeOf e
decreasing_by
 all_goals
  have := List.sizeOf_lt_of_mem ha
  simp;omega
structure Hd where
 nm : Str
 ps : List Str
 body : List Sm
structure Vr where
 nm : Str
 ty : UInt8
 init : Int64
structure Cp where
 nm : Str
 vars : List Vr
 vers : List (List Hd)
structure Fg where
 nm : Str
 init : Bool
structure Lk where
 fr : Str
 to : Str
 lat : Int64
structure Ft where
 nm : Str
 flags : List Fg
 links : List Lk
 comps : List Cp
def dStr (s : Str) : D := .val (strV s)
def dHd (k : IntKind) (h : Hd) : D := .str [.val (strV h.nm),.seq 1 (h.ps.map dStr),.seq 6 (h.body.map (dSm k))]
def dVr (k : IntKind) (v : Vr) : D := .str [.val (strV v.nm),.val (.int k v.ty.toNat),.val (.int .i64 v.init.toInt)]
def dVs (k : IntKind) (v : List Hd) : D := .seq 3 (v.map (dHd k))
def dCp (k : IntKind) (c : Cp) : D := .str [.val (strV c.nm),.seq 3 (c.vars.map (dVr k)),.seq 1 (c.vers.map (dVs k))]
def dFg (f : Fg) : D := .str [.val (strV f.nm),.val (.bool f.init)]
def dLk (l : Lk) : D := .str [.val (strV l.fr),.val (strV l.to),.val (.int .i64 l.lat.toInt)]
def dFt (k : IntKind) (f : Ft) : D := .str [.val (strV f.nm),.seq 2 (f.flags.map dFg),.seq 3 (f.links.map dLk),.seq 3 (f.comps.map (dCp k))]
/-! ### Structs opened and shut -/
section
variable {H : Hp}
theorem repV {v : Value} (h : v.oneCell' = true) (k : okV v) : Rep H (.val v) [v] := by unfold Rep;exact ⟨rfl,h,k⟩
theorem okS {l : Str} : okV (strV l) ↔ l.length ≤ 1000000 := by simp [okV,strV,ByteArray.size]
theorem repL_cons {d : D} {ds : List D} {l : List Value} : RepL H (d :: ds) l ↔ ∃ x y,l = x ++ y ∧ Rep H d x ∧ RepL H ds y := by
 constructor
 ·intro h;unfold RepL at h;exact h
 ·intro h;unfold RepL;exact h
theorem repL_nil {l : List Value} : RepL H [] l ↔ l = [] := by
 constructor
 ·intro h;unfold RepL at h;exact h
 ·intro h;unfold RepL;exact h
theorem repS {ds : List D} {l : List Value} : Rep H (.str ds) l ↔ RepL H ds l := by
 constructor
 ·intro h;unfold Rep at h;exact h
 ·intro h;unfold Rep;exact h
theorem repL_val {v : Value} {ds : List D} {l : List Value} : RepL H (.val v :: ds) l ↔ ∃ y,l = v :: y ∧ v.oneCell' = true ∧ okV v ∧ RepL H ds y := by
 rw [repL_cons]
 constructor
 ·rintro ⟨x,y,rfl,hx,hy⟩
  unfold Rep at hx
  obtain ⟨rfl,h,k⟩ := hx
  exact ⟨y,rfl,h,k,hy⟩
 ·rintro ⟨y,rfl,h,k,hy⟩
  exact ⟨[v],y,rfl,repV h k,hy⟩
theorem repL_seq {z : Nat} {es ds : List D} {l : List Value} : RepL H (.seq z es :: ds) l ↔ ∃ p c y,l = .slice p es.length c :: y ∧ Rep H (.seq z es) [.slice p es.length c] ∧ RepL H ds y := by
 rw [repL_cons]
 constructor
 ·rintro ⟨x,y,rfl,hx,hy⟩
  obtain ⟨p,c,rfl,_⟩ := hx.sl
  exact ⟨p,c,y,rfl,hx,hy⟩
 ·rintro ⟨p,c,y,rfl,hx,hy⟩
  exact ⟨_,y,rfl,hx,hy⟩
theorem map_at {α β : Type} {f : α → β} {l : List α} {k : Nat} (h : k < l.length) : (l.map f)[k]? = some (f l[k]) := by simp [h]
theorem ex_open {k : IntKind} {op : UInt8} {nm : Str} {n : Int64} {args : List Ex} {cs : List Value} (h : Rep H (dEx k (.mk op nm n args)) cs) :
 ∃ p c,cs = [.int k op.toNat,strV nm,.int .i64 n.toInt,.slice p args.length c] ∧ Rep H (.seq 4 (args.map (dEx k))) [.slice p args.length c] ∧ nm.length ≤ 1000000 := by
 rw [dEx_mk,repS] at h
 obtain ⟨_,rfl,_,_,h⟩ := repL_val.1 h
 obtain ⟨_,rfl,_,hn,h⟩ := repL_val.1 h
 obtain ⟨_,rfl,_,_,h⟩ := repL_val.1 h
 obtain ⟨p,c,_,rfl,hs,h⟩ := repL_seq.1 h
 rw [repL_nil] at h
 subst h
 rw [List.length_map] at hs ⊢
 exact ⟨p,c,rfl,hs,okS.1 hn⟩
theorem ex_shut {k : IntKind} {op : UInt8} {nm : Str} {n : Int64} {args : List Ex} {s : Value} (hn : nm.length ≤ 1000000) (h : Rep H (.seq 4 (args.map (dEx k))) [s]) :
 Rep H (dEx k (.mk op nm n args)) [.int k op.toNat,strV nm,.int .i64 n.toInt,s] := by
 rw [dEx_mk,repS]
 exact repL_val.2 ⟨_,rfl,rfl,trivial,repL_val.2 ⟨_,rfl,rfl,okS.2 hn,repL_val.2 ⟨_,rfl,rfl,trivial,repL_cons.2 ⟨[s],[],rfl,h,repL_nil.2 rfl⟩⟩⟩⟩
theorem sm_open {k : IntKind} {kd : UInt8} {nm hd : Str} {ex : List Ex} {th el : List Sm} {cs : List Value} (h : Rep H (dSm k (.mk kd nm hd ex th el)) cs) :
 ∃ p c p1 c1 p2 c2,cs = [.int k kd.toNat,strV nm,strV hd,.slice p ex.length c,.slice p1 th.length c1,.slice p2 el.length c2] ∧ Rep H (.seq 4 (ex.map (dEx k))) [.slice p ex.length c] ∧ Rep H (.seq 6 (th.map (dSm k))) [.slice p1 th.length c1] ∧ Rep H (.seq 6 (el.map (dSm k))) [.slice p2 el.length c2] ∧ nm.length ≤ 1000000 ∧ hd.length ≤ 1000000 := by
 rw [dSm_mk,repS] at h
 obtain ⟨_,rfl,_,_,h⟩ := repL_val.1 h
 obtain ⟨_,rfl,_,hn,h⟩ := repL_val.1 h
 obtain ⟨_,rfl,_,hm,h⟩ := repL_val.1 h
 obtain ⟨p,c,_,rfl,hs,h⟩ := repL_seq.1 h
 obtain ⟨p1,c1,_,rfl,hs1,h⟩ := repL_seq.1 h
 obtain ⟨p2,c2,_,rfl,hs2,h⟩ := repL_seq.1 h
 rw [repL_nil] at h
 subst h
 rw [List.length_map] at hs hs1 hs2
 exact ⟨p,c,p1,c1,p2,c2,by rw [List.length_map,List.length_map,List.length_map],hs,hs1,hs2,okS.1 hn,okS.1 hm⟩
theorem sm_shut {k : IntKind} {kd : UInt8} {nm hd : Str} {ex : List Ex} {th el : List Sm} {s s1 s2 : Value} (hn : nm.length ≤ 1000000) (hm : hd.length ≤ 1000000) (h : Rep H (.seq 4 (ex.map (dEx k))) [s]) (h1 : Rep H (.seq 6 (th.map (dSm k))) [s1]) (h2 : Rep H (.seq 6 (el.map (dSm k))) [s2]) :
 Rep H (dSm k (.mk kd nm hd ex th el)) [.int k kd.toNat,strV nm,strV hd,s,s1,s2] := by
 rw [dSm_mk,repS]
 exact repL_val.2 ⟨_,rfl,rfl,trivial,repL_val.2 ⟨_,rfl,rfl,okS.2 hn,repL_val.2 ⟨_,rfl,rfl,okS.2 hm,repL_cons.2 ⟨[s],_,rfl,h,repL_cons.2 ⟨[s1],_,rfl,h1,repL_cons.2 ⟨[s2],[],rfl,h2,repL_nil.2 rfl⟩⟩⟩⟩⟩⟩
theorem hd_open {k : IntKind} {x : Hd} {cs : List Value} (h : Rep H (dHd k x) cs) :
 ∃ p1 c1 p2 c2,cs = [strV x.nm,.slice p1 x.ps.length c1,.slice p2 x.body.length c2] ∧ x.nm.length ≤ 1000000 ∧ Rep H (.seq 1 (x.ps.map dStr)) [.slice p1 x.ps.length c1] ∧ Rep H (.seq 6 (x.body.map (dSm k))) [.slice p2 x.body.length c2] := by
 rw [dHd,repS] at h
 obtain ⟨_,rfl,_,k0,h⟩ := repL_val.1 h
 obtain ⟨p1,c1,_,rfl,k1,h⟩ := repL_seq.1 h
 obtain ⟨p2,c2,_,rfl,k2,h⟩ := repL_seq.1 h
 rw [repL_nil] at h
 subst h
 exact ⟨p1,c1,p2,c2,by simp,okS.1 k0,(by simpa using k1),(by simpa using k2)⟩
theorem hd_shut {k : IntKind} {x : Hd} (k0 : x.nm.length ≤ 1000000) {s1 : Value} (k1 : Rep H (.seq 1 (x.ps.map dStr)) [s1]) {s2 : Value} (k2 : Rep H (.seq 6 (x.body.map (dSm k))) [s2]) : Rep H (dHd k x) [strV x.nm,s1,s2] := by
 rw [dHd,repS]
 exact repL_val.2 ⟨_,rfl,rfl,okS.2 k0,repL_cons.2 ⟨[s1],_,rfl,k1,repL_cons.2 ⟨[s2],_,rfl,k2,repL_nil.2 rfl⟩⟩⟩
theorem vr_open {k : IntKind} {x : Vr} {cs : List Value} (h : Rep H (dVr k x) cs) :
 cs = [strV x.nm,.int k x.ty.toNat,.int .i64 x.init.toInt] ∧ x.nm.length ≤ 1000000 := by
 rw [dVr,repS] at h
 obtain ⟨_,rfl,_,k0,h⟩ := repL_val.1 h
 obtain ⟨_,rfl,_,_,h⟩ := repL_val.1 h
 obtain ⟨_,rfl,_,_,h⟩ := repL_val.1 h
 rw [repL_nil] at h
 subst h
 exact ⟨by simp,okS.1 k0⟩
theorem vr_shut {k : IntKind} {x : Vr} (k0 : x.nm.length ≤ 1000000) : Rep H (dVr k x) [strV x.nm,.int k x.ty.toNat,.int .i64 x.init.toInt] := by
 rw [dVr,repS]
 exact repL_val.2 ⟨_,rfl,rfl,okS.2 k0,repL_val.2 ⟨_,rfl,rfl,trivial,repL_val.2 ⟨_,rfl,rfl,trivial,repL_nil.2 rfl⟩⟩⟩
theorem cp_open {k : IntKind} {x : Cp} {cs : List Value} (h : Rep H (dCp k x) cs) :
 ∃ p1 c1 p2 c2,cs = [strV x.nm,.slice p1 x.vars.length c1,.slice p2 x.vers.length c2] ∧ x.nm.length ≤ 1000000 ∧ Rep H (.seq 3 (x.vars.map (dVr k))) [.slice p1 x.vars.length c1] ∧ Rep H (.seq 1 (x.vers.map (dVs k))) [.slice p2 x.vers.length c2] := by
 rw [dCp,repS] at h
 obtain ⟨_,rfl,_,k0,h⟩ := repL_val.1 h
 obtain ⟨p1,c1,_,rfl,k1,h⟩ := repL_seq.1 h
 obtain ⟨p2,c2,_,rfl,k2,h⟩ := repL_seq.1 h
 rw [repL_nil] at h
 subst h
 exact ⟨p1,c1,p2,c2,by simp,okS.1 k0,(by simpa using k1),(by simpa using k2)⟩
theorem cp_shut {k : IntKind} {x : Cp} (k0 : x.nm.length ≤ 1000000) {s1 : Value} (k1 : Rep H (.seq 3 (x.vars.map (dVr k))) [s1]) {s2 : Value} (k2 : Rep H (.seq 1 (x.vers.map (dVs k))) [s2]) : Rep H (dCp k x) [strV x.nm,s1,s2] := by
 rw [dCp,repS]
 exact repL_val.2 ⟨_,rfl,rfl,okS.2 k0,repL_cons.2 ⟨[s1],_,rfl,k1,repL_cons.2 ⟨[s2],_,rfl,k2,repL_nil.2 rfl⟩⟩⟩
theorem fg_open {x : Fg} {cs : List Value} (h : Rep H (dFg x) cs) :
 cs = [strV x.nm,.bool x.init] ∧ x.nm.length ≤ 1000000 := by
 rw [dFg,repS] at h
 obtain ⟨_,rfl,_,k0,h⟩ := repL_val.1 h
 obtain ⟨_,rfl,_,_,h⟩ := repL_val.1 h
 rw [repL_nil] at h
 subst h
 exact ⟨by simp,okS.1 k0⟩
theorem fg_shut {x : Fg} (k0 : x.nm.length ≤ 1000000) : Rep H (dFg x) [strV x.nm,.bool x.init] := by
 rw [dFg,repS]
 exact repL_val.2 ⟨_,rfl,rfl,okS.2 k0,repL_val.2 ⟨_,rfl,rfl,trivial,repL_nil.2 rfl⟩⟩
theorem lk_open {x : Lk} {cs : List Value} (h : Rep H (dLk x) cs) :
 cs = [strV x.fr,strV x.to,.int .i64 x.lat.toInt] ∧ x.fr.length ≤ 1000000 ∧ x.to.length ≤ 1000000 := by
 rw [dLk,repS] at h
 obtain ⟨_,rfl,_,k0,h⟩ := repL_val.1 h
 obtain ⟨_,rfl,_,k1,h⟩ := repL_val.1 h
 obtain ⟨_,rfl,_,_,h⟩ := repL_val.1 h
 rw [repL_nil] at h
 subst h
 exact ⟨by simp,okS.1 k0,okS.1 k1⟩
theorem lk_shut {x : Lk} (k0 : x.fr.length ≤ 1000000) (k1 : x.to.length ≤ 1000000) : Rep H (dLk x) [strV x.fr,strV x.to,.int .i64 x.lat.toInt] := by
 rw [dLk,repS]
 exact repL_val.2 ⟨_,rfl,rfl,okS.2 k0,repL_val.2 ⟨_,rfl,rfl,okS.2 k1,repL_val.2 ⟨_,rfl,rfl,trivial,repL_nil.2 rfl⟩⟩⟩
theorem ft_open {k : IntKind} {x : Ft} {cs : List Value} (h : Rep H (dFt k x) cs) :
 ∃ p1 c1 p2 c2 p3 c3,cs = [strV x.nm,.slice p1 x.flags.length c1,.slice p2 x.links.length c2,.slice p3 x.comps.length c3] ∧ x.nm.length ≤ 1000000 ∧ Rep H (.seq 2 (x.flags.map dFg)) [.slice p1 x.flags.length c1] ∧ Rep H (.seq 3 (x.links.map dLk)) [.slice p2 x.links.length c2] ∧ Rep H (.seq 3 (x.comps.map (dCp k))) [.slice p3 x.comps.length c3] := by
 rw [dFt,repS] at h
 obtain ⟨_,rfl,_,k0,h⟩ := repL_val.1 h
 obtain ⟨p1,c1,_,rfl,k1,h⟩ := repL_seq.1 h
 obtain ⟨p2,c2,_,rfl,k2,h⟩ := repL_seq.1 h
 obtain ⟨p3,c3,_,rfl,k3,h⟩ := repL_seq.1 h
 rw [repL_nil] at h
 subst h
 exact ⟨p1,c1,p2,c2,p3,c3,by simp,okS.1 k0,(by simpa using k1),(by simpa using k2),(by simpa using k3)⟩
theorem ft_shut {k : IntKind} {x : Ft} (k0 : x.nm.length ≤ 1000000) {s1 : Value} (k1 : Rep H (.seq 2 (x.flags.map dFg)) [s1]) {s2 : Value} (k2 : Rep H (.seq 3 (x.links.map dLk)) [s2]) {s3 : Value} (k3 : Rep H (.seq 3 (x.comps.map (dCp k))) [s3]) : Rep H (dFt k x) [strV x.nm,s1,s2,s3] := by
 rw [dFt,repS]
 exact repL_val.2 ⟨_,rfl,rfl,okS.2 k0,repL_cons.2 ⟨[s1],_,rfl,k1,repL_cons.2 ⟨[s2],_,rfl,k2,repL_cons.2 ⟨[s3],_,rfl,k3,repL_nil.2 rfl⟩⟩⟩⟩
theorem vs_open {k : IntKind} {x : List Hd} {cs : List Value} (h : Rep H (dVs k x) cs) : ∃ p c,cs = [.slice p x.length c] ∧ Rep H (.seq 3 (x.map (dHd k))) [.slice p x.length c] := by
 rw [dVs] at h
 obtain ⟨p,c,rfl,_⟩ := h.sl
 rw [List.length_map] at h ⊢
 exact ⟨p,c,rfl,h⟩
theorem str_open {x : Str} {cs : List Value} (h : Rep H (dStr x) cs) : cs = [strV x] ∧ x.length ≤ 1000000 := by
 unfold dStr Rep at h
 exact ⟨h.1,okS.1 h.2.2⟩
theorem str_shut {x : Str} (h : x.length ≤ 1000000) : Rep H (dStr x) [strV x] := repV rfl (okS.2 h)
end
end Go.Proofs.YtmbiojpcidccjaaGreatDoor
namespace Go.Proofs.YtmbiojpcidccjaaGreatDoor
mutual
def Ex.depth : Ex → Nat
 | .mk _ _ _ args => Ex.deeps args + 1
def Ex.deeps : List Ex → Nat
 | [] => 0
 | e :: r => max (Ex.depth e) (Ex.deeps r)
end
theorem take_snoc {α : Type} {l : List α} {k : Nat} (h : k < l.length) : l.take (k + 1) = l.take k ++ [l[k]] := by simp
theorem deeps_app (a b : List Ex) : Ex.deeps (a ++ b) = max (Ex.deeps a) (Ex.deeps b) := by
 induction a with
 | nil => simp [Ex.deeps]
 | cons e r ih => simp only [List.cons_append,Ex.deeps,ih];omega
theorem deeps_succ {l : List Ex} {k : Nat} (h : k < l.length) : Ex.deeps (l.take (k + 1)) = max (Ex.deeps (l.take k)) (Ex.depth l[k]) := by
 rw [take_snoc h,deeps_app];simp [Ex.deeps]
theorem deeps_take (l : List Ex) (k : Nat) : Ex.deeps (l.take k) ≤ Ex.deeps l := by
 have := deeps_app (l.take k) (l.drop k)
 rw [List.take_append_drop] at this;omega
theorem deeps_mem {l : List Ex} {e : Ex} (h : e ∈ l) : Ex.depth e ≤ Ex.deeps l := by
 induction l with
 | nil => cases h
 | cons a r ih =>
  simp only [Ex.deeps]
  rcases List.mem_cons.1 h with rfl | h
  ·omega
  ·have := ih h;omega
theorem deeps_at {l : List Ex} {k : Nat} (h : k < l.length) : Ex.depth l[k] ≤ Ex.deeps l := deeps_mem (List.getElem_mem h)
theorem depth_mk (op : UInt8) (nm : Str) (n : Int64) (args : List Ex) : Ex.depth (.mk op nm n args) = Ex.deeps args + 1 := by rw [Ex.depth]
def Sm.kd : Sm → UInt8 | .mk kd _ _ _ _ _ => kd
def Sm.ex : Sm → List Ex | .mk _ _ _ ex _ _ => ex
def Sm.th : Sm → List Sm | .mk _ _ _ _ th _ => th
def Sm.el : Sm → List Sm | .mk _ _ _ _ _ el => el
theorem Sm.lists {C : List Sm → Prop} (h : ∀ l,(∀ s ∈ l,C s.th ∧ C s.el) → C l) : ∀ l,C l := by
 have key : ∀ s : Sm,C s.th ∧ C s.el := fun s => by
  induction s using Sm.ind with
  | _ kd nm hd ex th el ih1 ih2 => exact ⟨h th fun a ha => ih1 a ha,h el fun a ha => ih2 a ha⟩
 exact fun l => h l fun s _ => key s
mutual
def Sm.depth : Sm → Nat
 | .mk _ _ _ _ th el => max (Sm.deeps th) (Sm.deeps el) + 1
def Sm.deeps : List Sm → Nat
 | [] => 0
 | e :: r => max (Sm.depth e) (Sm.deeps r)
end
mutual
def Sm.count : Sm → Nat
 | .mk _ _ _ _ th el => Sm.counts th + Sm.counts el + 1
def Sm.counts : List Sm → Nat
 | [] => 0
 | e :: r => Sm.count e + Sm.counts r
end
theorem sdeeps_app (a b : List Sm) : Sm.deeps (a ++ b) = max (Sm.deeps a) (Sm.deeps b) := by
 induction a with
 | nil => simp [Sm.deeps]
 | cons e r ih => simp only [List.cons_append,Sm.deeps,ih];omega
theorem sdeeps_succ {l : List Sm} {k : Nat} (h : k < l.length) : Sm.deeps (l.take (k + 1)) = max (Sm.deeps (l.take k)) (Sm.depth l[k]) := by
 rw [take_snoc h,sdeeps_app];simp [Sm.deeps]
theorem sdeeps_take (l : List Sm) (k : Nat) : Sm.deeps (l.take k) ≤ Sm.deeps l := by
 have := sdeeps_app (l.take k) (l.drop k)
 rw [List.take_append_drop] at this;omega
theorem scounts_app (a b : List Sm) : Sm.counts (a ++ b) = Sm.counts a + Sm.counts b := by
 induction a with
 | nil => simp [Sm.counts]
 | cons e r ih => simp only [List.cons_append,Sm.counts,ih];omega
theorem scounts_succ {l : List Sm} {k : Nat} (h : k < l.length) : Sm.counts (l.take (k + 1)) = Sm.counts (l.take k) + Sm.count l[k] := by
 rw [take_snoc h,scounts_app];simp [Sm.counts]
theorem scounts_take (l : List Sm) (k : Nat) : Sm.counts (l.take k) ≤ Sm.counts l := by
 have := scounts_app (l.take k) (l.drop k)
 rw [List.take_append_drop] at this;omega
theorem scount_mk (kd : UInt8) (nm hd : Str) (ex : List Ex) (th el : List Sm) : Sm.count (.mk kd nm hd ex th el) = Sm.counts th + Sm.counts el + 1 := by rw [Sm.count]
theorem sdepth_mk (kd : UInt8) (nm hd : Str) (ex : List Ex) (th el : List Sm) : Sm.depth (.mk kd nm hd ex th el) = max (Sm.deeps th) (Sm.deeps el) + 1 := by rw [Sm.depth]
theorem scounts_len (l : List Sm) : l.length ≤ Sm.counts l := by
 induction l with
 | nil => simp
 | cons e r ih =>
  obtain ⟨kd,nm,hd,ex,th,el⟩ := e
  simp only [List.length_cons,Sm.counts,scount_mk];omega
end Go.Proofs.YtmbiojpcidccjaaGreatDoor
namespace Go.Proofs.YtmbiojpcidccjaaGreatDoor
open Go.RowKit Go.Par Go.Sx
def letB (c : UInt8) : Bool := (decide (97 ≤ c.toNat) && decide (c.toNat ≤ 122)) || (decide (65 ≤ c.toNat) && decide (c.toNat ≤ 90))
def digB (c : UInt8) : Bool := decide (48 ≤ c.toNat) && decide (c.toNat ≤ 57)
def insB (c : UInt8) : Bool := letB c || digB c || decide (c.toNat = 95)
def words : List Str := [[97,102,116,101,114],[97,108,119,97,121,115],[97,110,100],[97,114,114,105,118,101,115],[98,111,111,108],[99,111,109,112,111,110,101,110,116],[99,111,117,110,116],[100,101,108,101,116,101],[100,111],[101,108,115,101],[101,120,105,115,116,115],[102,97,108,115,101],[102,101,116,99,104],[102,108,97,103],[102,108,101,101,116],[102,111,114,97,108,108],[104,97,115],[105,102],[105,109,112,108,105,101,115],[105,110],[105,110,116],[108,97,116,101,110,99,121],[108,105,110,107],[110,111,116],[110,111,119],[111,110],[111,110,99,101],[111,114],[112,114,101,118,105,111,117,115],[115,101,110,100],[115,105,110,99,101],[115,105,122,101],[115,116,111,112],[115,116,111,114,101],[116,97,98,108,101],[116,114,117,101],[118,97,114],[118,101,114,115,105,111,110],[119,104,105,108,101]]
def symbols : List Str := [[46,46],[61,61],[33,61],[60,61],[62,61],[45,62],[123],[125],[40],[41],[91],[93],[44],[59],[58],[46],[61],[60],[62],[43],[45],[42],[47],[37],[95]]
def pre (q : UInt8 → Bool) (l : Str) : Nat := (l.takeWhile q).length
theorem pre_le (q : UInt8 → Bool) (l : Str) : pre q l ≤ l.length := by
 unfold pre
 induction l with
 | nil => simp
 | cons a r ih => rw [List.takeWhile_cons];split <;> simp;omega
theorem pre_step {q : UInt8 → Bool} : ∀ {l : Str} {k : Nat} (h : k < l.length),k ≤ pre q l → q l[k] = true → k + 1 ≤ pre q l
 | [],k,h,_,_ => by simp at h
 | a :: r,0,h,_,hq => by
  unfold pre
  rw [List.takeWhile_cons]
  simp at hq
  simp [hq]
 | a :: r,k + 1,h,hk,hq => by
  unfold pre at hk ⊢
  rw [List.takeWhile_cons] at hk ⊢
  cases ha : q a with
  | false => rw [ha] at hk;simp at hk
  | true =>
   rw [ha] at hk
   simp at hk hq
   have := pre_step (l := r) (k := k) (by simpa using h) hk hq
   unfold pre at this
   simp;omega
theorem pre_stop {q : UInt8 → Bool} : ∀ {l : Str} {k : Nat} (h : k < l.length),k ≤ pre q l → q l[k] = false → k = pre q l
 | [],k,h,_,_ => by simp at h
 | a :: r,0,h,_,hq => by
  unfold pre
  rw [List.takeWhile_cons]
  simp at hq
  simp [hq]
 | a :: r,k + 1,h,hk,hq => by
  unfold pre at hk ⊢
  rw [List.takeWhile_cons] at hk ⊢
  cases ha : q a with
  | false => rw [ha] at hk;simp at hk
  | true =>
   rw [ha] at hk
   simp at hk hq
   have := pre_stop (l := r) (k := k) (by simpa using h) hk hq
   unfold pre at this
   simp;omega
def readK (l : Str) : UInt8 × Nat :=
 let c := l.headD 0
 if letB c then
  if words.contains (l.take (pre insB l)) then (2,pre insB l) else if pre insB l ≤ 12 then (1,pre insB l) else (5,l.length)
 else if digB c then
  if pre digB l = 1 ∨ c ≠ 48 then (3,pre digB l) else (5,l.length)
 else match symbols.find? (fun x => x.isPrefixOf l) with
  | some x => (4,x.length)
  | none => (5,l.length)
def nameB (l : Str) : Bool := decide (l ≠ []) && (readK l).1 == 1 && decide ((readK l).2 = l.length)
def hasP (l m : Str) : Bool := decide (m.length ≤ l.length) && decide (l.take m.length = m)
theorem hasP_pre (l m : Str) : hasP l m = m.isPrefixOf l := by
 rw [Bool.eq_iff_iff]
 simp only [hasP,Bool.and_eq_true,decide_eq_true_eq,List.isPrefixOf_iff_prefix]
 constructor
 ·rintro ⟨_,h⟩
  have := List.take_append_drop m.length l
  rw [h] at this
  exact ⟨_,this⟩
 ·rintro ⟨t,rfl⟩;simp
theorem getD_at {α : Type} {l : List α} {k : Nat} (h : k < l.length) (d : α) : l.getD k d = l[k] := by simp [h]
theorem list_at {α β : Type} {f : α → β} {l : List α} {k : Nat} (h : k < l.length) (d : α) : (l.map f)[k]? = some (f (l.getD k d)) := by simp [h]
structure Shp where
 n : Nat
 nm : Bool
 lv : Nat
 tx : Str
structure Frm where
 nm : Bool
 hd : Bool
 lo : Nat
 hi : Nat
 th : Bool
 el : Bool
def shapes : List Shp := [⟨0,false,0,[]⟩,⟨0,false,7,[]⟩,⟨0,false,7,[116,114,117,101]⟩,⟨0,false,7,[102,97,108,115,101]⟩,⟨0,false,7,[110,111,119]⟩,⟨0,true,7,[]⟩,⟨1,true,7,[]⟩,⟨1,true,7,[104,97,115,32]⟩,⟨0,true,7,[115,105,122,101,32]⟩,⟨1,false,6,[45]⟩,⟨1,false,6,[110,111,116,32]⟩,⟨2,false,5,[32,42,32]⟩,⟨2,false,5,[32,47,32]⟩,⟨2,false,5,[32,37,32]⟩,⟨2,false,4,[32,43,32]⟩,⟨2,false,4,[32,45,32]⟩,⟨2,false,3,[32,61,61,32]⟩,⟨2,false,3,[32,33,61,32]⟩,⟨2,false,3,[32,60,32]⟩,⟨2,false,3,[32,60,61,32]⟩,⟨2,false,3,[32,62,32]⟩,⟨2,false,3,[32,62,61,32]⟩,⟨2,false,2,[32,97,110,100,32]⟩,⟨2,false,1,[32,111,114,32]⟩]
def forms : List Frm := [⟨false,false,0,0,false,false⟩,⟨true,false,1,1,false,false⟩,⟨true,false,2,2,false,false⟩,⟨true,false,1,1,false,false⟩,⟨false,false,1,1,true,true⟩,⟨false,false,1,1,true,false⟩,⟨true,true,0,4,false,false⟩,⟨false,true,1,5,false,false⟩,⟨false,false,2,2,false,true⟩,⟨true,false,1,1,false,true⟩,⟨false,false,0,0,false,false⟩]
def shapeC (s : Shp) : List Value := [.int .i64 (s.n : Nat),.bool s.nm,.int .i64 (s.lv : Nat),strV s.tx]
def formC (s : Frm) : List Value := [.bool s.nm,.bool s.hd,.int .i64 (s.lo : Nat),.int .i64 (s.hi : Nat),.bool s.th,.bool s.el]
def okOp (op : UInt8) : Bool := decide (1 ≤ op.toNat) && decide (op.toNat ≤ 23)
def okKd (op : UInt8) : Bool := decide (1 ≤ op.toNat) && decide (op.toNat ≤ 10)
def shapeOf (op : UInt8) : Shp := if okOp op then shapes.getD op.toNat ⟨0,false,0,[]⟩ else ⟨0,false,0,[]⟩
def formOf (op : UInt8) : Frm := if okKd op then forms.getD op.toNat ⟨false,false,0,0,false,false⟩ else ⟨false,false,0,0,false,false⟩
theorem flat_at {α : Type} {f : α → List Value} {z : Nat} (hz : ∀ a,(f a).length = z) : ∀ {l : List α} {i : Nat} (d : α),i < l.length → ∀ (j : Nat) u,(f (l.getD i d))[j]? = some u → (l.flatMap f)[i * z + j]? = some u
 | [],i,d,h,j,u,e => by simp at h
 | a :: r,0,d,h,j,u,e => by
  simp only [List.flatMap_cons,Nat.zero_mul,Nat.zero_add]
  simp at e
  rw [List.getElem?_append_left (List.getElem?_eq_some_iff.1 e).1];exact e
 | a :: r,i + 1,d,h,j,u,e => by
  simp only [List.flatMap_cons]
  rw [List.getElem?_append_right (by rw [hz,Nat.succ_mul];omega),hz,show (i + 1) * z + j - z = i * z + j by rw [Nat.succ_mul];omega]
  exact flat_at hz d (by simpa using h) j u (by simpa using e)
structure Gl (H : Hp) : Prop where
 shapes : MemAt H 0 0 (shapes.flatMap shapeC)
 forms : MemAt H 2 0 (forms.flatMap formC)
 words : MemAt H 3 0 (words.map strV)
 symbols : MemAt H 1 0 (symbols.map strV)
theorem Gl.up {H H' : Hp} (g : Gl H) (u : Up H H') : Gl H' := ⟨g.shapes.up u,g.forms.up u,g.words.up u,g.symbols.up u⟩
mutual
def Ex.all (q : Ex → Bool) : Ex → Bool
 | .mk op nm n args => q (.mk op nm n args) && Ex.alls q args
def Ex.alls (q : Ex → Bool) : List Ex → Bool
 | [] => true
 | e :: r => Ex.all q e && Ex.alls q r
end
theorem alls_app (q : Ex → Bool) (a b : List Ex) : Ex.alls q (a ++ b) = (Ex.alls q a && Ex.alls q b) := by
 induction a with
 | nil => simp [Ex.alls]
 | cons e r ih => simp only [List.cons_append,Ex.alls,ih,Bool.and_assoc]
theorem alls_succ {q : Ex → Bool} {l : List Ex} {k : Nat} (h : k < l.length) : Ex.alls q (l.take (k + 1)) = (Ex.alls q (l.take k) && Ex.all q l[k]) := by
 rw [take_snoc h,alls_app];simp [Ex.alls]
theorem alls_bad {q : Ex → Bool} {l : List Ex} {k : Nat} (h : k < l.length) (hb : Ex.all q l[k] = false) : Ex.alls q l = false := by
 have h1 := alls_app q (l.take (k + 1)) (l.drop (k + 1))
 rw [List.take_append_drop,alls_succ h,hb] at h1
 simpa using h1
theorem all_mk (q : Ex → Bool) (op : UInt8) (nm : Str) (n : Int64) (args : List Ex) : Ex.all q (.mk op nm n args) = (q (.mk op nm n args) && Ex.alls q args) := by rw [Ex.all]
mutual
def Sm.all (q : Sm → Bool) : Sm → Bool
 | .mk kd nm hd ex th el => q (.mk kd nm hd ex th el) && Sm.alls q th && Sm.alls q el
def Sm.alls (q : Sm → Bool) : List Sm → Bool
 | [] => true
 | e :: r => Sm.all q e && Sm.alls q r
end
theorem salls_app (q : Sm → Bool) (a b : List Sm) : Sm.alls q (a ++ b) = (Sm.alls q a && Sm.alls q b) := by
 induction a with
 | nil => simp [Sm.alls]
 | cons e r ih => simp only [List.cons_append,Sm.alls,ih,Bool.and_assoc]
theorem salls_succ {q : Sm → Bool} {l : List Sm} {k : Nat} (h : k < l.length) : Sm.alls q (l.take (k + 1)) = (Sm.alls q (l.take k) && Sm.all q l[k]) := by
 rw [take_snoc h,salls_app];simp [Sm.alls]
theorem salls_bad {q : Sm → Bool} {l : List Sm} {k : Nat} (h : k < l.length) (hb : Sm.all q l[k] = false) : Sm.alls q l = false := by
 have h1 := salls_app q (l.take (k + 1)) (l.drop (k + 1))
 rw [List.take_append_drop,salls_succ h,hb] at h1
 simpa using h1
theorem sall_mk (q : Sm → Bool) (kd : UInt8) (nm hd : Str) (ex : List Ex) (th el : List Sm) : Sm.all q (.mk kd nm hd ex th el) = (q (.mk kd nm hd ex th el) && Sm.alls q th && Sm.alls q el) := by rw [Sm.all]
theorem salls_at {q : Sm → Bool} {l : List Sm} {k : Nat} (h : k < l.length) (ha : Sm.alls q l = true) : Sm.all q l[k] = true := by
 cases hb : Sm.all q l[k] with
 | true => rfl
 | false => rw [salls_bad h hb] at ha;cases ha
def okS1 : Sm → Bool
 | .mk _ _ _ ex _ _ => ex.all fun x => decide (x.depth ≤ 1000000)
def namE : Ex → Bool
 | .mk op nm _ _ => !(shapeOf op).nm || nameB nm
def frmE : Ex → Bool
 | .mk op nm n args => okOp op && decide (args.length = (shapeOf op).n) && ((shapeOf op).nm || decide (nm = [])) && (if op = 1 then decide (0 ≤ n.toInt) else decide (n.toInt = 0))
def checkE (e : Ex) : Nat := if 8 < e.depth then 3 else if Ex.all namE e = false then 9 else if Ex.all frmE e = false then 6 else 0
def namS : Sm → Bool
 | .mk kd nm hd ex _ _ => (!(formOf kd).nm || nameB nm) && (!(formOf kd).hd || nameB hd) && Ex.alls namE ex
def frmS : Sm → Bool
 | .mk kd nm hd ex th el => okKd kd && decide ((formOf kd).lo ≤ ex.length) && decide (ex.length ≤ (formOf kd).hi) && ((formOf kd).nm || decide (nm = [])) && ((formOf kd).hd || decide (hd = [])) &&
  ((formOf kd).th || decide (th.length = 0)) && ((formOf kd).el || decide (el.length = 0)) && Ex.alls frmE ex
theorem frmS_eq (kd : UInt8) (nm hd : Str) (ex : List Ex) (th el : List Sm) : frmS (.mk kd nm hd ex th el) =
 (!(!okKd kd || decide ((ex.length : Int) < ((formOf kd).lo : Nat)) || decide (((formOf kd).hi : Nat) < (ex.length : Int))) && !((!(formOf kd).nm && decide (¬ nm = [])) || (!(formOf kd).hd && decide (¬ hd = []))) &&
  !((!(formOf kd).th && decide ((0 : Int) < th.length)) || (!(formOf kd).el && decide ((0 : Int) < el.length))) && Ex.alls frmE ex) := by
 have h1 : decide ((ex.length : Int) < ((formOf kd).lo : Nat)) = !decide ((formOf kd).lo ≤ ex.length) := by rw [Bool.eq_iff_iff];simp
 have h2 : decide (((formOf kd).hi : Nat) < (ex.length : Int)) = !decide (ex.length ≤ (formOf kd).hi) := by rw [Bool.eq_iff_iff];simp
 have h3 : decide ((0 : Int) < th.length) = !decide (th.length = 0) := by rw [Bool.eq_iff_iff];simp only [decide_eq_true_eq,Bool.not_eq_true',decide_eq_false_iff_not];omega
 have h4 : decide ((0 : Int) < el.length) = !decide (el.length = 0) := by rw [Bool.eq_iff_iff];simp only [decide_eq_true_eq,Bool.not_eq_true',decide_eq_false_iff_not];omega
 have h5 : decide (¬ nm = []) = !decide (nm = []) := by simp
 have h6 : decide (¬ hd = []) = !decide (hd = []) := by simp
 rw [frmS,h1,h2,h3,h4,h5,h6]
 generalize decide ((formOf kd).lo ≤ ex.length) = a1
 generalize decide (ex.length ≤ (formOf kd).hi) = a2
 generalize decide (th.length = 0) = a3
 generalize decide (el.length = 0) = a4
 generalize decide (nm = []) = a5
 generalize decide (hd = []) = a6
 cases okKd kd <;> cases a1 <;> cases a2 <;> cases (formOf kd).nm <;> cases a5 <;> cases (formOf kd).hd <;> cases a6 <;> cases (formOf kd).th <;> cases a3 <;> cases (formOf kd).el <;> cases a4 <;> simp
def smaS : Sm → Bool
 | .mk _ _ _ ex _ _ => ex.all fun x => decide (x.depth ≤ 8)
def smaH (h : Hd) : Bool := !(decide (4 < h.ps.length) || decide (40 < Sm.counts h.body) || decide (8 < Sm.deeps h.body)) && Sm.alls smaS h.body
def namH (h : Hd) : Bool := nameB h.nm && h.ps.all nameB && Sm.alls namS h.body
def frmH (h : Hd) : Bool := Sm.alls frmS h.body
def okH (h : Hd) : Bool := decide (Sm.counts h.body ≤ 1000000) && decide (Sm.deeps h.body ≤ 1000000) && Sm.alls okS1 h.body
def evH (q : Hd → Bool) (f : Ft) : Bool := f.comps.all fun c => c.vers.all fun v => v.all q
def frmV (v : Vr) : Bool := if v.ty = 1 then decide (v.init.toInt ≠ -9223372036854775808) else if v.ty = 2 then decide (v.init.toInt = 0 ∨ v.init.toInt = 1) else if v.ty = 3 then decide (v.init.toInt = 0) else false
theorem lall_succ {α : Type} {q : α → Bool} {l : List α} {k : Nat} (h : k < l.length) : (l.take (k + 1)).all q = ((l.take k).all q && q l[k]) := by
 rw [take_snoc h,List.all_append];simp
theorem lall_bad {α : Type} {q : α → Bool} {l : List α} {k : Nat} (h : k < l.length) (hb : q l[k] = false) : l.all q = false := by
 rw [List.all_eq_false]
 exact ⟨l[k],List.getElem_mem h,by simp [hb]⟩
theorem lall_at {α : Type} {q : α → Bool} {l : List α} {k : Nat} (h : k < l.length) (ha : l.all q = true) : q l[k] = true := List.all_eq_true.1 ha _ (List.getElem_mem h)
def cpAll (q : Hd → Bool) (c : Cp) : Bool := c.vers.all fun v => v.all q
theorem evH_eq (q : Hd → Bool) (f : Ft) : evH q f = f.comps.all (cpAll q) := rfl
def namF (f : Ft) : Bool := nameB f.nm && f.flags.all (fun x => nameB x.nm) && f.links.all (fun x => nameB x.fr && nameB x.to) && f.comps.all (fun c => nameB c.nm && c.vars.all fun v => nameB v.nm) && evH namH f
def lkB (x : Lk) : Bool := decide (1 ≤ x.lat.toInt) && decide (x.lat.toInt ≤ 50)
def frmF (f : Ft) : Bool := f.links.all lkB && f.comps.all (fun c => c.vars.all frmV) && evH frmH f
def stepH (ks : List Str) (h : Hd) : List Str := addK ks h.nm
def stepV (ks : List Str) (v : List Hd) : List Str := v.foldl stepH ks
def namesOf (c : Cp) : List Str := c.vers.foldl stepV []
theorem fold_succ {α β : Type} {f : β → α → β} {a : β} {l : List α} {k : Nat} (h : k < l.length) : (l.take (k + 1)).foldl f a = f ((l.take k).foldl f a) l[k] := by
 rw [take_snoc h,List.foldl_append];rfl
def limF (f : Ft) : Bool := decide (1 ≤ f.comps.length) && decide (f.comps.length ≤ 8) && decide (f.flags.length ≤ 8) && decide (f.links.length ≤ 64)
def smlC (c : Cp) : Bool := decide (c.vars.length ≤ 8) && decide (1 ≤ c.vers.length) && decide (c.vers.length ≤ 3) && decide ((namesOf c).length ≤ 8)
def smlF (f : Ft) : Bool := limF f && (f.comps.all smlC && evH smaH f)
def checkF (f : Ft) : Nat := if smlF f = false then 3 else if namF f = false then 9 else if frmF f = false then 6 else 0
def opT (least : Nat) (x : Nat × Str) : Str := if x.1 < least then [40] ++ x.2 ++ [41] else x.2
def lftT (lv : Nat) : Nat := if lv = 3 then lv + 1 else lv
def txt (op : UInt8) (nm : Str) (n : Int64) (ls : List (Nat × Str)) : Str :=
 if op = 1 then Lib.itoa n.toInt
 else if op = 5 ∨ op = 8 then (shapeOf op).tx ++ nm
 else if op = 6 ∨ op = 7 then (shapeOf op).tx ++ nm ++ [91] ++ (ls.getD 0 (0,[])).2 ++ [93]
 else if op = 9 ∨ op = 10 then (shapeOf op).tx ++ opT (shapeOf op).lv (ls.getD 0 (0,[]))
 else if (shapeOf op).n = 0 then (shapeOf op).tx
 else opT (lftT (shapeOf op).lv) (ls.getD 0 (0,[])) ++ (shapeOf op).tx ++ opT ((shapeOf op).lv + 1) (ls.getD 1 (0,[]))
mutual
def Ex.text : Ex → Str
 | .mk op nm n args => txt op nm n (Ex.texts args)
def Ex.texts : List Ex → List (Nat × Str)
 | [] => []
 | e :: r => ((shapeOf e.op).lv,Ex.text e) :: Ex.texts r
end
theorem texts_map : ∀ l : List Ex,Ex.texts l = l.map fun e => ((shapeOf e.op).lv,Ex.text e)
 | [] => rfl
 | e :: r => by rw [Ex.texts,texts_map r];rfl
theorem text_mk (op : UInt8) (nm : Str) (n : Int64) (args : List Ex) : Ex.text (.mk op nm n args) = txt op nm n (args.map fun e => ((shapeOf e.op).lv,Ex.text e)) := by rw [Ex.text,texts_map]
theorem map_getD {α β : Type} {f : α → β} {l : List α} {k : Nat} (h : k < l.length) (d : β) : (l.map f).getD k d = f l[k] := by simp [h]
theorem shape_ok {op : UInt8} (h : okOp op = true) : shapeOf op = shapes.getD op.toNat ⟨0,false,0,[]⟩ := by rw [shapeOf,h];rfl
theorem shape_n {op : UInt8} (h : okOp op = true) (h6 : op ≠ 6) (h7 : op ≠ 7) (h9 : op ≠ 9) (h10 : op ≠ 10) : (shapeOf op).n = 0 ∨ (shapeOf op).n = 2 := by
 rw [shape_ok h]
 simp only [okOp,Bool.and_eq_true,decide_eq_true_eq] at h
 have e : ∀ v : UInt8,op ≠ v → op.toNat ≠ v.toNat := fun v hv e => hv (UInt8.toNat_inj.1 e)
 have key : ∀ i ∈ List.range 24,i = 6 ∨ i = 7 ∨ i = 9 ∨ i = 10 ∨ (shapes.getD i ⟨0,false,0,[]⟩).n = 0 ∨ (shapes.getD i ⟨0,false,0,[]⟩).n = 2 := by decide
 have h1 : op.toNat ≠ 6 := e 6 h6
 have h2 : op.toNat ≠ 7 := e 7 h7
 have h3 : op.toNat ≠ 9 := e 9 h9
 have h4 : op.toNat ≠ 10 := e 10 h10
 have := key op.toNat (List.mem_range.2 (by omega))
 omega
theorem shape_lv (op : UInt8) : (shapeOf op).lv ≤ 7 := by
 unfold shapeOf
 split
 ·rename_i h
  simp only [okOp,Bool.and_eq_true,decide_eq_true_eq] at h
  have key : ∀ i ∈ List.range 24,(shapes.getD i ⟨0,false,0,[]⟩).lv ≤ 7 := by decide
  exact key _ (List.mem_range.2 (by omega))
 ·simp
theorem shape_tx (op : UInt8) : (shapeOf op).tx.length ≤ 10 := by
 unfold shapeOf
 split
 ·rename_i h
  simp only [okOp,Bool.and_eq_true,decide_eq_true_eq] at h
  have key : ∀ i ∈ List.range 24,(shapes.getD i ⟨0,false,0,[]⟩).tx.length ≤ 10 := by decide
  exact key _ (List.mem_range.2 (by omega))
 ·simp
theorem opT_len (k : Nat) (x : Nat × Str) : x.2.length ≤ (opT k x).length ∧ (opT k x).length ≤ x.2.length + 2 := by unfold opT;split <;> simp <;> omega
def spT : Nat → Str
 | 0 => []
 | k + 1 => spT k ++ [32,32]
def lineT (ind : Nat) (parts : List Str) : Str := spT ind ++ parts.flatten ++ [10]
theorem spT_len (k : Nat) : (spT k).length = 2 * k := by
 induction k with
 | zero => rfl
 | succ k ih => simp [spT,ih];omega
theorem flat_succ {l : List Str} {k : Nat} (h : k < l.length) : (l.take (k + 1)).flatten = (l.take k).flatten ++ l[k] := by
 rw [take_snoc h,List.flatten_append];simp
theorem flat_take_len (l : List Str) (k : Nat) : (l.take k).flatten.length ≤ l.flatten.length := by
 have := congrArg (fun m : List Str => m.flatten.length) (List.take_append_drop k l)
 simp only [List.flatten_append,List.length_append] at this
 omega
def joinT (l : List Str) : Str := Lib.join l [44,32]
def diskT (n : Nat) (first : Str) (noE : Bool) (E : Str) : Str := if noE then lineT n [first,[59]] else lineT n [first,[32,101,108,115,101,32,123]] ++ E ++ lineT n [[125]]
def stT (n : Nat) (kd : UInt8) (nm hd : Str) (es : List Str) (T : Str) (noE : Bool) (E : Str) : Str :=
 if kd = 1 then lineT n [nm,[32,61,32],es.getD 0 [],[59]]
 else if kd = 2 then lineT n [nm,[91],es.getD 0 [],[93,32,61,32],es.getD 1 [],[59]]
 else if kd = 3 then lineT n [[100,101,108,101,116,101,32],nm,[91],es.getD 0 [],[93,59]]
 else if kd = 4 then lineT n [[105,102,32],es.getD 0 [],[32,123]] ++ T ++ (if noE then [] else lineT n [[125,32,101,108,115,101,32,123]] ++ E) ++ lineT n [[125]]
 else if kd = 5 then lineT n [[119,104,105,108,101,32],es.getD 0 [],[32,123]] ++ T ++ lineT n [[125]]
 else if kd = 6 then lineT n [[115,101,110,100,32],nm,[46],hd,[40],joinT es,[41,59]]
 else if kd = 7 then lineT n [[97,102,116,101,114,32],es.getD 0 [],[32,100,111,32],hd,[40],joinT (es.drop 1),[41,59]]
 else if kd = 8 then diskT n ([115,116,111,114,101,32] ++ es.getD 0 [] ++ [32,61,32] ++ es.getD 1 []) noE E
 else if kd = 9 then diskT n ([102,101,116,99,104,32] ++ nm ++ [32,61,32] ++ es.getD 0 []) noE E
 else if kd = 10 then lineT n [[115,116,111,112,59]]
 else []
mutual
def Sm.text (n : Nat) : Sm → Str
 | .mk kd nm hd ex th el => stT n kd nm hd (ex.map Ex.text) (Sm.texts (n + 1) th) (decide (el.length = 0)) (Sm.texts (n + 1) el)
def Sm.texts (n : Nat) : List Sm → Str
 | [] => []
 | s :: r => Sm.text n s ++ Sm.texts n r
end
theorem stext_mk (n : Nat) (kd : UInt8) (nm hd : Str) (ex : List Ex) (th el : List Sm) : Sm.text n (.mk kd nm hd ex th el) = stT n kd nm hd (ex.map Ex.text) (Sm.texts (n + 1) th) (decide (el.length = 0)) (Sm.texts (n + 1) el) := by rw [Sm.text]
theorem stexts_app (n : Nat) (a b : List Sm) : Sm.texts n (a ++ b) = Sm.texts n a ++ Sm.texts n b := by
 induction a with
 | nil => simp [Sm.texts]
 | cons e r ih => simp only [List.cons_append,Sm.texts,ih,List.append_assoc]
theorem stexts_succ {n : Nat} {l : List Sm} {k : Nat} (h : k < l.length) : Sm.texts n (l.take (k + 1)) = Sm.texts n (l.take k) ++ Sm.text n l[k] := by
 rw [take_snoc h,stexts_app];simp [Sm.texts]
theorem stexts_take (n : Nat) (l : List Sm) (k : Nat) : (Sm.texts n (l.take k)).length ≤ (Sm.texts n l).length := by
 have := stexts_app n (l.take k) (l.drop k)
 rw [List.take_append_drop] at this
 rw [this,List.length_append];omega
def hdT (n : Nat) (h : Hd) : Str := lineT n [[111,110,32],h.nm,[40],joinT h.ps,[41,32,123]] ++ Sm.texts (n + 1) h.body ++ lineT n [[125]]
def hdsT (n : Nat) (l : List Hd) : Str := (l.map (hdT n)).flatten
def boolT (b : Bool) : Str := if b then [116,114,117,101] else [102,97,108,115,101]
def vrT (n : Nat) (v : Vr) : Str := if v.ty = 1 then lineT n [[118,97,114,32],v.nm,[58,32,105,110,116,32,61,32],Lib.itoa v.init.toInt,[59]] else if v.ty = 2 then lineT n [[118,97,114,32],v.nm,[58,32,98,111,111,108,32,61,32],boolT (decide (v.init.toInt = 1)),[59]] else if v.ty = 3 then lineT n [[118,97,114,32],v.nm,[58,32,116,97,98,108,101,59]] else []
def vsT (n : Nat) (i : Nat) (v : List Hd) : Str := if i = 0 then hdsT n v else lineT n [[118,101,114,115,105,111,110,32],Lib.itoa ((i + 1 : Nat) : Int),[32,123]] ++ hdsT (n + 1) v ++ lineT n [[125]]
def vssT (n : Nat) : Nat → List (List Hd) → Str
 | _,[] => []
 | i,v :: r => vsT n i v ++ vssT n (i + 1) r
def cpT (c : Cp) : Str := lineT 1 [[99,111,109,112,111,110,101,110,116,32],c.nm,[32,123]] ++ (c.vars.map (vrT 2)).flatten ++ vssT 2 0 c.vers ++ lineT 1 [[125]]
def fgT (f : Fg) : Str := lineT 1 [[102,108,97,103,32],f.nm,[32,61,32],boolT f.init,[59]]
def lkT (l : Lk) : Str := lineT 1 [[108,105,110,107,32],l.fr,[32,45,62,32],l.to,[32,108,97,116,101,110,99,121,32],Lib.itoa l.lat.toInt,[59]]
def ftT (f : Ft) : Str := lineT 0 [[102,108,101,101,116,32],f.nm,[32,123]] ++ (f.flags.map fgT).flatten ++ (f.links.map lkT).flatten ++ (f.comps.map cpT).flatten ++ lineT 0 [[125]]
theorem mflat_succ {α : Type} {g : α → Str} {l : List α} {k : Nat} (h : k < l.length) : ((l.take (k + 1)).map g).flatten = ((l.take k).map g).flatten ++ g l[k] := by
 rw [take_snoc h,List.map_append,List.flatten_append,List.map_cons,List.map_nil,List.flatten_cons,List.flatten_nil,List.append_nil]
theorem mflat_take {α : Type} {g : α → Str} (l : List α) (k : Nat) : ((l.take k).map g).flatten.length ≤ (l.map g).flatten.length := by
 have := flat_take_len (l.map g) k
 rwa [← List.map_take] at this
theorem vssT_app (n : Nat) : ∀ (a : List (List Hd)) (i : Nat) (b : List (List Hd)),vssT n i (a ++ b) = vssT n i a ++ vssT n (i + a.length) b
 | [],i,b => by simp [vssT]
 | v :: r,i,b => by
  simp only [List.cons_append,vssT,vssT_app n r (i + 1) b,List.append_assoc,List.length_cons]
  rw [show i + 1 + r.length = i + (r.length + 1) by omega]
theorem vssT_succ {n : Nat} {l : List (List Hd)} {k : Nat} (h : k < l.length) : vssT n 0 (l.take (k + 1)) = vssT n 0 (l.take k) ++ vsT n k l[k] := by
 rw [take_snoc h,vssT_app,List.length_take,Nat.min_eq_left (by omega)];simp [vssT]
theorem vssT_take (n : Nat) (l : List (List Hd)) (k : Nat) : (vssT n 0 (l.take k)).length ≤ (vssT n 0 l).length := by
 have := vssT_app n (l.take k) 0 (l.drop k)
 rw [List.take_append_drop] at this
 rw [this,List.length_append];omega
theorem itoa_len (n : Int64) : (Lib.itoa n.toInt).length ≤ 21 := Lib.itoa_length_le n.toInt (by have := n.le_toInt;omega) (by have := n.toInt_lt;omega)
theorem name_len {l : Str} (h : nameB l = true) : l.length ≤ 12 := by
 simp only [nameB,Bool.and_eq_true,decide_eq_true_eq,beq_iff_eq] at h
 obtain ⟨⟨_,h1⟩,h2⟩ := h
 unfold readK at h1 h2
 dsimp only at h1 h2
 split at h1
 ·split at h1
  ·simp at h1
  ·split at h1
   ·rename_i a b c
    simp only [a,b,c,if_true,Bool.false_eq_true,if_false] at h2
    omega
   ·simp at h1
 ·split at h1
  ·split at h1 <;> simp at h1
  ·split at h1 <;> simp at h1
theorem txt_len (op : UInt8) (nm : Str) (n : Int64) (ls : List (Nat × Str)) (A : Nat) (hA : 24 ≤ A) (hn : nm.length ≤ 12) (h : ∀ x ∈ ls,x.2.length ≤ A) : (txt op nm n ls).length ≤ 3 * A := by
 have hg : ∀ i,(ls.getD i (0,[])).2.length ≤ A := fun i => by
  rw [List.getD_eq_getElem?_getD]
  cases e : ls[i]? with
  | none => simp
  | some x => simpa using h x (List.mem_of_getElem? e)
 have h0 := hg 0
 have h1 := hg 1
 have ht := shape_tx op
 have hi := itoa_len n
 have o1 := opT_len (shapeOf op).lv (ls.getD 0 (0,[]))
 have o2 := opT_len (lftT (shapeOf op).lv) (ls.getD 0 (0,[]))
 have o3 := opT_len ((shapeOf op).lv + 1) (ls.getD 1 (0,[]))
 unfold txt
 split
 ·omega
 split
 ·simp only [List.length_append];omega
 split
 ·simp only [List.length_append,List.length_cons,List.length_nil];omega
 split
 ·simp only [List.length_append];omega
 split
 ·omega
 ·simp only [List.length_append];omega
theorem alls_mem {q : Ex → Bool} : ∀ {l : List Ex} {a : Ex},a ∈ l → Ex.alls q l = true → Ex.all q a = true
 | [],a,h,_ => by cases h
 | b :: r,a,h,k => by
  rw [Ex.alls,Bool.and_eq_true] at k
  rcases List.mem_cons.1 h with rfl | h
  ·exact k.1
  ·exact alls_mem h k.2
theorem nm_len {op : UInt8} {nm : Str} {n : Int64} {args : List Ex} (h1 : namE (.mk op nm n args) = true) (h2 : frmE (.mk op nm n args) = true) : nm.length ≤ 12 := by
 simp only [namE,Bool.or_eq_true,Bool.not_eq_true'] at h1
 simp only [frmE,Bool.and_eq_true,Bool.or_eq_true,decide_eq_true_eq] at h2
 rcases h1 with h1 | h1
 ·rcases h2.1.2 with h2 | h2
  ·rw [h1] at h2;cases h2
  ·simp [h2]
 ·exact name_len h1
theorem text_len (e : Ex) : ∀ d,e.depth ≤ d → Ex.all namE e = true → Ex.all frmE e = true → e.text.length ≤ 24 * 3 ^ d := by
 induction e using Ex.ind with | _ op nm n args ih
 intro d hd h1 h2
 rw [depth_mk] at hd
 rw [all_mk,Bool.and_eq_true] at h1 h2
 obtain ⟨d,rfl⟩ : ∃ k,d = k + 1 := ⟨d - 1,by omega⟩
 rw [text_mk,Nat.pow_succ,show 24 * (3 ^ d * 3) = 3 * (24 * 3 ^ d) by omega]
 have hp : 0 < 3 ^ d := Nat.pow_pos (by omega)
 refine txt_len _ _ _ _ _ (by omega) (nm_len h1.1 h2.1) fun x hx => ?_
 obtain ⟨a,ha,rfl⟩ := List.mem_map.1 hx
 have := deeps_mem ha
 exact ih a ha d (by omega) (alls_mem ha h1.2) (alls_mem ha h2.2)
theorem text_len8 {e : Ex} (h : e.depth ≤ 8) (h1 : Ex.all namE e = true) (h2 : Ex.all frmE e = true) : e.text.length ≤ 157464 := text_len e 8 h h1 h2
def tokS : Sm → Bool
 | .mk kd nm hd ex th el => frmS (.mk kd nm hd ex th el) && ex.all fun x => decide (x.text.length ≤ 1000000000)
structure Nd where
 op : UInt8
 nm : UInt8
 ct : UInt8
 odd : Bool
 n : Int64
def dNd (x : Nd) : D := .str [.val (.int .u8 x.op.toNat),.val (.int .u8 x.nm.toNat),.val (.int .u8 x.ct.toNat),.val (.bool x.odd),.val (.int .i64 x.n.toInt)]
def cNd (x : Nd) : List Value := [.int .u8 x.op.toNat,.int .u8 x.nm.toNat,.int .u8 x.ct.toNat,.bool x.odd,.int .i64 x.n.toInt]
theorem nd_open {H : Hp} {x : Nd} {cs : List Value} (h : Rep H (dNd x) cs) : cs = cNd x := by
 rw [dNd,repS] at h
 obtain ⟨_,rfl,_,_,h⟩ := repL_val.1 h
 obtain ⟨_,rfl,_,_,h⟩ := repL_val.1 h
 obtain ⟨_,rfl,_,_,h⟩ := repL_val.1 h
 obtain ⟨_,rfl,_,_,h⟩ := repL_val.1 h
 obtain ⟨_,rfl,_,_,h⟩ := repL_val.1 h
 rw [repL_nil] at h
 subst h
 rfl
theorem rep_drop {H : Hp} {z b off n c lo : Nat} {ds : List D} (h : Rep H (.seq z ds) [.slice (some ⟨b,off,none⟩) n c]) (hl : lo ≤ n) : Rep H (.seq z (ds.drop lo)) [.slice (some (if c = lo then ⟨b,off,none⟩ else ⟨b,off + lo * z,none⟩)) (n - lo) (c - lo)] := by
 have hn := h.len
 by_cases hc : c = lo
 ·rw [if_pos hc]
  rw [show ds.drop lo = [] from List.drop_of_length_le (by omega),show n - lo = 0 by omega]
  exact .empty (by omega)
 ·rw [if_neg hc]
  unfold Rep at h
  obtain ⟨p',c',h1,h2,h3,h4⟩ := h
  injection h1 with h1 _
  injection h1 with h5 h6 h7
  subst h5 h7
  rcases h4 with h4 | ⟨b',off',cs,h8,h9,h10⟩
  ·subst h4
   rw [List.drop_nil,show n - lo = 0 by simp only [List.length_nil] at h6;omega]
   exact .empty (by omega)
  ·cases h8
   exact .mk (h9.drop (lo * z)) (h10.drop lo) (by rw [List.length_drop];omega) (by omega) (by omega)
def wordsR : List Str := [[97],[98],[120,48],[116,48],[102,95,49],[97,98,99,100,101,102,103,104,105,106,107,108],[110,111,119],[],[97,98,99,100,101,102,103,104,105,106,107,108,109],[95,120],[120,45,121]]
def wordR (n : UInt8) : Str := wordsR.getD (n.toNat % 11) []
theorem word_len (n : UInt8) : (wordR n).length ≤ 13 := by
 have key : ∀ i ∈ List.range 11,(wordsR.getD i []).length ≤ 13 := by decide
 exact key _ (List.mem_range.2 (Nat.mod_lt _ (by omega)))
def arR (k : Nat) : Int := if k < 1 ∨ 23 < k then -1 else if k ≤ 5 ∨ k = 8 then 0 else if k = 6 ∨ k = 7 ∨ k = 9 ∨ k = 10 then 1 else 2
theorem arR_ok (op : UInt8) : arR op.toNat = if okOp op then ((shapeOf op).n : Int) else -1 := by
 have key : ∀ i ∈ List.range 256,arR i = if okOp (UInt8.ofNat i) then ((shapeOf (UInt8.ofNat i)).n : Int) else -1 := by decide +kernel
 have h := key op.toNat (List.mem_range.2 op.toNat_lt)
 rwa [UInt8.ofNat_toNat] at h
theorem arR_bnd (k : Nat) : -1 ≤ arR k ∧ arR k ≤ 2 := by unfold arR;split <;> (try split) <;> (try split) <;> omega
def narrow (e : Ex) : Bool := decide (e.args.length ≤ 3)
theorem narrow_mk (op : UInt8) (nm : Str) (n : Int64) (args : List Ex) : narrow (.mk op nm n args) = decide (args.length ≤ 3) := rfl
def blkB (c : UInt8) : Bool := decide (c = 32) || decide (c = 9) || decide (c = 10) || decide (c = 13)
def skipS : Bool → Str → Str
 | _,[] => []
 | true,c :: r => if c = 10 then skipS false r else skipS true r
 | false,c :: r => if blkB c then skipS false r else if c = 47 ∧ r.head? = some 47 then skipS true r else c :: r
theorem skipS_nil (b : Bool) : skipS b [] = [] := by cases b <;> rfl
theorem skipS_com {c : UInt8} {r : Str} (h : ¬ c = 10) : skipS true (c :: r) = skipS true r := by rw [skipS,if_neg h]
theorem skipS_end (r : Str) : skipS true (10 :: r) = skipS false (10 :: r) := by rw [skipS,if_pos rfl,skipS,if_pos (by decide)]
theorem skipS_blk {c : UInt8} {r : Str} (h : blkB c = true) : skipS false (c :: r) = skipS false r := by rw [skipS,if_pos h]
theorem skipS_two (r : Str) : skipS false (47 :: 47 :: r) = skipS true (47 :: 47 :: r) := by simp [skipS,blkB]
theorem skipS_stop {c : UInt8} {r : Str} (h : blkB c = false) (h2 : ¬ (c = 47 ∧ r.head? = some 47)) : skipS false (c :: r) = c :: r := by rw [skipS,if_neg (by simp [h]),if_neg h2]
theorem skipS_suf : ∀ (l : Str) (b : Bool),∃ p,l = p ++ skipS b l
 | [],b => ⟨[],by rw [skipS_nil];rfl⟩
 | c :: r,true => by
  rw [skipS]
  split
  ·obtain ⟨p,h⟩ := skipS_suf r false;exact ⟨c :: p,by rw [List.cons_append,← h]⟩
  ·obtain ⟨p,h⟩ := skipS_suf r true;exact ⟨c :: p,by rw [List.cons_append,← h]⟩
 | c :: r,false => by
  rw [skipS]
  split
  ·obtain ⟨p,h⟩ := skipS_suf r false;exact ⟨c :: p,by rw [List.cons_append,← h]⟩
  ·split
   ·obtain ⟨p,h⟩ := skipS_suf r true;exact ⟨c :: p,by rw [List.cons_append,← h]⟩
   ·exact ⟨[],rfl⟩
theorem skipS_len (b : Bool) (l : Str) : (skipS b l).length ≤ l.length := by
 obtain ⟨p,h⟩ := skipS_suf l b
 have := congrArg List.length h
 rw [List.length_append] at this;omega
theorem skipS_drop (b : Bool) (l : Str) : l.drop (l.length - (skipS b l).length) = skipS b l := by
 obtain ⟨p,h⟩ := skipS_suf l b
 generalize skipS b l = q at h
 subst h
 rw [show (p ++ q).length - q.length = p.length by rw [List.length_append];omega,List.drop_left]
theorem readK_bnd {l : Str} (h : l ≠ []) : 1 ≤ (readK l).2 ∧ (readK l).2 ≤ l.length := by
 match l,h with
 | c :: r,_ =>
  have hp : ∀ q : UInt8 → Bool,q c = true → 1 ≤ pre q (c :: r) := fun q hq => by unfold pre;rw [List.takeWhile_cons,hq];simp
  cases h1 : letB c with
  | true =>
   have h2 := hp insB (by simp [insB,h1])
   have h3 := pre_le insB (c :: r)
   cases h4 : words.contains ((c :: r).take (pre insB (c :: r))) with
   | true => simp only [readK,List.headD_cons,h1,h4,if_true];exact ⟨h2,h3⟩
   | false =>
    by_cases h5 : pre insB (c :: r) ≤ 12
    ·simp only [readK,List.headD_cons,h1,h4,h5,if_true,Bool.false_eq_true,if_false];exact ⟨h2,h3⟩
    ·simp only [readK,List.headD_cons,h1,h4,h5,if_true,Bool.false_eq_true,if_false];simp
  | false =>
   cases h4 : digB c with
   | true =>
    have h2 := hp digB h4
    have h3 := pre_le digB (c :: r)
    by_cases h5 : pre digB (c :: r) = 1 ∨ c ≠ 48
    ·simp only [readK,List.headD_cons,h1,h4,h5,if_true,Bool.false_eq_true,if_false];exact ⟨h2,h3⟩
    ·simp only [readK,List.headD_cons,h1,h4,h5,if_true,Bool.false_eq_true,if_false];simp
   | false =>
    cases hx : symbols.find? (fun x => x.isPrefixOf (c :: r)) with
    | none => simp only [readK,List.headD_cons,h1,h4,hx,Bool.false_eq_true,if_false];simp
    | some x =>
     have hm := List.mem_of_find?_eq_some hx
     have hpx := List.find?_some hx
     have hl : x.length ≤ (c :: r).length := by
      obtain ⟨t,ht⟩ := List.isPrefixOf_iff_prefix.1 hpx
      rw [← ht];simp
     have key : ∀ y ∈ symbols,1 ≤ y.length := by decide
     simp only [readK,List.headD_cons,h1,h4,hx,Bool.false_eq_true,if_false]
     exact ⟨key x hm,hl⟩
theorem readK_one {c : UInt8} {r : Str} (h : (readK (c :: r)).1 = 1) : letB c = true := by
 cases h1 : letB c with
 | true => rfl
 | false =>
  cases h4 : digB c with
  | true =>
   by_cases h5 : pre digB (c :: r) = 1 ∨ c ≠ 48
   ·simp only [readK,List.headD_cons,h1,h4,h5,if_true,Bool.false_eq_true,if_false] at h;simp at h
   ·simp only [readK,List.headD_cons,h1,h4,h5,if_true,Bool.false_eq_true,if_false] at h;simp at h
  | false =>
   cases hx : symbols.find? (fun x => x.isPrefixOf (c :: r)) <;> simp only [readK,List.headD_cons,h1,h4,hx,Bool.false_eq_true,if_false] at h <;> simp at h
structure Tk where
 k : UInt8
 t : Str
 o : Nat
def dTk (k : IntKind) (x : Tk) : D := .str [.val (.int k x.k.toNat),.val (strV x.t),.val (.int .i64 (x.o : Nat))]
def cTk (k : IntKind) (x : Tk) : List Value := [.int k x.k.toNat,strV x.t,.int .i64 (x.o : Nat)]
theorem tk_open {H : Hp} {k : IntKind} {x : Tk} {cs : List Value} (h : Rep H (dTk k x) cs) : cs = cTk k x ∧ x.t.length ≤ 1000000 := by
 rw [dTk,repS] at h
 obtain ⟨_,rfl,_,_,h⟩ := repL_val.1 h
 obtain ⟨_,rfl,_,k0,h⟩ := repL_val.1 h
 obtain ⟨_,rfl,_,_,h⟩ := repL_val.1 h
 rw [repL_nil] at h
 subst h
 exact ⟨rfl,okS.1 k0⟩
theorem tk_shut {H : Hp} {k : IntKind} {x : Tk} (h : x.t.length ≤ 1000000) : Rep H (dTk k x) (cTk k x) := by
 rw [dTk,repS]
 exact repL_val.2 ⟨_,rfl,rfl,trivial,repL_val.2 ⟨_,rfl,rfl,okS.2 h,repL_val.2 ⟨_,rfl,rfl,trivial,repL_nil.2 rfl⟩⟩⟩
def tokF : Nat → Nat → Str → List Tk
 | 0,_,_ => []
 | f + 1,o,m => if m = [] then [] else ⟨(readK m).1,m.take (readK m).2,o⟩ :: tokF f (o + (m.length - (skipS false (m.drop (readK m).2)).length)) (skipS false (m.drop (readK m).2))
def lexR (s : Str) : List Tk := tokF (s.length + 1) (s.length - (skipS false s).length) (skipS false s)
theorem tokF_step {f o : Nat} {m : Str} (h : m ≠ []) : tokF (f + 1) o m = ⟨(readK m).1,m.take (readK m).2,o⟩ :: tokF f (o + (m.length - (skipS false (m.drop (readK m).2)).length)) (skipS false (m.drop (readK m).2)) := by rw [tokF,if_neg h]
theorem tokF_nil (f o : Nat) : tokF f o [] = [] := by cases f <;> simp [tokF]
theorem tokF_more : ∀ (f g o : Nat) (m : Str),m.length < f → m.length < g → tokF f o m = tokF g o m
 | 0,_,_,_,h,_ => by omega
 | _,0,_,_,_,h => by omega
 | f + 1,g + 1,o,m,h,k => by
  by_cases h0 : m = []
  ·subst h0;rw [tokF_nil,tokF_nil]
  ·rw [tokF_step h0,tokF_step h0]
   have hr := readK_bnd h0
   have hs := skipS_len false (m.drop (readK m).2)
   rw [List.length_drop] at hs
   rw [tokF_more f g _ _ (by omega) (by omega)]
theorem lex_name (s : Str) : nameB s = true ↔ ∃ o,lexR s = [⟨1,s,o⟩] := by
 constructor
 ·intro h
  simp only [nameB,Bool.and_eq_true,decide_eq_true_eq,beq_iff_eq] at h
  obtain ⟨⟨h0,h1⟩,h2⟩ := h
  match s,h0 with
  | c :: r,h0 =>
   have hl : letB c = true := readK_one h1
   have hs : skipS false (c :: r) = c :: r := skipS_stop (by
    have key : ∀ i ∈ List.range 256,letB (UInt8.ofNat i) = true → blkB (UInt8.ofNat i) = false := by decide +kernel
    have := key c.toNat (List.mem_range.2 c.toNat_lt)
    rw [UInt8.ofNat_toNat] at this
    exact this hl) (by rintro ⟨rfl,_⟩;revert hl;decide)
   refine ⟨0,?_⟩
   rw [lexR,hs,tokF_step h0,h2,List.take_length,List.drop_length,skipS_nil,tokF_nil,Nat.sub_self,h1]
 ·rintro ⟨o,h⟩
  rw [lexR] at h
  by_cases h0 : skipS false s = []
  ·rw [h0,tokF_nil] at h;cases h
  ·rw [tokF_step h0] at h
   injection h with h _
   injection h with h1 h2 h3
   have hl := skipS_len false s
   have hr := readK_bnd h0
   have h4 := congrArg List.length h2
   rw [List.length_take] at h4
   have h5 : skipS false s = s := by
    have := skipS_drop false s
    rw [show s.length - (skipS false s).length = 0 by omega,List.drop_zero] at this
    exact this.symm
   rw [h5] at h0 h1 h4 hr
   simp only [nameB,Bool.and_eq_true,decide_eq_true_eq,beq_iff_eq]
   exact ⟨⟨h0,h1⟩,by omega⟩
abbrev Bs := List UInt8
def dU8 (c : UInt8) : D := .val (.int .u8 c.toNat)
def dNat (n : Nat) : D := .val (.int .i64 (n : Nat))
def dAr (l : List Nat) : D := .seq 1 (l.map dNat)
structure Mk where
 ints : Nat
 tables : Nat
 flags : Nat
 own : Nat
 ars : List (List Nat)
 params : Nat
def nextB (b : Bs) (n : Nat) : Nat × Bs := match b with | [] => (0,[]) | c :: r => (c.toNat % n,r)
theorem nextB_lt (b : Bs) {n : Nat} (h : 0 < n) : (nextB b n).1 < n := by
 cases b with
 | nil => exact h
 | cons c r => exact Nat.mod_lt _ h
def nmB (c : UInt8) (k : Nat) : Str := [c,UInt8.ofNat (48 + k)]
def namesB (c : UInt8) (n : Nat) : List Str := (List.range n).map (nmB c)
theorem namesB_succ (c : UInt8) (n : Nat) : namesB c (n + 1) = namesB c n ++ [nmB c n] := by simp [namesB,List.range_succ]
theorem namesB_len (c : UInt8) (n : Nat) : (namesB c n).length = n := by simp [namesB]
theorem namesB_at {c : UInt8} {n k : Nat} (h : k < n) : (namesB c n)[k]? = some (nmB c k) := by simp [namesB,h]
def numT (M : Mk) (d : Nat) (rec : Bs → Ex × Bs) (k : Nat) (b : Bs) : Ex × Bs :=
 if k < 2 ∨ (2 < d ∧ 5 < k) then (.mk 1 [] (Int64.ofNat (nextB b 9).1) [],(nextB b 9).2)
 else if k < 4 ∨ (k = 4 ∧ M.params = 0) then (.mk 5 (nmB 120 (nextB b M.ints).1) 0 [],(nextB b M.ints).2)
 else if k = 4 then (.mk 5 (nmB 112 (nextB b M.params).1) 0 [],(nextB b M.params).2)
 else if k = 5 then (.mk 4 [] 0 [],b)
 else if k = 6 ∧ 0 < M.tables then (.mk 6 [116,48] 0 [(rec b).1],(rec b).2)
 else if k = 7 ∧ 0 < M.tables then (.mk 8 [116,48] 0 [],b)
 else if k = 8 then (.mk 9 [] 0 [(rec b).1],(rec b).2)
 else (.mk (([14,15,11,12,13,14] : List UInt8).getD (nextB b 6).1 14) [] 0 [(rec (nextB b 6).2).1,(rec (rec (nextB b 6).2).2).1],(rec (rec (nextB b 6).2).2).2)
def numS (M : Mk) (d : Nat) (rec : Bs → Ex × Bs) (b0 : Bs) : Ex × Bs := numT M d rec (nextB b0 12).1 (nextB b0 12).2
def numE (M : Mk) : Nat → Bs → Ex × Bs
 | 0 => numS M 3 fun b => (.mk 1 [] 0 [],b)
 | f + 1 => numS M (2 - f) (numE M f)
def numL (M : Mk) : Nat → Bs → List Ex × Bs
 | 0,b => ([],b)
 | n + 1,b => ((numE M 2 b).1 :: (numL M n (numE M 2 b).2).1,(numL M n (numE M 2 b).2).2)
def truT (M : Mk) (d : Nat) (rec : Bs → Ex × Bs) (k : Nat) (b : Bs) : Ex × Bs :=
 if k = 0 then (.mk (2 + UInt8.ofNat (nextB b 2).1) [] 0 [],(nextB b 2).2)
 else if k = 1 ∨ (1 < d ∧ 4 < k) then (.mk 5 [98,48] 0 [],b)
 else if k = 2 ∧ 0 < M.flags then (.mk 5 (nmB 102 (nextB b M.flags).1) 0 [],(nextB b M.flags).2)
 else if k = 3 ∧ 0 < M.tables then (.mk 7 [116,48] 0 [(numE M 2 b).1],(numE M 2 b).2)
 else if k = 5 then (.mk 10 [] 0 [(rec b).1],(rec b).2)
 else if k = 6 ∨ k = 7 then (.mk (16 + UInt8.ofNat k) [] 0 [(rec b).1,(rec (rec b).2).1],(rec (rec b).2).2)
 else (.mk (16 + UInt8.ofNat (nextB b 6).1) [] 0 [(numE M 2 (nextB b 6).2).1,(numE M 2 (numE M 2 (nextB b 6).2).2).1],(numE M 2 (numE M 2 (nextB b 6).2).2).2)
def truS (M : Mk) (d : Nat) (rec : Bs → Ex × Bs) (b0 : Bs) : Ex × Bs := truT M d rec (nextB b0 10).1 (nextB b0 10).2
def truE (M : Mk) : Nat → Bs → Ex × Bs
 | 0 => truS M 2 fun b => (.mk 1 [] 0 [],b)
 | f + 1 => truS M (1 - f) (truE M f)
def arN (M : Mk) (c h : Nat) : Nat := (M.ars.getD c []).getD h 0
def arL (M : Mk) (c : Nat) : Nat := (M.ars.getD c []).length
def senT (M : Mk) (lf c h : Nat) (b : Bs) : Sm × (Bs × Nat) := (.mk 6 [UInt8.ofNat (97 + c)] (nmB 104 h) (numL M (arN M c h) b).1 [] [],((numL M (arN M c h) b).2,lf))
def aftT (M : Mk) (lf h : Nat) (e : Ex × Bs) : Sm × (Bs × Nat) := (.mk 7 [] (nmB 104 h) (e.1 :: (numL M (arN M M.own h) e.2).1) [] [],((numL M (arN M M.own h) e.2).2,lf))
def fetT (bd : Bs × Nat → List Sm × (Bs × Nat)) (lf x : Nat) (e : Ex × Bs) : Sm × (Bs × Nat) := (.mk 9 (nmB 120 x) [] [e.1] [] (bd (e.2,lf)).1,(bd (e.2,lf)).2)
def asgT (M : Mk) (lf : Nat) (b : Bs) : Sm × (Bs × Nat) := (.mk 1 (nmB 120 (nextB b M.ints).1) [] [(numE M 3 (nextB b M.ints).2).1] [] [],((numE M 3 (nextB b M.ints).2).2,lf))
def stmT (M : Mk) (k d : Nat) (bd : Bs × Nat → List Sm × (Bs × Nat)) (b : Bs) (lf : Nat) : Sm × (Bs × Nat) :=
 if k = 2 then (.mk 1 [98,48] [] [(truE M 2 b).1] [] [],((truE M 2 b).2,lf))
 else if k = 3 ∧ 0 < M.tables then (.mk 2 [116,48] [] [(numE M 3 b).1,(numE M 3 (numE M 3 b).2).1] [] [],((numE M 3 (numE M 3 b).2).2,lf))
 else if k = 4 ∧ 0 < M.tables then (.mk 3 [116,48] [] [(numE M 3 b).1] [] [],((numE M 3 b).2,lf))
 else if (k = 5 ∨ k = 6) ∧ d < 3 then
  (.mk 4 [] [] [(truE M 2 b).1] (bd ((truE M 2 b).2,lf)).1 (bd (bd ((truE M 2 b).2,lf)).2).1,(bd (bd ((truE M 2 b).2,lf)).2).2)
 else if k = 7 ∧ d < 2 then (.mk 5 [] [] [(truE M 2 b).1] (bd ((truE M 2 b).2,lf)).1 [],(bd ((truE M 2 b).2,lf)).2)
 else if k = 8 ∨ k = 9 then senT M lf (nextB b M.ars.length).1 (nextB (nextB b M.ars.length).2 (arL M (nextB b M.ars.length).1)).1 (nextB (nextB b M.ars.length).2 (arL M (nextB b M.ars.length).1)).2
 else if k = 10 then aftT M lf (nextB b (arL M M.own)).1 (numE M 2 (nextB b (arL M M.own)).2)
 else if k = 11 ∧ d < 3 then
  if (nextB b 2).1 = 0 then (.mk 8 [] [] (numL M 2 (nextB b 2).2).1 [] (bd ((numL M 2 (nextB b 2).2).2,lf)).1,(bd ((numL M 2 (nextB b 2).2).2,lf)).2)
  else fetT bd lf (nextB (nextB b 2).2 M.ints).1 (numE M 3 (nextB (nextB b 2).2 M.ints).2)
 else if k = 12 ∧ (nextB b 3).1 = 0 then (.mk 10 [] [] [] [] [],((nextB b 3).2,lf))
 else asgT M lf (if k = 12 then (nextB b 3).2 else b)
def bodL (st : Nat → Bs → Nat → Sm × (Bs × Nat)) : Nat → Bs × Nat → List Sm × (Bs × Nat)
 | 0,x => ([],x)
 | f + 1,(b,lf) =>
  if b = [] ∨ lf = 0 then ([],(b,lf))
  else if (nextB b 14).1 = 13 then ([],((nextB b 14).2,lf))
  else ((st (nextB b 14).1 (nextB b 14).2 (lf - 1)).1 :: (bodL st f (st (nextB b 14).1 (nextB b 14).2 (lf - 1)).2).1,(bodL st f (st (nextB b 14).1 (nextB b 14).2 (lf - 1)).2).2)
def bodE (M : Mk) : Nat → Bs × Nat → List Sm × (Bs × Nat)
 | 0 => bodL (fun k => stmT M k 3 fun x => ([],x)) 13
 | f + 1 => bodL (fun k => stmT M k (2 - f) (bodE M f)) 13
structure Cd where
 ps : UInt8
 bytes : Bs
def dCd (c : Cd) : D := .str [.val (.int .u8 c.ps.toNat),.seq 1 (c.bytes.map dU8)]
theorem cd_open {H : Hp} {x : Cd} {cs : List Value} (h : Rep H (dCd x) cs) : ∃ p c,cs = [.int .u8 x.ps.toNat,.slice p x.bytes.length c] ∧ Rep H (.seq 1 (x.bytes.map dU8)) [.slice p x.bytes.length c] := by
 rw [dCd,repS] at h
 obtain ⟨_,rfl,_,_,h⟩ := repL_val.1 h
 obtain ⟨p,c,_,rfl,hs,h⟩ := repL_seq.1 h
 rw [repL_nil] at h
 subst h
 rw [List.length_map] at hs ⊢
 exact ⟨p,c,rfl,hs⟩
def Mk.at (M : Mk) (k : Nat) : Mk := { M with params := arN M M.own k }
def hdS (M : Mk) (k : Nat) (c : Cd) : Hd := ⟨nmB 104 k,namesB 112 (arN M M.own k),(bodE (M.at k) 3 (c.bytes.take 40,12)).1⟩
def hdsP (M : Mk) : Nat → List Cd → List Hd
 | _,[] => []
 | k,c :: r => hdS M k c :: hdsP M (k + 1) r
theorem hdsP_app (M : Mk) : ∀ (a : List Cd) (k : Nat) (b : List Cd),hdsP M k (a ++ b) = hdsP M k a ++ hdsP M (k + a.length) b
 | [],k,b => by simp [hdsP]
 | c :: r,k,b => by
  simp only [List.cons_append,hdsP,hdsP_app M r (k + 1) b,List.length_cons]
  rw [show k + 1 + r.length = k + (r.length + 1) by omega]
theorem hdsP_succ {M : Mk} {l : List Cd} {k : Nat} (h : k < l.length) : hdsP M 0 (l.take (k + 1)) = hdsP M 0 (l.take k) ++ [hdS M k l[k]] := by
 rw [take_snoc h,hdsP_app,List.length_take,Nat.min_eq_left (by omega)];simp [hdsP]
theorem hdsP_len (M : Mk) : ∀ (l : List Cd) (k : Nat),(hdsP M k l).length = l.length
 | [],_ => rfl
 | c :: r,k => by simp [hdsP,hdsP_len M r (k + 1)]
theorem Fx.agg49 : aggN Tryz.prog 49 = Option.some Option.none := by kernel_rfl
theorem Fx.agg51 : aggN Tryz.prog 51 = Option.some (Option.some 4) := by kernel_rfl
theorem Fx.agg58 : aggN Tryz.prog 58 = Option.some Option.none := by kernel_rfl
theorem Fx.agg60 : aggN Tryz.prog 60 = Option.some (Option.some 4) := by kernel_rfl
theorem Fx.call87 : callN Tryz.prog 87 = Bool.true := by kernel_rfl
theorem Fx.call101 : callN Tryz.prog 101 = Bool.true := by kernel_rfl
theorem Fx.field51_3 : fieldN Tryz.prog 51 3 = Option.some 3 := by kernel_rfl
theorem Fx.field60_3 : fieldN Tryz.prog 60 3 = Option.some 3 := by kernel_rfl
theorem Fx.size51 : sizeN Tryz.prog 51 = Option.some 4 := by kernel_rfl
theorem Fx.sl49 : slN Tryz.prog 49 = Option.some 4 := by kernel_rfl
theorem Fx.sl58 : slN Tryz.prog 58 = Option.some 4 := by kernel_rfl
theorem Fx.zero51 : zeroN Tryz.prog 51 = Option.some
 [Go.Value.int Go.IntKind.i64 (Int.ofNat 0),Go.Value.string { data := { toList := [] } },
  Go.Value.int Go.IntKind.i64 (Int.ofNat 0),Go.Value.slice Option.none 0 0] := by kernel_rfl
theorem Fx.agg233 : aggN Tryz.prog 233 = Option.some (Option.some 39) := by kernel_rfl
theorem Fx.are233 : arrE Tryz.prog 233 = Bool.true := by kernel_rfl
theorem Fx.arr233 : arrN Tryz.prog 233 = Option.some (39,1) := by kernel_rfl
theorem Fx.call118 : callN Tryz.prog 118 = Bool.true := by kernel_rfl
theorem Fx.call122 : callN Tryz.prog 122 = Bool.true := by kernel_rfl
theorem Fx.call138 : callN Tryz.prog 138 = Bool.true := by kernel_rfl
theorem Fx.str9 : isStr Tryz.prog 9 = Bool.true := by kernel_rfl
theorem Fx.agg216 : aggN Tryz.prog 216 = Option.some (Option.some 25) := by kernel_rfl
theorem Fx.are216 : arrE Tryz.prog 216 = Bool.true := by kernel_rfl
theorem Fx.arr216 : arrN Tryz.prog 216 = Option.some (25,1) := by kernel_rfl
theorem Fx.call98 : callN Tryz.prog 98 = Bool.true := by kernel_rfl
theorem Fx.call119 : callN Tryz.prog 119 = Bool.true := by kernel_rfl
theorem Fx.call120 : callN Tryz.prog 120 = Bool.true := by kernel_rfl
theorem Fx.call121 : callN Tryz.prog 121 = Bool.true := by kernel_rfl
theorem Fx.call123 : callN Tryz.prog 123 = Bool.true := by kernel_rfl
theorem Fx.agg2 : aggN Tryz.prog 2 = Option.some Option.none := by kernel_rfl
theorem Fx.agg3 : aggN Tryz.prog 3 = Option.some Option.none := by kernel_rfl
theorem Fx.agg4 : aggN Tryz.prog 4 = Option.some Option.none := by kernel_rfl
theorem Fx.agg9 : aggN Tryz.prog 9 = Option.some Option.none := by kernel_rfl
theorem Fx.agg57 : aggN Tryz.prog 57 = Option.some Option.none := by kernel_rfl
theorem Fx.agg180 : aggN Tryz.prog 180 = Option.some (Option.some 4) := by kernel_rfl
theorem Fx.agg192 : aggN Tryz.prog 192 = Option.some (Option.some 6) := by kernel_rfl
theorem Fx.arr213 : arrN Tryz.prog 213 = Option.some (24,4) := by kernel_rfl
theorem Fx.arr218 : arrN Tryz.prog 218 = Option.some (11,6) := by kernel_rfl
theorem Fx.call57 : callN Tryz.prog 57 = Bool.true := by kernel_rfl
theorem Fx.call88 : callN Tryz.prog 88 = Bool.true := by kernel_rfl
theorem Fx.call89 : callN Tryz.prog 89 = Bool.true := by kernel_rfl
theorem Fx.call90 : callN Tryz.prog 90 = Bool.true := by kernel_rfl
theorem Fx.call91 : callN Tryz.prog 91 = Bool.true := by kernel_rfl
theorem Fx.field60_0 : fieldN Tryz.prog 60 0 = Option.some 0 := by kernel_rfl
theorem Fx.field60_1 : fieldN Tryz.prog 60 1 = Option.some 1 := by kernel_rfl
theorem Fx.field60_2 : fieldN Tryz.prog 60 2 = Option.some 2 := by kernel_rfl
theorem Fx.field180_0 : fieldN Tryz.prog 180 0 = Option.some 0 := by kernel_rfl
theorem Fx.field180_1 : fieldN Tryz.prog 180 1 = Option.some 1 := by kernel_rfl
theorem Fx.size180 : sizeN Tryz.prog 180 = Option.some 4 := by kernel_rfl
theorem Fx.size192 : sizeN Tryz.prog 192 = Option.some 6 := by kernel_rfl
theorem Fx.zero180 : zeroN Tryz.prog 180 = Option.some
 [Go.Value.int Go.IntKind.i64 (Int.ofNat 0),Go.Value.bool Bool.false,Go.Value.int Go.IntKind.i64 (Int.ofNat 0),
  Go.Value.string { data := { toList := [] } }] := by kernel_rfl
theorem Fx.zero192 : zeroN Tryz.prog 192 = Option.some
 [Go.Value.bool Bool.false,Go.Value.bool Bool.false,Go.Value.int Go.IntKind.i64 (Int.ofNat 0),
  Go.Value.int Go.IntKind.i64 (Int.ofNat 0),Go.Value.bool Bool.false,Go.Value.bool Bool.false] := by kernel_rfl
theorem Fx.bld180  : buildN Tryz.prog 180 [] = some [.int .i64 0,.bool false,.int .i64 0,.string ⟨#[]⟩] := by kernel_rfl
theorem Fx.bld192  : buildN Tryz.prog 192 [] = some [.bool false,.bool false,.int .i64 0,.int .i64 0,.bool false,.bool false] := by kernel_rfl
theorem Fx.agg67 : aggN Tryz.prog 67 = Option.some Option.none := by kernel_rfl
theorem Fx.agg69 : aggN Tryz.prog 69 = Option.some Option.none := by kernel_rfl
theorem Fx.call60 : callN Tryz.prog 60 = Bool.true := by kernel_rfl
theorem Fx.call63 : callN Tryz.prog 63 = Bool.true := by kernel_rfl
theorem Fx.call99 : callN Tryz.prog 99 = Bool.true := by kernel_rfl
theorem Fx.call100 : callN Tryz.prog 100 = Bool.true := by kernel_rfl
theorem Fx.field71_0 : fieldN Tryz.prog 71 0 = Option.some 0 := by kernel_rfl
theorem Fx.field71_1 : fieldN Tryz.prog 71 1 = Option.some 1 := by kernel_rfl
theorem Fx.field71_2 : fieldN Tryz.prog 71 2 = Option.some 2 := by kernel_rfl
theorem Fx.field71_3 : fieldN Tryz.prog 71 3 = Option.some 3 := by kernel_rfl
theorem Fx.field71_4 : fieldN Tryz.prog 71 4 = Option.some 4 := by kernel_rfl
theorem Fx.field71_5 : fieldN Tryz.prog 71 5 = Option.some 5 := by kernel_rfl
theorem Fx.field192_0 : fieldN Tryz.prog 192 0 = Option.some 0 := by kernel_rfl
theorem Fx.field192_1 : fieldN Tryz.prog 192 1 = Option.some 1 := by kernel_rfl
theorem Fx.field192_2 : fieldN Tryz.prog 192 2 = Option.some 2 := by kernel_rfl
theorem Fx.field192_3 : fieldN Tryz.prog 192 3 = Option.some 3 := by kernel_rfl
theorem Fx.field192_4 : fieldN Tryz.prog 192 4 = Option.some 4 := by kernel_rfl
theorem Fx.field192_5 : fieldN Tryz.prog 192 5 = Option.some 5 := by kernel_rfl
theorem Fx.sl69 : slN Tryz.prog 69 = Option.some 6 := by kernel_rfl
theorem Fx.agg98 : aggN Tryz.prog 98 = Option.some Option.none := by kernel_rfl
theorem Fx.agg150 : aggN Tryz.prog 150 = Option.some (Option.some 6) := by kernel_rfl
theorem Fx.call59 : callN Tryz.prog 59 = Bool.true := by kernel_rfl
theorem Fx.call65 : callN Tryz.prog 65 = Bool.true := by kernel_rfl
theorem Fx.call66 : callN Tryz.prog 66 = Bool.true := by kernel_rfl
theorem Fx.call95 : callN Tryz.prog 95 = Bool.true := by kernel_rfl
theorem Fx.call96 : callN Tryz.prog 96 = Bool.true := by kernel_rfl
theorem Fx.field150_4 : fieldN Tryz.prog 150 4 = Option.some 4 := by kernel_rfl
theorem Fx.field150_5 : fieldN Tryz.prog 150 5 = Option.some 5 := by kernel_rfl
theorem Fx.size150 : sizeN Tryz.prog 150 = Option.some 6 := by kernel_rfl
theorem Fx.sl98 : slN Tryz.prog 98 = Option.some 6 := by kernel_rfl
theorem Fx.zero150 : zeroN Tryz.prog 150 = Option.some
 [Go.Value.int Go.IntKind.i64 (Int.ofNat 0),Go.Value.string { data := { toList := [] } },
  Go.Value.string { data := { toList := [] } },Go.Value.slice Option.none 0 0,Go.Value.slice Option.none 0 0,
  Go.Value.slice Option.none 0 0] := by kernel_rfl
theorem Fx.agg66 : aggN Tryz.prog 66 = Option.some Option.none := by kernel_rfl
theorem Fx.agg94 : aggN Tryz.prog 94 = Option.some Option.none := by kernel_rfl
theorem Fx.call56 : callN Tryz.prog 56 = Bool.true := by kernel_rfl
theorem Fx.call58 : callN Tryz.prog 58 = Bool.true := by kernel_rfl
theorem Fx.call62 : callN Tryz.prog 62 = Bool.true := by kernel_rfl
theorem Fx.call97 : callN Tryz.prog 97 = Bool.true := by kernel_rfl
theorem Fx.field73_0 : fieldN Tryz.prog 73 0 = Option.some 0 := by kernel_rfl
theorem Fx.field73_1 : fieldN Tryz.prog 73 1 = Option.some 1 := by kernel_rfl
theorem Fx.field73_2 : fieldN Tryz.prog 73 2 = Option.some 2 := by kernel_rfl
theorem Fx.field96_1 : fieldN Tryz.prog 96 1 = Option.some 1 := by kernel_rfl
theorem Fx.field96_2 : fieldN Tryz.prog 96 2 = Option.some 2 := by kernel_rfl
theorem Fx.size60 : sizeN Tryz.prog 60 = Option.some 4 := by kernel_rfl
theorem Fx.sl66 : slN Tryz.prog 66 = Option.some 1 := by kernel_rfl
theorem Fx.zero60 : zeroN Tryz.prog 60 = Option.some
 [Go.Value.int Go.IntKind.u8 (Int.ofNat 0),Go.Value.string { data := { toList := [] } },
  Go.Value.int Go.IntKind.i64 (Int.ofNat 0),Go.Value.slice Option.none 0 0] := by kernel_rfl
theorem Fx.agg36 : aggN Tryz.prog 36 = Option.some Option.none := by kernel_rfl
theorem Fx.agg37 : aggN Tryz.prog 37 = Option.some Option.none := by kernel_rfl
theorem Fx.agg38 : aggN Tryz.prog 38 = Option.some Option.none := by kernel_rfl
theorem Fx.agg40 : aggN Tryz.prog 40 = Option.some (Option.some 4) := by kernel_rfl
theorem Fx.agg65 : aggN Tryz.prog 65 = Option.some (Option.some 2) := by kernel_rfl
theorem Fx.agg73 : aggN Tryz.prog 73 = Option.some (Option.some 3) := by kernel_rfl
theorem Fx.agg74 : aggN Tryz.prog 74 = Option.some Option.none := by kernel_rfl
theorem Fx.agg76 : aggN Tryz.prog 76 = Option.some (Option.some 1) := by kernel_rfl
theorem Fx.agg77 : aggN Tryz.prog 77 = Option.some Option.none := by kernel_rfl
theorem Fx.agg78 : aggN Tryz.prog 78 = Option.some Option.none := by kernel_rfl
theorem Fx.agg80 : aggN Tryz.prog 80 = Option.some (Option.some 3) := by kernel_rfl
theorem Fx.agg87 : aggN Tryz.prog 87 = Option.some (Option.some 3) := by kernel_rfl
theorem Fx.agg96 : aggN Tryz.prog 96 = Option.some (Option.some 3) := by kernel_rfl
theorem Fx.call55 : callN Tryz.prog 55 = Bool.true := by kernel_rfl
theorem Fx.call61 : callN Tryz.prog 61 = Bool.true := by kernel_rfl
theorem Fx.field40_0 : fieldN Tryz.prog 40 0 = Option.some 0 := by kernel_rfl
theorem Fx.field40_1 : fieldN Tryz.prog 40 1 = Option.some 1 := by kernel_rfl
theorem Fx.field40_2 : fieldN Tryz.prog 40 2 = Option.some 2 := by kernel_rfl
theorem Fx.field40_3 : fieldN Tryz.prog 40 3 = Option.some 3 := by kernel_rfl
theorem Fx.field65_0 : fieldN Tryz.prog 65 0 = Option.some 0 := by kernel_rfl
theorem Fx.field76_0 : fieldN Tryz.prog 76 0 = Option.some 0 := by kernel_rfl
theorem Fx.field80_0 : fieldN Tryz.prog 80 0 = Option.some 0 := by kernel_rfl
theorem Fx.field80_1 : fieldN Tryz.prog 80 1 = Option.some 1 := by kernel_rfl
theorem Fx.field80_2 : fieldN Tryz.prog 80 2 = Option.some 2 := by kernel_rfl
theorem Fx.field87_0 : fieldN Tryz.prog 87 0 = Option.some 0 := by kernel_rfl
theorem Fx.field87_1 : fieldN Tryz.prog 87 1 = Option.some 1 := by kernel_rfl
theorem Fx.field87_2 : fieldN Tryz.prog 87 2 = Option.some 2 := by kernel_rfl
theorem Fx.field96_0 : fieldN Tryz.prog 96 0 = Option.some 0 := by kernel_rfl
theorem Fx.size65 : sizeN Tryz.prog 65 = Option.some 2 := by kernel_rfl
theorem Fx.size73 : sizeN Tryz.prog 73 = Option.some 3 := by kernel_rfl
theorem Fx.size76 : sizeN Tryz.prog 76 = Option.some 1 := by kernel_rfl
theorem Fx.size80 : sizeN Tryz.prog 80 = Option.some 3 := by kernel_rfl
theorem Fx.size87 : sizeN Tryz.prog 87 = Option.some 3 := by kernel_rfl
theorem Fx.size96 : sizeN Tryz.prog 96 = Option.some 3 := by kernel_rfl
theorem Fx.sl36 : slN Tryz.prog 36 = Option.some 2 := by kernel_rfl
theorem Fx.sl37 : slN Tryz.prog 37 = Option.some 3 := by kernel_rfl
theorem Fx.sl38 : slN Tryz.prog 38 = Option.some 3 := by kernel_rfl
theorem Fx.sl74 : slN Tryz.prog 74 = Option.some 3 := by kernel_rfl
theorem Fx.sl77 : slN Tryz.prog 77 = Option.some 1 := by kernel_rfl
theorem Fx.sl78 : slN Tryz.prog 78 = Option.some 3 := by kernel_rfl
theorem Fx.zero65 : zeroN Tryz.prog 65 = Option.some [Go.Value.string { data := { toList := [] } },Go.Value.bool Bool.false] := by kernel_rfl
theorem Fx.zero73 : zeroN Tryz.prog 73 = Option.some
 [Go.Value.string { data := { toList := [] } },Go.Value.slice Option.none 0 0,Go.Value.slice Option.none 0 0] := by kernel_rfl
theorem Fx.zero76 : zeroN Tryz.prog 76 = Option.some [Go.Value.slice Option.none 0 0] := by kernel_rfl
theorem Fx.zero80 : zeroN Tryz.prog 80 = Option.some
 [Go.Value.string { data := { toList := [] } },Go.Value.slice Option.none 0 0,Go.Value.slice Option.none 0 0] := by kernel_rfl
theorem Fx.zero87 : zeroN Tryz.prog 87 = Option.some
 [Go.Value.string { data := { toList := [] } },Go.Value.string { data := { toList := [] } },
  Go.Value.int Go.IntKind.i64 (Int.ofNat 0)] := by kernel_rfl
theorem Fx.zero96 : zeroN Tryz.prog 96 = Option.some
 [Go.Value.string { data := { toList := [] } },Go.Value.int Go.IntKind.u8 (Int.ofNat 0),
  Go.Value.int Go.IntKind.i64 (Int.ofNat 0)] := by kernel_rfl
theorem Fx.call24 : callN Tryz.prog 24 = Bool.true := by kernel_rfl
theorem Fx.call25 : callN Tryz.prog 25 = Bool.true := by kernel_rfl
theorem Fx.call26 : callN Tryz.prog 26 = Bool.true := by kernel_rfl
theorem Fx.map142 : mapN Tryz.prog 142 = Bool.true := by kernel_rfl
theorem Fx.call52 : callN Tryz.prog 52 = Bool.true := by kernel_rfl
theorem Fx.call77 : callN Tryz.prog 77 = Bool.true := by kernel_rfl
theorem Fx.call92 : callN Tryz.prog 92 = Bool.true := by kernel_rfl
theorem Fx.field180_2 : fieldN Tryz.prog 180 2 = Option.some 2 := by kernel_rfl
theorem Fx.field180_3 : fieldN Tryz.prog 180 3 = Option.some 3 := by kernel_rfl
theorem Fx.agg22 : aggN Tryz.prog 22 = Option.some Option.none := by kernel_rfl
theorem Fx.agg108 : aggN Tryz.prog 108 = Option.some Option.none := by kernel_rfl
theorem Fx.byt22 : byteN Tryz.prog 22 = Option.some 5 := by kernel_rfl
theorem Fx.call108 : callN Tryz.prog 108 = Bool.true := by kernel_rfl
theorem Fx.field110_0 : fieldN Tryz.prog 110 0 = Option.some 0 := by kernel_rfl
theorem Fx.field110_1 : fieldN Tryz.prog 110 1 = Option.some 1 := by kernel_rfl
theorem Fx.ptr108 : ptrN Tryz.prog 108 = Option.some 110 := by kernel_rfl
theorem Fx.pts108 : ptrS Tryz.prog 108 = Option.some (110,2) := by kernel_rfl
theorem Fx.pts163 : ptrS Tryz.prog 163 = Option.some (5,1) := by kernel_rfl
theorem Fx.row22 : rowN Tryz.prog 22 = Option.some (5,1,1) := by kernel_rfl
theorem Fx.size22 : sizeN Tryz.prog 22 = Option.some 1 := by kernel_rfl
theorem Fx.size108 : sizeN Tryz.prog 108 = Option.some 1 := by kernel_rfl
theorem Fx.sl22 : slN Tryz.prog 22 = Option.some 1 := by kernel_rfl
theorem Fx.uns222 : unsN Tryz.prog 222 = Bool.true := by kernel_rfl
theorem Fx.bsl22_1 (x0 : Int) : bslN Tryz.prog 22 1 [(0,.int .u8 x0)] = some (5,[.int .u8 x0]) := by kernel_rfl
theorem Fx.call73 : callN Tryz.prog 73 = Bool.true := by kernel_rfl
theorem Fx.call74 : callN Tryz.prog 74 = Bool.true := by kernel_rfl
theorem Fx.field112_0 : fieldN Tryz.prog 112 0 = Option.some 0 := by kernel_rfl
theorem Fx.field112_1 : fieldN Tryz.prog 112 1 = Option.some 2 := by kernel_rfl
theorem Fx.call35 : callN Tryz.prog 35 = Bool.true := by kernel_rfl
theorem Fx.call111 : callN Tryz.prog 111 = Bool.true := by kernel_rfl
theorem Fx.bsl66_1 (x0 : ByteArray) : bslN Tryz.prog 66 1 [(0,.string x0)] = some (9,[.string x0]) := by kernel_rfl
theorem Fx.bsl66_2 (x0 : ByteArray) (x1 : ByteArray) : bslN Tryz.prog 66 2 [(0,.string x0),(1,.string x1)] = some (9,[.string x0,.string x1]) := by kernel_rfl
theorem Fx.call110 : callN Tryz.prog 110 = Bool.true := by kernel_rfl
theorem Fx.call150 : callN Tryz.prog 150 = Bool.true := by kernel_rfl
theorem Fx.row66 : rowN Tryz.prog 66 = Option.some (9,1,16) := by kernel_rfl
theorem Fx.size9 : sizeN Tryz.prog 9 = Option.some 1 := by kernel_rfl
theorem Fx.zero9 : zeroN Tryz.prog 9 = Option.some [Go.Value.string { data := { toList := [] } }] := by kernel_rfl
theorem Fx.bsl66_3 (x0 : ByteArray) (x1 : ByteArray) (x2 : ByteArray) : bslN Tryz.prog 66 3 [(0,.string x0),(1,.string x1),(2,.string x2)] = some (9,[.string x0,.string x1,.string x2]) := by kernel_rfl
theorem Fx.bsl66_4 (x0 : ByteArray) (x1 : ByteArray) (x2 : ByteArray) (x3 : ByteArray) : bslN Tryz.prog 66 4 [(0,.string x0),(1,.string x1),(2,.string x2),(3,.string x3)] = some (9,[.string x0,.string x1,.string x2,.string x3]) := by kernel_rfl
theorem Fx.bsl66_5 (x0 : ByteArray) (x1 : ByteArray) (x2 : ByteArray) (x3 : ByteArray) (x4 : ByteArray) : bslN Tryz.prog 66 5 [(0,.string x0),(1,.string x1),(2,.string x2),(3,.string x3),(4,.string x4)] = some (9,[.string x0,.string x1,.string x2,.string x3,.string x4]) := by kernel_rfl
theorem Fx.bsl66_6 (x0 : ByteArray) (x1 : ByteArray) (x2 : ByteArray) (x3 : ByteArray) (x4 : ByteArray) (x5 : ByteArray) : bslN Tryz.prog 66 6 [(0,.string x0),(1,.string x1),(2,.string x2),(3,.string x3),(4,.string x4),(5,.string x5)] = some (9,[.string x0,.string x1,.string x2,.string x3,.string x4,.string x5]) := by kernel_rfl
theorem Fx.bsl66_7 (x0 : ByteArray) (x1 : ByteArray) (x2 : ByteArray) (x3 : ByteArray) (x4 : ByteArray) (x5 : ByteArray) (x6 : ByteArray) : bslN Tryz.prog 66 7 [(0,.string x0),(1,.string x1),(2,.string x2),(3,.string x3),(4,.string x4),(5,.string x5),(6,.string x6)] = some (9,[.string x0,.string x1,.string x2,.string x3,.string x4,.string x5,.string x6]) := by kernel_rfl
theorem Fx.agg71 : aggN Tryz.prog 71 = Option.some (Option.some 6) := by kernel_rfl
theorem Fx.call133 : callN Tryz.prog 133 = Bool.true := by kernel_rfl
theorem Fx.size3 : sizeN Tryz.prog 3 = Option.some 1 := by kernel_rfl
theorem Fx.size71 : sizeN Tryz.prog 71 = Option.some 6 := by kernel_rfl
theorem Fx.zero71 : zeroN Tryz.prog 71 = Option.some
 [Go.Value.int Go.IntKind.u8 (Int.ofNat 0),Go.Value.string { data := { toList := [] } },
  Go.Value.string { data := { toList := [] } },Go.Value.slice Option.none 0 0,Go.Value.slice Option.none 0 0,
  Go.Value.slice Option.none 0 0] := by kernel_rfl
theorem Fx.call36 : callN Tryz.prog 36 = Bool.true := by kernel_rfl
theorem Fx.call37 : callN Tryz.prog 37 = Bool.true := by kernel_rfl
theorem Fx.call78 : callN Tryz.prog 78 = Bool.true := by kernel_rfl
theorem Fx.call9 : callN Tryz.prog 9 = Bool.true := by kernel_rfl
theorem Fx.call38 : callN Tryz.prog 38 = Bool.true := by kernel_rfl
theorem Fx.call39 : callN Tryz.prog 39 = Bool.true := by kernel_rfl
theorem Fx.call51 : callN Tryz.prog 51 = Bool.true := by kernel_rfl
theorem Fx.field65_1 : fieldN Tryz.prog 65 1 = Option.some 1 := by kernel_rfl
theorem Fx.bld112  : buildN Tryz.prog 112 [] = some [.pointer none,.slice none 0 0,.int .i64 0] := by kernel_rfl
theorem Fx.call13 : callN Tryz.prog 13 = Bool.true := by kernel_rfl
theorem Fx.call21 : callN Tryz.prog 21 = Bool.true := by kernel_rfl
theorem Fx.call22 : callN Tryz.prog 22 = Bool.true := by kernel_rfl
theorem Fx.size40 : sizeN Tryz.prog 40 = Option.some 4 := by kernel_rfl
theorem Fx.zero40 : zeroN Tryz.prog 40 = Option.some
 [Go.Value.string { data := { toList := [] } },Go.Value.slice Option.none 0 0,Go.Value.slice Option.none 0 0,
  Go.Value.slice Option.none 0 0] := by kernel_rfl
theorem Fx.bld40_0_1_3 (x0 : ByteArray) (x1p : Option Addr) (x1n x1c : Nat) (x3p : Option Addr) (x3n x3c : Nat) : buildN Tryz.prog 40 [(0,.string x0),(1,.slice x1p x1n x1c),(3,.slice x3p x3n x3c)] = some [.string x0,.slice x1p x1n x1c,.slice none 0 0,.slice x3p x3n x3c] := by kernel_rfl
theorem Fx.bld60_0_1 (x0 : Int) (x1 : ByteArray) : buildN Tryz.prog 60 [(0,.int .u8 x0),(1,.string x1)] = some [.int .u8 x0,.string x1,.int .i64 0,.slice none 0 0] := by kernel_rfl
theorem Fx.bld60_0_2 (x0 : Int) (x2 : Int) : buildN Tryz.prog 60 [(0,.int .u8 x0),(2,.int .i64 x2)] = some [.int .u8 x0,.string ⟨#[]⟩,.int .i64 x2,.slice none 0 0] := by kernel_rfl
theorem Fx.bld60_0_3 (x0 : Int) (x3p : Option Addr) (x3n x3c : Nat) : buildN Tryz.prog 60 [(0,.int .u8 x0),(3,.slice x3p x3n x3c)] = some [.int .u8 x0,.string ⟨#[]⟩,.int .i64 0,.slice x3p x3n x3c] := by kernel_rfl
theorem Fx.bld65_0_1 (x0 : ByteArray) (x1 : Bool) : buildN Tryz.prog 65 [(0,.string x0),(1,.bool x1)] = some [.string x0,.bool x1] := by kernel_rfl
theorem Fx.bld71_0 (x0 : Int) : buildN Tryz.prog 71 [(0,.int .u8 x0)] = some [.int .u8 x0,.string ⟨#[]⟩,.string ⟨#[]⟩,.slice none 0 0,.slice none 0 0,.slice none 0 0] := by kernel_rfl
theorem Fx.bld71_0_3_5 (x0 : Int) (x3p : Option Addr) (x3n x3c : Nat) (x5p : Option Addr) (x5n x5c : Nat) : buildN Tryz.prog 71 [(0,.int .u8 x0),(3,.slice x3p x3n x3c),(5,.slice x5p x5n x5c)] = some [.int .u8 x0,.string ⟨#[]⟩,.string ⟨#[]⟩,.slice x3p x3n x3c,.slice none 0 0,.slice x5p x5n x5c] := by kernel_rfl
theorem Fx.bld73_0_1_2 (x0 : ByteArray) (x1p : Option Addr) (x1n x1c : Nat) (x2p : Option Addr) (x2n x2c : Nat) : buildN Tryz.prog 73 [(0,.string x0),(1,.slice x1p x1n x1c),(2,.slice x2p x2n x2c)] = some [.string x0,.slice x1p x1n x1c,.slice x2p x2n x2c] := by kernel_rfl
theorem Fx.bld76_0 (x0p : Option Addr) (x0n x0c : Nat) : buildN Tryz.prog 76 [(0,.slice x0p x0n x0c)] = some [.slice x0p x0n x0c] := by kernel_rfl
theorem Fx.bld80_0_2 (x0 : ByteArray) (x2p : Option Addr) (x2n x2c : Nat) : buildN Tryz.prog 80 [(0,.string x0),(2,.slice x2p x2n x2c)] = some [.string x0,.slice none 0 0,.slice x2p x2n x2c] := by kernel_rfl
theorem Fx.bsl36_1 (x00 x01 : Value) : bslN Tryz.prog 36 1 [(0,.agg [x00,x01].toArray)] = some (65,[x00,x01]) := by kernel_rfl
theorem Fx.bsl38_1 (x00 x01 x02 : Value) : bslN Tryz.prog 38 1 [(0,.agg [x00,x01,x02].toArray)] = some (80,[x00,x01,x02]) := by kernel_rfl
theorem Fx.bsl58_1 (x00 x01 x02 x03 : Value) : bslN Tryz.prog 58 1 [(0,.agg [x00,x01,x02,x03].toArray)] = some (60,[x00,x01,x02,x03]) := by kernel_rfl
theorem Fx.bsl58_2 (x00 x01 x02 x03 : Value) (x10 x11 x12 x13 : Value) : bslN Tryz.prog 58 2 [(0,.agg [x00,x01,x02,x03].toArray),(1,.agg [x10,x11,x12,x13].toArray)] = some (60,[x00,x01,x02,x03,x10,x11,x12,x13]) := by kernel_rfl
theorem Fx.bsl69_1 (x00 x01 x02 x03 x04 x05 : Value) : bslN Tryz.prog 69 1 [(0,.agg [x00,x01,x02,x03,x04,x05].toArray)] = some (71,[x00,x01,x02,x03,x04,x05]) := by kernel_rfl
theorem Fx.bsl74_1 (x00 x01 x02 : Value) : bslN Tryz.prog 74 1 [(0,.agg [x00,x01,x02].toArray)] = some (73,[x00,x01,x02]) := by kernel_rfl
theorem Fx.bsl77_1 (x00 : Value) : bslN Tryz.prog 77 1 [(0,.agg [x00].toArray)] = some (76,[x00]) := by kernel_rfl
theorem Fx.bsl66_11 (x0 : ByteArray) (x1 : ByteArray) (x2 : ByteArray) (x3 : ByteArray) (x4 : ByteArray) (x5 : ByteArray) (x6 : ByteArray) (x7 : ByteArray) (x8 : ByteArray) (x9 : ByteArray) (x10 : ByteArray) : bslN Tryz.prog 66 11 [(0,.string x0),(1,.string x1),(2,.string x2),(3,.string x3),(4,.string x4),(5,.string x5),(6,.string x6),(7,.string x7),(8,.string x8),(9,.string x9),(10,.string x10)] = some (9,[.string x0,.string x1,.string x2,.string x3,.string x4,.string x5,.string x6,.string x7,.string x8,.string x9,.string x10]) := by kernel_rfl
theorem Fx.call19 : callN Tryz.prog 19 = Bool.true := by kernel_rfl
theorem Fx.field51_0 : fieldN Tryz.prog 51 0 = Option.some 0 := by kernel_rfl
theorem Fx.field51_1 : fieldN Tryz.prog 51 1 = Option.some 1 := by kernel_rfl
theorem Fx.field51_2 : fieldN Tryz.prog 51 2 = Option.some 2 := by kernel_rfl
theorem Fx.int3 : intN Tryz.prog 3 = Option.some Go.IntKind.i64 := by kernel_rfl
theorem Fx.int57 : intN Tryz.prog 57 = Option.some Go.IntKind.u8 := by kernel_rfl
theorem Fx.row58 : rowN Tryz.prog 58 = Option.some (60,4,56) := by kernel_rfl
theorem Fx.size58 : sizeN Tryz.prog 58 = Option.some 1 := by kernel_rfl
theorem Fx.bld60_0_1_2 (x0 : Int) (x1 : ByteArray) (x2 : Int) : buildN Tryz.prog 60 [(0,.int .u8 x0),(1,.string x1),(2,.int .i64 x2)] = some [.int .u8 x0,.string x1,.int .i64 x2,.slice none 0 0] := by kernel_rfl
theorem Fx.agg5 : aggN Tryz.prog 5 = Option.some Option.none := by kernel_rfl
theorem Fx.agg173 : aggN Tryz.prog 173 = Option.some (Option.some 5) := by kernel_rfl
theorem Fx.call49 : callN Tryz.prog 49 = Bool.true := by kernel_rfl
theorem Fx.call53 : callN Tryz.prog 53 = Bool.true := by kernel_rfl
theorem Fx.call86 : callN Tryz.prog 86 = Bool.true := by kernel_rfl
theorem Fx.field173_0 : fieldN Tryz.prog 173 0 = Option.some 0 := by kernel_rfl
theorem Fx.field173_1 : fieldN Tryz.prog 173 1 = Option.some 1 := by kernel_rfl
theorem Fx.field173_2 : fieldN Tryz.prog 173 2 = Option.some 2 := by kernel_rfl
theorem Fx.field173_3 : fieldN Tryz.prog 173 3 = Option.some 3 := by kernel_rfl
theorem Fx.field173_4 : fieldN Tryz.prog 173 4 = Option.some 4 := by kernel_rfl
theorem Fx.int5 : intN Tryz.prog 5 = Option.some Go.IntKind.u8 := by kernel_rfl
theorem Fx.row49 : rowN Tryz.prog 49 = Option.some (51,4,56) := by kernel_rfl
theorem Fx.size2 : sizeN Tryz.prog 2 = Option.some 1 := by kernel_rfl
theorem Fx.size49 : sizeN Tryz.prog 49 = Option.some 1 := by kernel_rfl
theorem Fx.size173 : sizeN Tryz.prog 173 = Option.some 5 := by kernel_rfl
theorem Fx.sl53 : slN Tryz.prog 53 = Option.some 5 := by kernel_rfl
theorem Fx.zero173 : zeroN Tryz.prog 173 = Option.some
 [Go.Value.int Go.IntKind.u8 (Int.ofNat 0),Go.Value.int Go.IntKind.u8 (Int.ofNat 0),
  Go.Value.int Go.IntKind.u8 (Int.ofNat 0),Go.Value.bool Bool.false,Go.Value.int Go.IntKind.i64 (Int.ofNat 0)] := by kernel_rfl
theorem Fx.bld51_0 (x0 : Int) : buildN Tryz.prog 51 [(0,.int .i64 x0)] = some [.int .i64 x0,.string ⟨#[]⟩,.int .i64 0,.slice none 0 0] := by kernel_rfl
theorem Fx.bld51_0_2 (x0 : Int) (x2 : Int) : buildN Tryz.prog 51 [(0,.int .i64 x0),(2,.int .i64 x2)] = some [.int .i64 x0,.string ⟨#[]⟩,.int .i64 x2,.slice none 0 0] := by kernel_rfl
theorem Fx.bsl49_1 (x00 x01 x02 x03 : Value) : bslN Tryz.prog 49 1 [(0,.agg [x00,x01,x02,x03].toArray)] = some (51,[x00,x01,x02,x03]) := by kernel_rfl
theorem Fx.bsl66_25 (x0 : ByteArray) (x1 : ByteArray) (x2 : ByteArray) (x3 : ByteArray) (x4 : ByteArray) (x5 : ByteArray) (x6 : ByteArray) (x7 : ByteArray) (x8 : ByteArray) (x9 : ByteArray) (x10 : ByteArray) (x11 : ByteArray) (x12 : ByteArray) (x13 : ByteArray) (x14 : ByteArray) (x15 : ByteArray) (x16 : ByteArray) (x17 : ByteArray) (x18 : ByteArray) (x19 : ByteArray) (x20 : ByteArray) (x21 : ByteArray) (x22 : ByteArray) (x23 : ByteArray) (x24 : ByteArray) : bslN Tryz.prog 66 25 [(0,.string x0),(1,.string x1),(2,.string x2),(3,.string x3),(4,.string x4),(5,.string x5),(6,.string x6),(7,.string x7),(8,.string x8),(9,.string x9),(10,.string x10),(11,.string x11),(12,.string x12),(13,.string x13),(14,.string x14),(15,.string x15),(16,.string x16),(17,.string x17),(18,.string x18),(19,.string x19),(20,.string x20),(21,.string x21),(22,.string x22),(23,.string x23),(24,.string x24)] = some (9,[.string x0,.string x1,.string x2,.string x3,.string x4,.string x5,.string x6,.string x7,.string x8,.string x9,.string x10,.string x11,.string x12,.string x13,.string x14,.string x15,.string x16,.string x17,.string x18,.string x19,.string x20,.string x21,.string x22,.string x23,.string x24]) := by kernel_rfl
theorem Fx.bsl66_39 (x0 : ByteArray) (x1 : ByteArray) (x2 : ByteArray) (x3 : ByteArray) (x4 : ByteArray) (x5 : ByteArray) (x6 : ByteArray) (x7 : ByteArray) (x8 : ByteArray) (x9 : ByteArray) (x10 : ByteArray) (x11 : ByteArray) (x12 : ByteArray) (x13 : ByteArray) (x14 : ByteArray) (x15 : ByteArray) (x16 : ByteArray) (x17 : ByteArray) (x18 : ByteArray) (x19 : ByteArray) (x20 : ByteArray) (x21 : ByteArray) (x22 : ByteArray) (x23 : ByteArray) (x24 : ByteArray) (x25 : ByteArray) (x26 : ByteArray) (x27 : ByteArray) (x28 : ByteArray) (x29 : ByteArray) (x30 : ByteArray) (x31 : ByteArray) (x32 : ByteArray) (x33 : ByteArray) (x34 : ByteArray) (x35 : ByteArray) (x36 : ByteArray) (x37 : ByteArray) (x38 : ByteArray) : bslN Tryz.prog 66 39 [(0,.string x0),(1,.string x1),(2,.string x2),(3,.string x3),(4,.string x4),(5,.string x5),(6,.string x6),(7,.string x7),(8,.string x8),(9,.string x9),(10,.string x10),(11,.string x11),(12,.string x12),(13,.string x13),(14,.string x14),(15,.string x15),(16,.string x16),(17,.string x17),(18,.string x18),(19,.string x19),(20,.string x20),(21,.string x21),(22,.string x22),(23,.string x23),(24,.string x24),(25,.string x25),(26,.string x26),(27,.string x27),(28,.string x28),(29,.string x29),(30,.string x30),(31,.string x31),(32,.string x32),(33,.string x33),(34,.string x34),(35,.string x35),(36,.string x36),(37,.string x37),(38,.string x38)] = some (9,[.string x0,.string x1,.string x2,.string x3,.string x4,.string x5,.string x6,.string x7,.string x8,.string x9,.string x10,.string x11,.string x12,.string x13,.string x14,.string x15,.string x16,.string x17,.string x18,.string x19,.string x20,.string x21,.string x22,.string x23,.string x24,.string x25,.string x26,.string x27,.string x28,.string x29,.string x30,.string x31,.string x32,.string x33,.string x34,.string x35,.string x36,.string x37,.string x38]) := by kernel_rfl
theorem Fx.agg200 : aggN Tryz.prog 200 = Option.some (Option.some 3) := by kernel_rfl
theorem Fx.call139 : callN Tryz.prog 139 = Bool.true := by kernel_rfl
theorem Fx.call140 : callN Tryz.prog 140 = Bool.true := by kernel_rfl
theorem Fx.call141 : callN Tryz.prog 141 = Bool.true := by kernel_rfl
theorem Fx.call142 : callN Tryz.prog 142 = Bool.true := by kernel_rfl
theorem Fx.size200 : sizeN Tryz.prog 200 = Option.some 3 := by kernel_rfl
theorem Fx.zero200 : zeroN Tryz.prog 200 = Option.some
 [Go.Value.int Go.IntKind.i64 (Int.ofNat 0),Go.Value.string { data := { toList := [] } },
  Go.Value.int Go.IntKind.i64 (Int.ofNat 0)] := by kernel_rfl
theorem Fx.bld200_0_1_2 (x0 : Int) (x1 : ByteArray) (x2 : Int) : buildN Tryz.prog 200 [(0,.int .i64 x0),(1,.string x1),(2,.int .i64 x2)] = some [.int .i64 x0,.string x1,.int .i64 x2] := by kernel_rfl
theorem Fx.call102 : callN Tryz.prog 102 = Bool.true := by kernel_rfl
theorem Fx.call124 : callN Tryz.prog 124 = Bool.true := by kernel_rfl
theorem Fx.call125 : callN Tryz.prog 125 = Bool.true := by kernel_rfl
theorem Fx.field200_0 : fieldN Tryz.prog 200 0 = Option.some 0 := by kernel_rfl
theorem Fx.field200_1 : fieldN Tryz.prog 200 1 = Option.some 1 := by kernel_rfl
theorem Fx.row197 : rowN Tryz.prog 197 = Option.some (200,3,32) := by kernel_rfl
theorem Fx.sl197 : slN Tryz.prog 197 = Option.some 3 := by kernel_rfl
theorem Fx.bsl197_1 (x00 x01 x02 : Value) : bslN Tryz.prog 197 1 [(0,.agg [x00,x01,x02].toArray)] = some (200,[x00,x01,x02]) := by kernel_rfl
theorem Fx.call68 : callN Tryz.prog 68 = Bool.true := by kernel_rfl
theorem Fx.call104 : callN Tryz.prog 104 = Bool.true := by kernel_rfl
theorem Fx.call106 : callN Tryz.prog 106 = Bool.true := by kernel_rfl
theorem Fx.call33 : callN Tryz.prog 33 = Bool.true := by kernel_rfl
theorem Fx.bsl66_13 (x0 : ByteArray) (x1 : ByteArray) (x2 : ByteArray) (x3 : ByteArray) (x4 : ByteArray) (x5 : ByteArray) (x6 : ByteArray) (x7 : ByteArray) (x8 : ByteArray) (x9 : ByteArray) (x10 : ByteArray) (x11 : ByteArray) (x12 : ByteArray) : bslN Tryz.prog 66 13 [(0,.string x0),(1,.string x1),(2,.string x2),(3,.string x3),(4,.string x4),(5,.string x5),(6,.string x6),(7,.string x7),(8,.string x8),(9,.string x9),(10,.string x10),(11,.string x11),(12,.string x12)] = some (9,[.string x0,.string x1,.string x2,.string x3,.string x4,.string x5,.string x6,.string x7,.string x8,.string x9,.string x10,.string x11,.string x12]) := by kernel_rfl
theorem Fx.call151 : callN Tryz.prog 151 = Bool.true := by kernel_rfl
theorem Fx.call155 : callN Tryz.prog 155 = Bool.true := by kernel_rfl
theorem Fx.call156 : callN Tryz.prog 156 = Bool.true := by kernel_rfl
theorem Fx.call157 : callN Tryz.prog 157 = Bool.true := by kernel_rfl
theorem Fx.bytes22 : bytesN Tryz.prog 22 = Bool.true := by kernel_rfl
theorem Fx.field126_6 : fieldN Tryz.prog 126 6 = Option.some 6 := by kernel_rfl
theorem Fx.bsl22_2 (x0 : Int) (x1 : Int) : bslN Tryz.prog 22 2 [(0,.int .u8 x0),(1,.int .u8 x1)] = some (5,[.int .u8 x0,.int .u8 x1]) := by kernel_rfl
def mkC (M : Mk) (arV bv : Value) (left : Int) : List Value := [.int .i64 (M.ints : Nat),.int .i64 (M.tables : Nat),.int .i64 (M.flags : Nat),.int .i64 (M.own : Nat),arV,.int .i64 (M.params : Nat),bv,.int .i64 left]
set_option maxRecDepth 100000 in
theorem least_any (H : Hp) (a b : Nat) (w : World) (hA : Agr H w) : Calls Tryz.prog 40 #[.int .i64 (a : Nat),.int .i64 (b : Nat)] w fun r w' => r = .returned (.int .i64 ((min a b : Nat) : Int)) ∧ Ext w w' := by
 refine Sx.enter (H := H) Tryz.func40 rfl Tryz.ntmps40 rfl hA ?_
 refine .sr<|.a Z Z<|.nt<|.sq<|.sr<|.m Z Z<|.m Z Z<|.yv (.lss Z Z) Z<|.nt<|.cd Z (fun h7 => ?_) (fun h7 => ?_)
 ·try simp only [dt] at h7
  refine .sr<|.m Z Z<|.a Z Z<|.nt<|.rt<|.tR<|?_
  refine Sx.ret1 (.inl rfl) rfl (.tmp rfl) fun W s => ⟨?_,s.ext⟩
  first
   | (rw [Nat.min_eq_left (by omega)])
   | (rw [Nat.min_eq_right (by omega)])
 try simp only [df] at h7
 refine .sk<|.tN<|.sr<|.m Z Z<|.a Z Z<|.nt<|.rt<|?_
 refine Sx.ret1 (.inl rfl) rfl (.tmp rfl) fun W s => ⟨?_,s.ext⟩
 first
  | (rw [Nat.min_eq_left (by omega)])
  | (rw [Nat.min_eq_right (by omega)])
set_option maxRecDepth 100000 in
theorem names_any (H : Hp) (c : UInt8) (n : Nat) (hn : n ≤ 100) (w : World) (hA : Agr H w) : Calls Tryz.prog 41 #[.int .u8 c.toNat,.int .i64 (n : Nat)] w fun r w' => ∃ (v : Value) (H' : Hp),Rep H' (.seq 1 ((namesB c n).map dStr)) [v] ∧ r = .returned v ∧ Grow H w H' w' := by
 refine Sx.enter (H := H) Tryz.func41 rfl Tryz.ntmps41 rfl hA ?_
 refine .sr<|.a Z Z<|.ns<|.a Z Z<|?_
 refine Sx.row0 9 1 ?_
 refine .nt<|.sq<|.sr<|.a Z Z<|.nt<|.bk<|.lp (X := Nat × Value × List Value) [(0,_),(1,_)] ⟨rfl,rfl,trivial⟩ [] (fun z => [(5,z.2.1),(6,.int .i64 (z.1 : Nat))]) (fun z => H) (fun z => [.row 9 1 z.2.1 z.1 z.2.2]) (fun z => z.1 ≤ n ∧ RepZ H 1 ((namesB c z.1).map dStr) z.2.2) (fun z => n - z.1) (0,.slice none 0 0,[]) (fun _ s => s) ⟨rfl,rfl,trivial⟩ ⟨by omega,RepZ.nil⟩ fun z hC => ?_
 obtain ⟨k,r,xs⟩ := z
 dsimp only at hC ⊢
 obtain ⟨hk0,hz⟩ := hC
 refine .sq<|.sr<|.m Z Z<|.m Z Z<|.yv (.lss Z Z) Z<|.nt<|.cd Z (fun h9 => ?_) (fun h9 => ?_)
 ·try simp only [dt] at h9
  have hk : k < n := by omega
  exact .sk<|.tN<|.sq<|.bk<|.rg<|.m Z Z<|.m Z Z<|.m Z Z<|.yv (.add Z Z (c := ((48 + k : Nat) : Int)) ((w6 (by omega)).trans (by omega))) Z<|.yv (.conv Z Fx.int3 Fx.int5 (c := (((UInt8.ofNat (48 + k)).toNat : Nat) : Int)) (by rw [show ((UInt8.ofNat (48 + k)).toNat : Int) = ((48 + k : Nat) : Int) by simp [UInt8.toNat_ofNat'];omega];simp only [IntKind.wrap,IntKind.signed,IntKind.bits];simp;omega)) Z<|.bl Z (Fx.bsl22_2 _ _) Z fun b17 => .yv (.bytesStr (l := nmB c k) Fx.bytes22 Fx.str9 Z Z (.box (.head _) z0)) Z<|.bl Z (Fx.bsl66_1 _) Z fun b19 => .ap (news := [strV (nmB c k)]) Fx.row66 Z (fun _ => (.tail<|.tail<|.head)) Z (.box (.head _) z0) Z (by simp [Value.oneCell',strV]) (by simp [maxLen];omega) (by omega) Z fun r20 _ => .a Z Z<|.nl<|.bN<|.tN<|.rg<|.m Z Z<|.yv (.add Z Z (w6 (by omega))) Z<|.a Z Z<|.nt<|.ag (x := (k,r,xs)) (k + 1,r20,xs ++ [strV (nmB c k)]) ⟨rfl,rfl,trivial⟩ ⟨rfl,rfl,trivial⟩ (fun _ s => (s.pick [2] _ Z Z)) ⟨by dsimp only;omega,by dsimp only;rw [namesB_succ,List.map_append];exact hz.snoc (str_shut (by simp [nmB])) Z⟩ (by dsimp only;omega)
 try simp only [df] at h9
 obtain rfl : k = n := by omega
 refine .ex<|.tE<|.tE<|.bE<|.tN<|.sr<|.m Z Z<|.a Z Z<|.nt<|.rt<|?_
 refine At.pm [0] [_] rfl rfl ?_
 refine Sx.freezeSeq (ds := (namesB c k).map dStr) (by simp [namesB_len]) hz fun H3 p3 c3 u3 hr3 hs3 => ?_
 exact Sx.ret1 (.inl rfl) rfl (.tmp rfl) fun W t => ⟨r,H3,hs3,rfl,u3.grow t⟩
theorem u8_open {H : Hp} {c : UInt8} {cs : List Value} (h : Rep H (dU8 c) cs) : cs = [.int .u8 c.toNat] := by unfold dU8 Rep at h;exact h.1
set_option maxRecDepth 100000 in
theorem next_st {H : Hp} {w0 W : World} {bs : List Res} {b : Nat} {M : Mk} {arV bv : Value} {left : Int} {by_ : Bs} (n : Nat) (hn : 0 < n) (hb : Rep H (.seq 1 ((by_).map dU8)) [bv]) (s : St H w0 (.box b (mkC M arV bv left) 126 :: bs) W) :
 Calls Tryz.prog 112 #[.pointer (some ⟨b,0,none⟩),.int .i64 (n : Nat)] W fun e W' => ∃ z : Value,Rep H (.seq 1 (((nextB by_ n).2).map dU8)) [z] ∧ e = .returned (.int .i64 ((nextB by_ n).1 : Nat)) ∧ St H w0 (.box b (mkC M arV z left) 126 :: bs) W' := by
 obtain ⟨p,c,e,hlen,_⟩ := hb.sl
 simp only [List.cons.injEq,and_true,List.length_map] at e
 subst e
 rw [List.length_map] at hlen
 have hcap := hb.cap
 refine Sx.enterS Tryz.func112 rfl Tryz.ntmps112 rfl s ?_
 refine .sr<|.a Z Z<|.nt<|.sq<|.sr<|.m Z Z<|.yv (.nilCheck Z) Z<|.yv (.fieldAddr Z Fx.field126_6) Z<|.yv (.load Z Fx.agg22 (.head _) Z) Z<|.yv (.lenSl Fx.sl22 Z) Z<|.yv (.eql Z Z) Z<|.nt<|.cd Z (fun h11 => ?_) (fun h11 => ?_)
 ·try simp only [dt] at h11
  have h0 : by_ = [] := List.eq_nil_of_length_eq_zero (by omega)
  subst h0
  refine .sr<|.a Z Z<|.nt<|.rt<|.tR<|?_
  exact Sx.ret1 (.inl rfl) rfl (.tmp rfl) fun W t => ⟨_,hb,rfl,t⟩
 try simp only [df] at h11
 obtain ⟨bE,oE,cE,hpE,rE,lE,mE⟩ := hb.elem (map_at (f := dU8) (show 0 < by_.length by omega))
 subst hpE
 obtain rfl := u8_open rE
 obtain ⟨cB,rB,hby⟩ : ∃ cB rB,by_ = cB :: rB := by
  match by_,hlen with
  | [],_ => simp at h11
  | cB :: rB,_ => exact ⟨cB,rB,rfl⟩
 subst hby
 simp only [List.getElem_cons_zero] at mE
 refine .sk<|.tN<|.sr<|.m Z Z<|.yv (.nilCheck Z) Z<|.yv (.fieldAddr Z Fx.field126_6) Z<|.yv (.load Z Fx.agg22 (.head _) Z) Z<|.yv (.indexSl Fx.sl22 Z Z (i := 0) Z (by omega) (q := oE + 0 * 1) (by omega)) Z<|.yv (.loadM Z Fx.agg5 mE (k := 0) Z Z) Z<|.yv (.conv Z Fx.int5 Fx.int3 (c := ((cB.toNat : Nat) : Int)) (w64 (by have := cB.toNat_lt;omega) (by have := cB.toNat_lt;omega))) Z<|.a Z Z<|.ns<|.m Z Z<|.m Z Z<|.yv (.nilCheck Z) Z<|.yv (.fieldAddr Z Fx.field126_6) Z<|.yv (.load Z Fx.agg22 (.head _) Z) Z<|.yv (.cutLo Fx.sl22 Z Z (lo := 1) Z (by omega) hb.len.2.1) Z<|.yv (.nilCheck Z) Z<|.yv (.fieldAddr Z Fx.field126_6) Z<|.st (l' := mkC M arV _ left) .head Z Z Fx.size22 Z (nb Z) Z<|.ns<|.m Z Z<|.m Z Z<|.yv (.rem Z Z (by omega) (c := ((cB.toNat % n : Nat) : Int)) (by rw [Int.tmod_eq_emod_of_nonneg (by omega)];omega)) Z<|.a Z Z<|.nt<|.rt<|?_
 exact Sx.ret1 (.inl rfl) rfl (.tmp rfl) fun W t => ⟨_,rep_drop hb (lo := 1) (by omega),rfl,t⟩
theorem Fx.call41 : callN Tryz.prog 41 = Bool.true := by kernel_rfl
theorem Fx.call112 : callN Tryz.prog 112 = Bool.true := by kernel_rfl
theorem Fx.field126_0 : fieldN Tryz.prog 126 0 = Option.some 0 := by kernel_rfl
def okM (M : Mk) : Prop := 0 < M.ints ∧ M.ints ≤ 3 ∧ M.params ≤ 2 ∧ M.flags ≤ 2
theorem name_at {H : Hp} {c : UInt8} {n k cp : Nat} {p : Option Addr} (h : Rep H (.seq 1 ((namesB c n).map dStr)) [.slice p n cp]) (hk : k < n) : ∃ b o,p = some ⟨b,o,none⟩ ∧ MemAt H b (o + k * 1) [strV (nmB c k)] := by
 obtain ⟨b,o,cs,e,r,l,m⟩ := h.elem (i := k) (d := dStr (nmB c k)) (by rw [List.getElem?_map,namesB_at hk];rfl)
 obtain ⟨rfl,_⟩ := str_open r
 exact ⟨b,o,e,m⟩
set_option maxRecDepth 100000 in
theorem integer_st {H : Hp} {w0 W : World} {bs : List Res} {b : Nat} {M : Mk} {arV bv : Value} {left : Int} {by_ : Bs} (hM : okM M) (hb : Rep H (.seq 1 ((by_).map dU8)) [bv]) (s : St H w0 (.box b (mkC M arV bv left) 126 :: bs) W) :
 Calls Tryz.prog 137 #[.pointer (some ⟨b,0,none⟩)] W fun e W' => ∃ z : Value × Hp,(HUp w0 H z.2 ∧ Rep z.2 (.seq 1 (((nextB by_ M.ints).2).map dU8)) [z.1]) ∧ e = .returned (strV (nmB 120 (nextB by_ M.ints).1)) ∧ St z.2 w0 (.box b (mkC M arV z.1 left) 126 :: bs) W' := by
 refine Sx.enterS Tryz.func137 rfl Tryz.ntmps137 rfl s ?_
 refine .sr<|.a Z Z<|.nt<|.sq<|.fl (trip := [(_,_,_),(_,_,_),(_,_,_),(_,_,_),(_,_,_),(_,_,_),(_,_,_),(_,_,_),(_,_,_)]) 9 [(1,0),(2,0),(3,0),(4,0),(5,0),(0,1),(6,2),(7,0),(8,0)] (by kernel_rfl) (by kernel_rfl) Z<|.m Z Z<|.m Z Z<|.yv (.nilCheck Z) Z<|.yv (.fieldAddr Z Fx.field126_0) Z<|.yv (.load Z Fx.agg3 (.head _) Z) Z<|.ct (X := Value) Fx.call41 Z (fun W s => names_any H 120 3 (by omega) W s.agr) Z fun v3 H3 hn3 u3 => ?_
 obtain ⟨pn3,cn3,e3,_⟩ := hn3.sl
 simp only [List.cons.injEq,and_true,List.length_map,namesB_len] at e3
 subst e3
 obtain ⟨bE,oE,hpE,mE⟩ := name_at hn3 (k := (nextB by_ M.ints).1) (by have := nextB_lt by_ hM.1;have := hM.2.1;omega)
 subst hpE
 refine .cs (X := Value) Fx.call112 Z (fun W s => next_st M.ints hM.1 (hb.up u3.up)  (s.pickT (hd := [_]) (tl := bs) (hd' := [_]) [0] Z Z)) Z fun z9 hz9 => .yv (.indexSl Fx.sl66 Z Z (i := (nextB by_ M.ints).1) Z (by have := nextB_lt by_ hM.1;have := hM.2.1;omega) (q := oE + (nextB by_ M.ints).1 * 1) Z) Z<|.yv (.loadM Z Fx.agg9 mE (k := 0) Z Z) Z<|.fn (tl := [_]) Z<|.a Z Z<|.nt<|.rt<|?_
 exact Sx.ret1 (.inl rfl) rfl (.tmp rfl) fun W t => ⟨(z9,H3),⟨u3,hz9⟩,rfl,(t.pickT (hd := [_]) (tl := bs) (hd' := [_]) [0] rfl rfl)⟩
theorem Fx.call135 : callN Tryz.prog 135 = Bool.true := by kernel_rfl
theorem Fx.call137 : callN Tryz.prog 137 = Bool.true := by kernel_rfl
theorem Fx.field126_1 : fieldN Tryz.prog 126 1 = Option.some 1 := by kernel_rfl
theorem Fx.field126_5 : fieldN Tryz.prog 126 5 = Option.some 5 := by kernel_rfl
theorem Fx.sl123 : slN Tryz.prog 123 = Option.some 1 := by kernel_rfl
theorem Fx.bld51_0_1 (x0 : Int) (x1 : ByteArray) : buildN Tryz.prog 51 [(0,.int .i64 x0),(1,.string x1)] = some [.int .i64 x0,.string x1,.int .i64 0,.slice none 0 0] := by kernel_rfl
theorem Fx.bld51_0_1_3 (x0 : Int) (x1 : ByteArray) (x3p : Option Addr) (x3n x3c : Nat) : buildN Tryz.prog 51 [(0,.int .i64 x0),(1,.string x1),(3,.slice x3p x3n x3c)] = some [.int .i64 x0,.string x1,.int .i64 0,.slice x3p x3n x3c] := by kernel_rfl
theorem Fx.bld51_0_3 (x0 : Int) (x3p : Option Addr) (x3n x3c : Nat) : buildN Tryz.prog 51 [(0,.int .i64 x0),(3,.slice x3p x3n x3c)] = some [.int .i64 x0,.string ⟨#[]⟩,.int .i64 0,.slice x3p x3n x3c] := by kernel_rfl
theorem Fx.bsl123_6 (x0 : Int) (x1 : Int) (x2 : Int) (x3 : Int) (x4 : Int) (x5 : Int) : bslN Tryz.prog 123 6 [(0,.int .i64 x0),(1,.int .i64 x1),(2,.int .i64 x2),(3,.int .i64 x3),(4,.int .i64 x4),(5,.int .i64 x5)] = some (3,[.int .i64 x0,.int .i64 x1,.int .i64 x2,.int .i64 x3,.int .i64 x4,.int .i64 x5]) := by kernel_rfl
theorem Fx.bsl49_2 (x00 x01 x02 x03 : Value) (x10 x11 x12 x13 : Value) : bslN Tryz.prog 49 2 [(0,.agg [x00,x01,x02,x03].toArray),(1,.agg [x10,x11,x12,x13].toArray)] = some (51,[x00,x01,x02,x03,x10,x11,x12,x13]) := by kernel_rfl
def NumOf (rec : Bs → Ex × Bs) (M : Mk) (d : Nat) : Prop := ∀ (H : Hp) (w0 W : World) (bs : List Res) (b : Nat) (arV bv : Value) (left : Int) (by_ : Bs),Rep H (.seq 1 ((by_).map dU8)) [bv] → St H w0 (.box b (mkC M arV bv left) 126 :: bs) W →
 Calls Tryz.prog 135 #[.pointer (some ⟨b,0,none⟩),.int .i64 (d : Nat)] W fun e W' => ∃ z : List Value × Value × Hp,(HUp w0 H z.2.2 ∧ Rep z.2.2 (dEx .i64 (rec by_).1) z.1 ∧ Rep z.2.2 (.seq 1 (((rec by_).2).map dU8)) [z.2.1]) ∧ e = .returned (.agg z.1.toArray) ∧ St z.2.2 w0 (.box b (mkC M arV z.2.1 left) 126 :: bs) W'
theorem rep_num {H : Hp} {n : Nat} (h : n < 9) : Rep H (dEx .i64 (.mk 1 [] (Int64.ofNat n) [])) [.int .i64 1,strV [],.int .i64 (n : Nat),.slice none 0 0] := by
 have e : (Int64.ofNat n).toInt = (n : Int) := by
  have key : ∀ i ∈ List.range 9,(Int64.ofNat i).toInt = (i : Int) := by decide
  exact key n (List.mem_range.2 h)
 have := ex_shut (H := H) (k := .i64) (op := 1) (nm := []) (n := Int64.ofNat n) (args := []) (s := .slice none 0 0) (by decide) (Rep.empty (by decide))
 rw [e] at this
 exact this
theorem ops_at {k : Nat} (h : k < 6) : [Value.int .i64 14,.int .i64 15,.int .i64 11,.int .i64 12,.int .i64 13,.int .i64 14][k]? = some (.int .i64 (([14,15,11,12,13,14] : List UInt8).getD k 14).toNat) := by
 match k,h with
 | 0,_ => rfl
 | 1,_ => rfl
 | 2,_ => rfl
 | 3,_ => rfl
 | 4,_ => rfl
 | 5,_ => rfl
set_option maxRecDepth 100000 in
theorem number_step (M : Mk) (hM : okM M) (d : Nat) (hd : d ≤ 3) (rec : Bs → Ex × Bs) (hrec : d ≤ 2 → NumOf rec M (d + 1)) : NumOf (numS M d rec) M d := by
 intro H w0 W bs b arV bv left by_ hb s
 unfold numS
 refine Sx.enterS Tryz.func135 rfl Tryz.ntmps135 rfl s ?_
 refine .sr<|.al Fx.zero51 Z fun b4 => .ns<|.m Z Z<|.cs (X := Value) Fx.call112 Z (fun W s => next_st 12 (by decide) hb  (s.pickT (hd := [_,_]) (tl := bs) (hd' := [_,_]) [1,0] Z Z)) Z fun z9 hz9 => ?_
 have hk12 := nextB_lt by_ (n := 12) (by decide)
 generalize (nextB by_ 12).1 = k at hk12 ⊢
 generalize (nextB by_ 12).2 = b1 at hz9 ⊢
 refine .a Z Z<|.nt<|.cu (X := Unit) [(0,_),(1,_),(4,_)] ⟨rfl,rfl,rfl,trivial⟩ (fun z => []) (fun z => H) (fun z => (.box b (mkC M arV z9 left) 126 :: .box b4 [.int .i64 0,.string ⟨#[]⟩,.int .i64 0,.slice none 0 0] 51 :: bs)) (fun z => ¬ (k < 2 ∨ (2 < d ∧ 5 < k)) ∧ ¬ (k < 4 ∨ (k = 4 ∧ M.params = 0)) ∧ ¬ k = 4 ∧ ¬ k = 5 ∧ ¬ (k = 6 ∧ 0 < M.tables) ∧ ¬ (k = 7 ∧ 0 < M.tables) ∧ ¬ k = 8) ?_ fun z hC => ?_
 ·
  refine .bk<|.cu (X := Bool) [(0,_),(1,_),(4,_),(5,_)] ⟨rfl,rfl,rfl,rfl,trivial⟩ (fun z => [(10,.bool z)]) (fun z => H) (fun z => (.box b (mkC M arV z9 left) 126 :: .box b4 [.int .i64 0,.string ⟨#[]⟩,.int .i64 0,.slice none 0 0] 51 :: bs)) (fun z => z = decide (k < 2 ∨ (2 < d ∧ 5 < k))) ?_ fun z hC => ?_
  ·
   refine .rg<|.m Z Z<|.yv (.lss Z Z) Z<|.m Z Z<|.b2 (fun h13 => ?_) (fun h13 => ?_)
   ·try simp only [dt] at h13
    exact .gF Z Z Z Z<|.gF Z Z Z Z<|.gF Z Z Z Z<|.gU Z Z Z<|.gU Z Z Z<|.gF Z Z Z Z<|.yv (.pickT Z Z) Z<|.a Z Z<|.nt<|.me _ ⟨rfl,trivial⟩ ⟨rfl,rfl,rfl,rfl,trivial⟩ (fun _ s => s) (by rw [Bool.eq_iff_iff,decide_eq_true_eq];first | (rw [decide_eq_true_eq];omega) | exact ⟨fun _ => by omega,fun _ => rfl⟩ | exact ⟨fun h => (by cases h),fun h => by omega⟩)
   try simp only [df] at h13
   refine .gd Z Z<|.yv (.move Z) Z<|.gd Z Z<|.yv (.gtr Z Z) Z<|.gd Z Z<|.yv (.move Z) Z<|.b2 (fun h16 => ?_) (fun h16 => ?_)
   ·try simp only [dt] at h16
    exact .gd Z Z<|.yv (.move Z) Z<|.gd Z Z<|.yv (.gtr Z Z) Z<|.gd Z Z<|.yv (.pickT Z Z) Z<|.yv (.pickF Z Z) Z<|.a Z Z<|.nt<|.me _ ⟨rfl,trivial⟩ ⟨rfl,rfl,rfl,rfl,trivial⟩ (fun _ s => s) (by rw [Bool.eq_iff_iff,decide_eq_true_eq];first | (rw [decide_eq_true_eq];omega) | exact ⟨fun _ => by omega,fun _ => rfl⟩ | exact ⟨fun h => (by cases h),fun h => by omega⟩)
   try simp only [df] at h16
   exact .gF Z Z Z Z<|.gF Z Z Z Z<|.gd Z Z<|.yv (.pickF Z Z) Z<|.yv (.pickF Z Z) Z<|.a Z Z<|.nt<|.me _ ⟨rfl,trivial⟩ ⟨rfl,rfl,rfl,rfl,trivial⟩ (fun _ s => s) (by rw [Bool.eq_iff_iff,decide_eq_true_eq];first | (rw [decide_eq_true_eq];omega) | exact ⟨fun _ => by omega,fun _ => rfl⟩ | exact ⟨fun h => (by cases h),fun h => by omega⟩)
  have e10 := hC
  refine .cd Z (fun h10 => ?_) (fun h10 => ?_)
  ·have q10 : k < 2 ∨ (2 < d ∧ 5 < k) := by rw [h10] at e10;exact of_decide_eq_true e10.symm
   refine .sr<|.m Z Z<|.cs (X := Value) Fx.call112 Z (fun W s => next_st 9 (by decide) hz9  (s.pickT (hd := [_,_]) (tl := bs) (hd' := [_,_]) [0,1] Z Z)) Z fun z22 hz22 => .yv (.build Z (Fx.bld51_0_2 _ _)) Z<|.sW (.tail<|.head) Z Z Fx.size51 (by simp [Value.oneCell',strV]) Z<|.nt<|.rt<|.bR<|.tR<|?_
   exact Sx.ret1 (.inl rfl) rfl (.cell rfl Fx.agg51 (.tail _<|.head _) rfl) fun W t => ⟨(_,_,H),by rw [show numT M d rec k b1 = _ from by rw [numT,if_pos (by omega)]];exact ⟨.refl,rep_num (nextB_lt _ (by decide)),hz22⟩,rfl,(t.pickT (hd := [_,_]) (tl := bs) (hd' := [_]) [0] rfl rfl)⟩
  have q10 : ¬ (k < 2 ∨ (2 < d ∧ 5 < k)) := by rw [h10] at e10;exact of_decide_eq_false e10.symm
  refine .cu (X := Bool) [(0,_),(1,_),(4,_),(5,_)] ⟨rfl,rfl,rfl,rfl,trivial⟩ (fun z => [(24,.bool z)]) (fun z => H) (fun z => (.box b (mkC M arV z9 left) 126 :: .box b4 [.int .i64 0,.string ⟨#[]⟩,.int .i64 0,.slice none 0 0] 51 :: bs)) (fun z => z = decide (k < 4 ∨ (k = 4 ∧ M.params = 0))) ?_ fun z hC => ?_
  ·
   refine .rg<|.m Z Z<|.yv (.lss Z Z) Z<|.m Z Z<|.b2 (fun h27 => ?_) (fun h27 => ?_)
   ·try simp only [dt] at h27
    exact .gF Z Z Z Z<|.gF Z Z Z Z<|.gF Z Z Z Z<|.gU Z Z Z<|.gU Z Z Z<|.gU Z Z Z<|.gU Z Z Z<|.gU Z Z Z<|.gF Z Z Z Z<|.yv (.pickT Z Z) Z<|.a Z Z<|.nt<|.me _ ⟨rfl,trivial⟩ ⟨rfl,rfl,rfl,rfl,trivial⟩ (fun _ s => s) (by rw [Bool.eq_iff_iff,decide_eq_true_eq];first | (rw [decide_eq_true_eq];omega) | exact ⟨fun _ => by omega,fun _ => rfl⟩ | exact ⟨fun h => (by cases h),fun h => by omega⟩)
   try simp only [df] at h27
   refine .gd Z Z<|.yv (.move Z) Z<|.gd Z Z<|.yv (.eql Z Z) Z<|.gd Z Z<|.yv (.move Z) Z<|.b2 (fun h30 => ?_) (fun h30 => ?_)
   ·try simp only [dt] at h30
    exact .gd Z Z<|.yv (.move Z) Z<|.gd Z Z<|.yv (.nilCheck Z) Z<|.gd Z Z<|.yv (.fieldAddr Z Fx.field126_5) Z<|.gd Z Z<|.yv (.load Z Fx.agg3 (.head _) Z) Z<|.gd Z Z<|.yv (.eql Z Z) Z<|.gd Z Z<|.yv (.pickT Z Z) Z<|.yv (.pickF Z Z) Z<|.a Z Z<|.nt<|.me _ ⟨rfl,trivial⟩ ⟨rfl,rfl,rfl,rfl,trivial⟩ (fun _ s => s) (by rw [Bool.eq_iff_iff,decide_eq_true_eq];first | (rw [decide_eq_true_eq];omega) | exact ⟨fun _ => by omega,fun _ => rfl⟩ | exact ⟨fun h => (by cases h),fun h => by omega⟩)
   try simp only [df] at h30
   exact .gF Z Z Z Z<|.gF Z Z Z Z<|.gF Z Z Z Z<|.gF Z Z Z Z<|.gF Z Z Z Z<|.gd Z Z<|.yv (.pickF Z Z) Z<|.yv (.pickF Z Z) Z<|.a Z Z<|.nt<|.me _ ⟨rfl,trivial⟩ ⟨rfl,rfl,rfl,rfl,trivial⟩ (fun _ s => s) (by rw [Bool.eq_iff_iff,decide_eq_true_eq];first | (rw [decide_eq_true_eq];omega) | exact ⟨fun _ => by omega,fun _ => rfl⟩ | exact ⟨fun h => (by cases h),fun h => by omega⟩)
  have e24 := hC
  refine .cd Z (fun h24 => ?_) (fun h24 => ?_)
  ·have q24 : k < 4 ∨ (k = 4 ∧ M.params = 0) := by rw [h24] at e24;exact of_decide_eq_true e24.symm
   refine .sr<|.m Z Z<|.cs (X := Value × Hp) Fx.call137 Z (fun W s => integer_st hM hz9  (s.pickT (hd := [_,_]) (tl := bs) (hd' := [_,_]) [0,1] Z Z)) Z fun z39 hz39 => .yv (.build Z (Fx.bld51_0_1 _ _)) Z<|.sW (.tail<|.head) Z Z Fx.size51 (by simp [Value.oneCell',strV]) Z<|.nt<|.rt<|.bR<|.tR<|?_
   exact Sx.ret1 (.inl rfl) rfl (.cell rfl Fx.agg51 (.tail _<|.head _) rfl) fun W t => ⟨(_,_,z39.2),by rw [show numT M d rec k b1 = _ from by rw [numT,if_neg (by omega),if_pos (by omega)]];exact ⟨hz39.1,ex_shut (args := []) (by simp [nmB]) (Rep.empty (by decide)),hz39.2⟩,rfl,(t.pickT (hd := [_,_]) (tl := bs) (hd' := [_]) [0] rfl rfl)⟩
  have q24 : ¬ (k < 4 ∨ (k = 4 ∧ M.params = 0)) := by rw [h24] at e24;exact of_decide_eq_false e24.symm
  refine .sr<|.m Z Z<|.yv (.eql Z Z) Z<|.a Z Z<|.nt<|.cd Z (fun h41 => ?_) (fun h41 => ?_)
  ·try simp only [dt] at h41
   refine .sq<|.fl (trip := [(_,_,_),(_,_,_),(_,_,_),(_,_,_),(_,_,_),(_,_,_),(_,_,_),(_,_,_),(_,_,_),(_,_,_)]) 10 [(1,0),(2,0),(3,0),(4,0),(5,0),(0,1),(6,2),(7,0),(8,0),(9,0)] (by kernel_rfl) (by kernel_rfl) Z<|.m Z Z<|.m Z Z<|.yv (.nilCheck Z) Z<|.yv (.fieldAddr Z Fx.field126_5) Z<|.yv (.load Z Fx.agg3 (.head _) Z) Z<|.ct (X := Value) Fx.call41 Z (fun W s => names_any H 112 2 (by omega) W s.agr) Z fun v44 H44 hn44 u44 => ?_
   obtain ⟨pn44,cn44,e44,_⟩ := hn44.sl
   simp only [List.cons.injEq,and_true,List.length_map,namesB_len] at e44
   subst e44
   obtain ⟨bE,oE,hpE,mE⟩ := name_at hn44 (k := (nextB b1 M.params).1) (by have := nextB_lt b1 (n := M.params) (by omega);have := hM.2.2.1;omega)
   subst hpE
   refine .cs (X := Value) Fx.call112 Z (fun W s => next_st M.params (by omega) (hz9.up u44.up)  (s.pickT (hd := [_,_]) (tl := bs) (hd' := [_,_]) [0,1] Z Z)) Z fun z50 hz50 => .yv (.indexSl Fx.sl66 Z Z (i := (nextB b1 M.params).1) Z (by have := nextB_lt b1 (n := M.params) (by omega);have := hM.2.2.1;omega) (q := oE + (nextB b1 M.params).1 * 1) Z) Z<|.yv (.loadM Z Fx.agg9 mE (k := 0) Z Z) Z<|.yv (.build Z (Fx.bld51_0_1 _ _)) Z<|.fn (tl := [_]) Z<|.sW (.tail<|.head) Z Z Fx.size51 (by simp [Value.oneCell',strV]) Z<|.nt<|.rt<|.bR<|.tR<|?_
   exact Sx.ret1 (.inl rfl) rfl (.cell rfl Fx.agg51 (.tail _<|.head _) rfl) fun W t => ⟨(_,_,H44),by rw [show numT M d rec k b1 = _ from by rw [numT,if_neg (by omega),if_neg (by omega),if_pos (by omega)]];exact ⟨u44,ex_shut (args := []) (by simp [nmB]) (Rep.empty (by decide)),hz50⟩,rfl,(t.pickT (hd := [_,_]) (tl := bs) (hd' := [_]) [0] rfl rfl)⟩
  try simp only [df] at h41
  refine .sr<|.m Z Z<|.yv (.eql Z Z) Z<|.a Z Z<|.nt<|.cd Z (fun h54 => ?_) (fun h54 => ?_)
  ·try simp only [dt] at h54
   refine .sr<|.yv (.build Z (Fx.bld51_0 _)) Z<|.sW (.tail<|.head) Z Z Fx.size51 (by simp [Value.oneCell',strV]) Z<|.nt<|.rt<|.bR<|.tR<|?_
   exact Sx.ret1 (.inl rfl) rfl (.cell rfl Fx.agg51 (.tail _<|.head _) rfl) fun W t => ⟨(_,_,H),by rw [show numT M d rec k b1 = _ from by rw [numT,if_neg (by omega),if_neg (by omega),if_neg (by omega),if_pos (by omega)]];exact ⟨.refl,ex_shut (args := []) (nm := []) (by decide) (Rep.empty (by decide)),hz9⟩,rfl,(t.pickT (hd := [_,_]) (tl := bs) (hd' := [_]) [0] rfl rfl)⟩
  try simp only [df] at h54
  refine .cu (X := Bool) [(0,_),(1,_),(4,_),(5,_)] ⟨rfl,rfl,rfl,rfl,trivial⟩ (fun z => [(58,.bool z)]) (fun z => H) (fun z => (.box b (mkC M arV z9 left) 126 :: .box b4 [.int .i64 0,.string ⟨#[]⟩,.int .i64 0,.slice none 0 0] 51 :: bs)) (fun z => z = decide (k = 6 ∧ 0 < M.tables)) ?_ fun z hC => ?_
  ·
   refine .rg<|.m Z Z<|.yv (.eql Z Z) Z<|.m Z Z<|.b2 (fun h61 => ?_) (fun h61 => ?_)
   ·try simp only [dt] at h61
    exact .gd Z Z<|.yv (.move Z) Z<|.gd Z Z<|.yv (.nilCheck Z) Z<|.gd Z Z<|.yv (.fieldAddr Z Fx.field126_1) Z<|.gd Z Z<|.yv (.load Z Fx.agg3 (.head _) Z) Z<|.gd Z Z<|.yv (.gtr Z Z) Z<|.yv (.pickT Z Z) Z<|.a Z Z<|.nt<|.me _ ⟨rfl,trivial⟩ ⟨rfl,rfl,rfl,rfl,trivial⟩ (fun _ s => s) (by rw [Bool.eq_iff_iff,decide_eq_true_eq];first | (rw [decide_eq_true_eq];omega) | exact ⟨fun _ => by omega,fun _ => rfl⟩ | exact ⟨fun h => (by cases h),fun h => by omega⟩)
   try simp only [df] at h61
   exact .gF Z Z Z Z<|.gF Z Z Z Z<|.gF Z Z Z Z<|.gF Z Z Z Z<|.gF Z Z Z Z<|.yv (.pickF Z Z) Z<|.a Z Z<|.nt<|.me _ ⟨rfl,trivial⟩ ⟨rfl,rfl,rfl,rfl,trivial⟩ (fun _ s => s) (by rw [Bool.eq_iff_iff,decide_eq_true_eq];first | (rw [decide_eq_true_eq];omega) | exact ⟨fun _ => by omega,fun _ => rfl⟩ | exact ⟨fun h => (by cases h),fun h => by omega⟩)
  have e58 := hC
  refine .cd Z (fun h58 => ?_) (fun h58 => ?_)
  ·have q58 : k = 6 ∧ 0 < M.tables := by rw [h58] at e58;exact of_decide_eq_true e58.symm
   refine .sr<|.m Z Z<|.m Z Z<|.yv (.add Z Z (c := ((d + 1 : Nat) : Int)) ((w6 (by omega)).trans (by omega))) Z<|.cs (X := List Value × Value × Hp) Fx.call135 Z (fun W s => hrec (by omega) H w0 W _ b arV _ left b1 hz9  (s.pickT (hd := [_,_]) (tl := bs) (hd' := [_,_]) [0,1] Z Z)) Z fun z71 hz71 => ?_
   obtain ⟨x71,v71,H71⟩ := z71
   obtain ⟨u71,r71,q71⟩ := hz71
   dsimp only at u71 r71 q71 ⊢
   generalize hE71 : (rec b1).1 = e71 at r71
   obtain ⟨op71,nm71,n71,a71⟩ := e71
   obtain ⟨p71,c71,rfl,hs71,hl71⟩ := ex_open r71
   refine .bl Z (Fx.bsl49_1 _ _ _ _) Z fun b72 => .yv (.build Z (Fx.bld51_0_1_3 _ _ _ _ _)) Z<|.sW (.tail<|.tail<|.head) Z Z Fx.size51 (by simp [Value.oneCell',strV]) Z<|.nt<|.rt<|.bR<|.tR<|?_
   refine At.pt (hd := [_,_,_]) (tl := bs) (hd' := [_,_,_]) [0,2,1] rfl rfl ?_
   refine Sx.freezeBox fun Hf uf mf => ?_
   exact Sx.ret1 (.inl rfl) rfl (.cell rfl Fx.agg51 (.head _) rfl) fun W t => ⟨(_,_,Hf),by rw [show numT M d rec k b1 = _ from by rw [numT,if_neg (by omega),if_neg (by omega),if_neg (by omega),if_neg (by omega),if_pos (by omega)],hE71];exact ⟨u71.trans uf,ex_shut (nm := [116,48]) (args := [.mk op71 nm71 n71 a71]) (by decide) (Rep.mk (n := 1) (c := 1) mf (.single (r71.up uf.up) rfl) rfl (Nat.le_refl _) (by decide)),q71.up uf.up⟩,rfl,t.drop⟩
  have q58 : ¬ (k = 6 ∧ 0 < M.tables) := by rw [h58] at e58;exact of_decide_eq_false e58.symm
  refine .cu (X := Bool) [(0,_),(1,_),(4,_),(5,_)] ⟨rfl,rfl,rfl,rfl,trivial⟩ (fun z => [(74,.bool z)]) (fun z => H) (fun z => (.box b (mkC M arV z9 left) 126 :: .box b4 [.int .i64 0,.string ⟨#[]⟩,.int .i64 0,.slice none 0 0] 51 :: bs)) (fun z => z = decide (k = 7 ∧ 0 < M.tables)) ?_ fun z hC => ?_
  ·
   refine .rg<|.m Z Z<|.yv (.eql Z Z) Z<|.m Z Z<|.b2 (fun h77 => ?_) (fun h77 => ?_)
   ·try simp only [dt] at h77
    exact .gd Z Z<|.yv (.move Z) Z<|.gd Z Z<|.yv (.nilCheck Z) Z<|.gd Z Z<|.yv (.fieldAddr Z Fx.field126_1) Z<|.gd Z Z<|.yv (.load Z Fx.agg3 (.head _) Z) Z<|.gd Z Z<|.yv (.gtr Z Z) Z<|.yv (.pickT Z Z) Z<|.a Z Z<|.nt<|.me _ ⟨rfl,trivial⟩ ⟨rfl,rfl,rfl,rfl,trivial⟩ (fun _ s => s) (by rw [Bool.eq_iff_iff,decide_eq_true_eq];first | (rw [decide_eq_true_eq];omega) | exact ⟨fun _ => by omega,fun _ => rfl⟩ | exact ⟨fun h => (by cases h),fun h => by omega⟩)
   try simp only [df] at h77
   exact .gF Z Z Z Z<|.gF Z Z Z Z<|.gF Z Z Z Z<|.gF Z Z Z Z<|.gF Z Z Z Z<|.yv (.pickF Z Z) Z<|.a Z Z<|.nt<|.me _ ⟨rfl,trivial⟩ ⟨rfl,rfl,rfl,rfl,trivial⟩ (fun _ s => s) (by rw [Bool.eq_iff_iff,decide_eq_true_eq];first | (rw [decide_eq_true_eq];omega) | exact ⟨fun _ => by omega,fun _ => rfl⟩ | exact ⟨fun h => (by cases h),fun h => by omega⟩)
  have e74 := hC
  refine .cd Z (fun h74 => ?_) (fun h74 => ?_)
  ·have q74 : k = 7 ∧ 0 < M.tables := by rw [h74] at e74;exact of_decide_eq_true e74.symm
   refine .sr<|.yv (.build Z (Fx.bld51_0_1 _ _)) Z<|.sW (.tail<|.head) Z Z Fx.size51 (by simp [Value.oneCell',strV]) Z<|.nt<|.rt<|.bR<|.tR<|?_
   exact Sx.ret1 (.inl rfl) rfl (.cell rfl Fx.agg51 (.tail _<|.head _) rfl) fun W t => ⟨(_,_,H),by rw [show numT M d rec k b1 = _ from by rw [numT,if_neg (by omega),if_neg (by omega),if_neg (by omega),if_neg (by omega),if_neg (by omega),if_pos (by omega)]];exact ⟨.refl,ex_shut (args := []) (nm := [116,48]) (by decide) (Rep.empty (by decide)),hz9⟩,rfl,(t.pickT (hd := [_,_]) (tl := bs) (hd' := [_]) [0] rfl rfl)⟩
  have q74 : ¬ (k = 7 ∧ 0 < M.tables) := by rw [h74] at e74;exact of_decide_eq_false e74.symm
  refine .sr<|.m Z Z<|.yv (.eql Z Z) Z<|.a Z Z<|.nt<|.cd Z (fun h85 => ?_) (fun h85 => ?_)
  ·try simp only [dt] at h85
   refine .sr<|.m Z Z<|.m Z Z<|.yv (.add Z Z (w6 (by omega))) Z<|.cs (X := List Value × Value × Hp) Fx.call135 Z (fun W s => hrec (by omega) H w0 W _ b arV _ left b1 hz9  (s.pickT (hd := [_,_]) (tl := bs) (hd' := [_,_]) [0,1] Z Z)) Z fun z91 hz91 => ?_
   obtain ⟨x91,v91,H91⟩ := z91
   obtain ⟨u91,r91,q91⟩ := hz91
   dsimp only at u91 r91 q91 ⊢
   generalize hE91 : (rec b1).1 = e91 at r91
   obtain ⟨op91,nm91,n91,a91⟩ := e91
   obtain ⟨p91,c91,rfl,hs91,hl91⟩ := ex_open r91
   refine .bl Z (Fx.bsl49_1 _ _ _ _) Z fun b92 => .yv (.build Z (Fx.bld51_0_3 _ _ _ _)) Z<|.sW (.tail<|.tail<|.head) Z Z Fx.size51 (by simp [Value.oneCell',strV]) Z<|.nt<|.rt<|.bR<|.tR<|?_
   refine At.pt (hd := [_,_,_]) (tl := bs) (hd' := [_,_,_]) [0,2,1] rfl rfl ?_
   refine Sx.freezeBox fun Hf uf mf => ?_
   exact Sx.ret1 (.inl rfl) rfl (.cell rfl Fx.agg51 (.head _) rfl) fun W t => ⟨(_,_,Hf),by rw [show numT M d rec k b1 = _ from by rw [numT,if_neg (by omega),if_neg (by omega),if_neg (by omega),if_neg (by omega),if_neg (by omega),if_neg (by omega),if_pos (by omega)],hE91];exact ⟨u91.trans uf,ex_shut (nm := []) (args := [.mk op91 nm91 n91 a91]) (by decide) (Rep.mk (n := 1) (c := 1) mf (.single (r91.up uf.up) rfl) rfl (Nat.le_refl _) (by decide)),q91.up uf.up⟩,rfl,t.drop⟩
  try simp only [df] at h85
  exact .sk<|.bN<|.tN<|.me () trivial ⟨rfl,rfl,rfl,trivial⟩ (fun _ s => s) (by omega)
 obtain ⟨hc1,hc2,hc3,hc4,hc5,hc6,hc7⟩ := hC
 refine .sr<|.bl Z (Fx.bsl123_6 _ _ _ _ _ _) Z fun b94 => .m Z Z<|.cs (X := Value) Fx.call112 Z (fun W s => next_st 6 (by decide) hz9  (s.pickT (hd := [_,_,_]) (tl := bs) (hd' := [_,_,_]) [1,0,2] Z Z)) Z fun z96 hz96 => .yv (.indexSl Fx.sl123 Z Z (i := (nextB b1 6).1) Z (by have := nextB_lt b1 (n := 6) (by decide);omega) (q := (nextB b1 6).1) (by omega)) Z<|.yv (.load (v := .int .i64 (([14,15,11,12,13,14] : List UInt8).getD (nextB b1 6).1 14).toNat) Z Fx.agg3 (.tail _<|.head _) (ops_at (nextB_lt b1 (n := 6) (by decide)))) Z<|.a Z Z<|.ns<|.m Z Z<|.m Z Z<|.yv (.add Z Z (w6 (by omega))) Z<|.cs (X := List Value × Value × Hp) Fx.call135 Z (fun W s => hrec (by omega) H w0 W _ b arV _ left (nextB b1 6).2 hz96  (s.pickT (hd := [_,_,_]) (tl := bs) (hd' := [_,_,_]) [0,1,2] Z Z)) Z fun z102 hz102 => ?_
 obtain ⟨x102,v102,H102⟩ := z102
 obtain ⟨u102,r102,q102⟩ := hz102
 dsimp only at u102 r102 q102 ⊢
 generalize hE102 : (rec (nextB b1 6).2).1 = e102 at r102
 obtain ⟨op102,nm102,n102,a102⟩ := e102
 obtain ⟨p102,c102,rfl,hs102,hl102⟩ := ex_open r102
 refine .al Fx.zero51 Z fun b7 => .sW .head Z Z Fx.size51 (by simp [Value.oneCell',strV]) Z<|.nt<|.sq<|.fl (trip := [(_,_,_),(_,_,_),(_,_,_),(_,_,_),(_,_,_),(_,_,_),(_,_,_),(_,_,_)]) 8 [(0,0),(1,0),(2,0),(3,0),(4,0),(5,3),(6,1),(7,0)] (by kernel_rfl) (by kernel_rfl) Z<|.m Z Z<|.yv (.loadW Z Fx.agg51 (.head _) Z) Z<|.m Z Z<|.m Z Z<|.yv (.add Z Z (w6 (by omega))) Z<|.c3 (X := List Value × Value × Hp) Fx.call135 Z (fun W s => hrec (by omega) H102 w0 W _ b arV _ left (rec (nextB b1 6).2).2 q102  (s.pickT (hd := [_,_,_,_]) (tl := bs) (hd' := [_,_,_,_]) [1,0,2,3] Z Z)) Z (fun z108 hz108 => (.done (by kernel_rfl)<|.done (by kernel_rfl)<|.done (by kernel_rfl)<|.yv (.loadW Z Fx.agg51 (.tail _<|.head _) Z)<|.yv (.move Z)<|.nl)) fun z108 hz108 => ?_
 obtain ⟨x108,v108,H108⟩ := z108
 obtain ⟨u108,r108,q108⟩ := hz108
 dsimp only at u108 r108 q108 ⊢
 generalize hE108 : (rec (rec (nextB b1 6).2).2).1 = e108 at r108
 obtain ⟨op108,nm108,n108,a108⟩ := e108
 obtain ⟨p108,c108,rfl,hs108,hl108⟩ := ex_open r108
 refine .bl Z (Fx.bsl49_2 _ _ _ _ _ _ _ _) Z fun b109 => .yv (.build Z (Fx.bld51_0_3 _ _ _ _)) Z<|.fn (tl := [_]) Z<|.sW (.tail<|.tail<|.tail<|.tail<|.head) Z Z Fx.size51 (by simp [Value.oneCell',strV]) Z<|.nt<|.rt<|?_
 refine At.pt (hd := [_,_,_,_,_]) (tl := bs) (hd' := [_,_,_]) [0,4,1] rfl rfl ?_
 refine Sx.freezeBox fun Hf uf mf => ?_
 exact Sx.ret1 (.inl rfl) rfl (.cell rfl Fx.agg51 (.head _) rfl) fun W t => ⟨(_,_,Hf),by rw [show numT M d rec k b1 = _ from by rw [numT,if_neg (by omega),if_neg (by omega),if_neg (by omega),if_neg (by omega),if_neg (by omega),if_neg (by omega),if_neg (by omega)],hE102,hE108];exact ⟨(u102.trans u108).trans uf,ex_shut (nm := []) (args := [.mk op102 nm102 n102 a102,.mk op108 nm108 n108 a108]) (by decide) (Rep.mk (n := 2) (c := 2) mf (RepZ.app (RepZ.single ((r102.up u108.up).up uf.up) rfl) (RepZ.single (r108.up uf.up) rfl)) rfl (Nat.le_refl _) (by decide)),q108.up uf.up⟩,rfl,t.drop⟩
end Go.Proofs.YtmbiojpcidccjaaGreatDoor
