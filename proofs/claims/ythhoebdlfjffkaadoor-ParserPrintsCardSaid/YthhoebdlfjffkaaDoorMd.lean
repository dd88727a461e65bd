/- Texts of the proof, one behind the other. -/
import Derived.Test.YthhoebdlfjffkaaDoorMc
import Derived.RangeFuncNested
import Derived.RangeFuncLeaves
import Derived.RangeFuncCalls
import Derived.OwnWalkIn
import Derived.TacticsIn
import Derived.OrdersIn
set_option linter.all false
namespace Go.Sx
open Go.RowKit Go.Par
class FW (F : Fence) : Prop where
 fn : ∀ f,F.fn f
 depth : F.depth = none
 calls : ∀ {n : Nat} {P : Program} {f : FuncId} {args : Array Value} {w : World} {R : Ending → World → Prop},Calls P f args w R → CallsIn F n P f args w R
 rows : ∀ {n : Nat} {P : Program} {r : String} {args : Array Value} {w : World} {R : Value → World → Prop},Rows P r args w R → RowsIn F n P r args w R
instance : FW Fence.wide := ⟨fun _ => trivial,rfl,fun h => callsIn_wide.2 h,fun h c cs _ => let ⟨v,w',r,s⟩ := h c cs;⟨v,w',r,stepsIn_wide.2 s⟩⟩
instance {l : Nat} : FW (Fence.wide.inRound l) := ⟨fun _ => trivial,rfl,fun h => CallsIn.inRound l (callsIn_wide.2 h),fun h c cs _ => let ⟨v,w',r,s⟩ := h c cs;⟨v,w',r,stepsIn_wide.2 s⟩⟩
section
variable {dfs : List Deferred} {P : Program} {n m : Nat} {L : Sl} {H : Hp} {w0 : World} {bs : List Res} {Q : Exit → Act → World → Prop} {ops : Array Oper} {rest : List Oper} {K : Act → World → Prop} {F : Fence}
variable {d : Option Tmp} {ty : TypeId} {pos : String} {aft : Array Edge} {g : Option (Nat × Bool)} {v : Value} {t : Tmp} {op : Op} {x y : Operand} {T : TypeId}
theorem wpIn_of_wp [hF : FW F] {o : Oper} {a : Act} {w : World} (hd : ∀ c,o.op ≠ .defer c) (h : o.wp P a w K (fun _ _ _ => False)) : o.wpIn F m P a w K Q := by
 unfold Oper.wpIn
 refine ⟨fun f _ => hF.fn f,?_⟩
 rw [Oper.semAt_plain F _ _ hd]
 unfold Oper.wp at h
 generalize (execOp a.eval o).run P w = r at *
 cases r with
 | ok z w' =>
  cases z <;> simp only [Oper.upon] at h <;> simp only [Oper.uponIn]
  case value u => exact h
  case skip => exact h
  case defer d => exact h
  case enter f args =>
   refine ⟨fun e => (by rw [hF.depth] at e;cases e),hF.calls (h.mono ?_)⟩
   intro e w'' q
   cases e with
   | returned v => exact q
   | panicked c => exact q.elim
   | outgrown => obtain ⟨_,_,q⟩ := q;exact q.elim
  case row rw args => exact ⟨fun e => (by rw [hF.depth] at e;cases e),hF.rows h⟩
 | halt z w' =>
  cases z <;> simp only [Oper.upon] at h
theorem consI [hF : FW F] {o : Oper} (hd : ∀ c,o.op ≠ .defer c) (h : At dfs n L H w0 bs (one P ops (fun _ _ _ => False) o (wpListIn F m P ops Q rest))) : At dfs n L H w0 bs (wpListIn F m P ops Q (o :: rest)) := by
 intro a W f s
 have h1 := h a W f s
 unfold one at h1
 unfold wpListIn
 cases hw : Region.wanted o (yielded ops a.tmps) with
 | true =>
  rw [hw] at h1
  simp only [if_true] at h1 ⊢
  rcases h1 with h1 | ⟨_,_,_,h1⟩
  ·exact wpIn_of_wp hd h1
  ·exact h1.elim
 | false =>
  rw [hw] at h1
  simp only [Bool.false_eq_true,if_false] at h1 ⊢
  exact ⟨fun f _ => hF.fn f,h1⟩
theorem At.rgI {id : Nat} {l : List Oper} (h : At dfs n L H w0 bs (wpListIn F m P l.toArray Q l)) : At dfs n L H w0 bs ((Code.region id l.toArray false).wpIn F m P Q) := fun a W f s => wpIn_region_lit (h a W f s)
theorem At.rgW {id : Nat} {l : List Oper} (m : Nat) (h : At dfs n L H w0 bs (wpListIn Fence.wide m P l.toArray Q l)) : At dfs n L H w0 bs ((Code.region id l.toArray false).wp P Q) := fun a W f s => wpIn_wide.1 (wpIn_region_lit (h a W f s))
theorem At.nlI (h : At dfs n L H w0 bs (Q .normal)) : At dfs n L H w0 bs (wpListIn F m P ops Q []) := h
theorem At.yvI [FW F] (hy : Yl P L H w0 bs ⟨some t,op,ty,pos,aft,none⟩ v) (ht : Nat.blt t n = true) (h : At dfs n ((t,v) :: L) H w0 bs (wpListIn F m P ops Q rest)) (hd : ∀ c,op ≠ .defer c := by intro c e;cases e) : At dfs n L H w0 bs (wpListIn F m P ops Q (⟨some t,op,ty,pos,aft,none⟩ :: rest)) := consI hd (yl hy ht h)
theorem At.mI [FW F] (hx : ev L x = some v) (ht : Nat.blt t n = true) (h : At dfs n ((t,v) :: L) H w0 bs (wpListIn F m P ops Q rest)) : At dfs n L H w0 bs (wpListIn F m P ops Q (⟨some t,.move x,ty,pos,aft,none⟩ :: rest)) := .yvI (.move hx) ht h
theorem At.alI [FW F] {l : List Value} (hz : zeroN P T = some l) (ht : Nat.blt t n = true) (h : ∀ b,At dfs n ((t,.pointer (some ⟨b,0,none⟩)) :: L) H w0 (.box b l T :: bs) (wpListIn F m P ops Q rest)) : At dfs n L H w0 bs (wpListIn F m P ops Q (⟨some t,.alloc T,ty,pos,aft,none⟩ :: rest)) := consI (by intro c e;cases e) (alloc hz ht h)
theorem At.sWI [FW F] {b : Nat} {l vs : List Value} {t' : TypeId} {bs' : List Res} (hm : Upd bs (.box b l t') (.box b vs t') bs') (hp : ev L x = some (.pointer (some ⟨b,0,none⟩))) (hv : ev L y = some (.agg vs.toArray)) (hT : sizeN P T = some vs.length) (h1 : ∀ u ∈ vs,u.oneCell' = true) (ho : l.length = vs.length) (h : At dfs n L H w0 bs' (wpListIn F m P ops Q rest)) :
 At dfs n L H w0 bs (wpListIn F m P ops Q (⟨none,.store T x y,ty,pos,aft,none⟩ :: rest)) := consI (by intro c e;cases e) (storeW hp hv hT h1 hm ho h)
end
/-! ### The caller's side of a range over a function -/
section
variable {H : Hp} {w0 W W' : World} {bs : List Res}
theorem St.beside {row : Option Nat} (s : St H w0 bs W) (g : W.grownBy W' row) (hr : ∀ r,row = some r → w0.heap.size ≤ r ∧ H r = none ∧ ∀ x ∈ bs,x.blk ≠ some r) : St H w0 bs W' := by
 have hb : ∀ k,k < W.heap.size → (∀ r,row = some r → k ≠ r) → W'.heap[k]? = W.heap[k]? := fun k hk hn => g.block k hk (fun e => hn k e.symm rfl)
 refine ⟨?_,?_,?_,s.apart⟩
 ·have e := s.ext
  unfold Ext at e ⊢
  refine ⟨g.os.trans e.os,g.tape.trans e.tape,g.output.trans e.output,Nat.le_trans e.size g.size,fun k hk => ?_⟩
  exact (hb k (Nat.lt_of_lt_of_le hk e.size) (fun r e' h => by have := (hr r e').1;omega)).trans (e.block k hk)
 ·intro b o e
  have := s.agr b o e
  rw [hb b (block_lt this) (fun r e' h => by subst h;rw [(hr b e').2.1] at e;cases e)]
  exact this
 ·intro x hx
  exact ⟨(s.own x hx).1.keep g.size (fun b e => hb b ((s.own x hx).1.lt e).2 (fun r e' h => by subst h;exact (hr b e').2.2 x hx e)),(s.own x hx).2⟩
def nobj : List Res → Bool
 | [] => true
 | .box .. :: r => nobj r
 | .row .. :: r => nobj r
 | _ :: _ => false
theorem nobj_cells : ∀ {bs : List Res},nobj bs = true → ∀ x ∈ bs,∀ base,x.ok base W → ∀ b,x.blk = some b → ∃ o,W.heap[b]? = some o ∧ o.isCells = true
 | [],_,x,hx,_,_,_,_ => by cases hx
 | .box c l t :: r,h,x,hx,base,ho,b,e => by
  rcases List.mem_cons.1 hx with rfl | hx
  ·obtain rfl : c = b := Option.some.inj e
   exact ⟨_,ho.2,rfl⟩
  ·exact nobj_cells (bs := r) h x hx base ho b e
 | .row et size v n xs :: r,h,x,hx,base,ho,b,e => by
  rcases List.mem_cons.1 hx with rfl | hx
  ·obtain ⟨_,⟨rfl,_⟩ | ⟨g,cap,cur,rfl,hg,hc,_⟩⟩ := ho
   ·cases e
   ·obtain rfl : g = b := Option.some.inj e
    exact ⟨_,hc,rfl⟩
  ·exact nobj_cells (bs := r) h x hx base ho b e
 | .obj .. :: _,h,_,_,_,_,_,_ => by cases h
 | .big .. :: _,h,_,_,_,_,_,_ => by cases h
theorem nobj_ne (s : St H w0 bs W) (h : nobj bs = true) {r : Nat} {o : Obj} (ho : W.heap[r]? = some o) (hc : o.isCells = false) : ∀ x ∈ bs,x.blk ≠ some r := by
 intro x hx e
 obtain ⟨o',h1,h2⟩ := nobj_cells h x hx _ (s.own x hx).1 r e
 rw [ho] at h1;cases h1;rw [hc] at h2;cases h2
theorem ownSt {α Z : Type} {B : Nat} {C : List α → Z → Prop} {rs : Z → List Res} (hB : w0.heap.size ≤ B) (hH : ∀ r,B ≤ r → H r = none) (hn : ∀ pre z,C pre z → nobj (rs z) = true) :
 OwnFrom B (fun pre W => ∃ z,C pre z ∧ St H w0 (rs z) W) := by
 rintro pre X Y row ⟨z,hz,s⟩ hg hr
 exact ⟨z,hz,s.beside hg fun r e => by
  obtain ⟨h1,o,h2,h3⟩ := hr r e
  exact ⟨Nat.le_trans hB h1,hH r h1,nobj_ne s (hn _ _ hz) h2 h3⟩⟩
theorem St.less {H' : Hp} (s : St H' w0 bs W) (u : Up H H') : St H w0 bs W := ⟨s.ext,fun b o e => s.agr b o (u b o e),fun x hx => ⟨(s.own x hx).1,fun b e => by
 cases h : H b with
 | none => rfl
 | some o => have := (s.own x hx).2 b e;rw [u b o h] at this;cases this⟩,s.apart⟩
theorem St.front {tl : List Res} (s : St H w0 (bs ++ tl) W) : St H w0 bs W := ⟨s.ext,s.agr,fun x hx => s.own x (List.mem_append_left _ hx),(List.pairwise_append.1 s.apart).1⟩
def tailOf (B : Nat) (W : World) : List Res := .big W.heap.size :: (List.range' B (W.heap.size - B)).filterMap fun k => match W.heap[k]? with
 | some o => if o.isCells then none else some (.obj k o)
 | none => none
theorem mem_tailOf {B : Nat} {x : Res} (h : x ∈ tailOf B W) : x = .big W.heap.size ∨ ∃ k o,x = .obj k o ∧ W.heap[k]? = some o ∧ o.isCells = false ∧ B ≤ k := by
 rcases List.mem_cons.1 h with rfl | h
 ·exact .inl Z
 ·obtain ⟨k,hk,he⟩ := List.mem_filterMap.1 h
  cases ho : W.heap[k]? with
  | none => rw [ho] at he;cases he
  | some o =>
   rw [ho] at he
   cases hc : o.isCells with
   | true => simp [hc] at he
   | false => exact .inr ⟨k,o,by simpa [hc] using he.symm,ho,hc,by have := List.mem_range'_1.1 hk;omega⟩
theorem St.tailOf {B : Nat} (s : St H w0 bs W) (hn : nobj bs = true) (hB : w0.heap.size ≤ B) (hH : ∀ r,B ≤ r → H r = none) : St H w0 (bs ++ tailOf B W) W := by
 refine ⟨s.ext,s.agr,?_,List.pairwise_append.2 ⟨s.apart,?_,?_⟩⟩
 ·intro x hx
  rcases List.mem_append.1 hx with hx | hx
  ·exact s.own x hx
  ·rcases mem_tailOf hx with rfl | ⟨k,o,rfl,ho,hc,hk⟩
   ·exact ⟨Nat.le_refl _,fun b e => by cases e⟩
   ·exact ⟨⟨Nat.le_trans hB hk,ho⟩,fun b e => by obtain rfl : k = b := Option.some.inj e;exact hH k hk⟩
 ·refine .cons (fun y _ b e => by cases e) ?_
  refine List.Pairwise.filterMap _ ?_ (List.pairwise_lt_range' (s := B) (n := W.heap.size - B))
  intro k j hlt x hx y hy b e e'
  have key : ∀ (m : Nat) (u : Res),(match W.heap[m]? with | some o => if o.isCells then none else some (Res.obj m o) | none => none) = some u → u.blk = some m := by
   intro m u hu
   cases ho : W.heap[m]? with
   | none => rw [ho] at hu;cases hu
   | some o =>
    rw [ho] at hu
    cases hc : o.isCells with
    | true => simp [hc] at hu
    | false =>
     simp [hc] at hu
     rw [← hu];rfl
  have h1 := key k x hx
  have h2 := key j y hy
  rw [h1] at e;rw [h2] at e'
  cases e;cases e'
  omega
 ·intro x hx y hy b e e'
  rcases mem_tailOf hy with rfl | ⟨k,o,rfl,ho,hc,hk⟩
  ·cases e'
  ·obtain rfl : k = b := Option.some.inj e'
   exact nobj_ne s hn ho hc x hx e
theorem St.keepsFrom {B : Nat} (s : St H w0 (bs ++ Sx.tailOf B W) W') : KeepsFrom B W W' := by
 refine ⟨?_,fun k o hk ho hc => ?_⟩
 ·exact (s.own _ (List.mem_append_right _ (List.mem_cons_self ..))).1
 ·have hm : Res.obj k o ∈ Sx.tailOf B W := by
   refine List.mem_cons_of_mem _ (List.mem_filterMap.2 ⟨k,List.mem_range'_1.2 ?_,?_⟩)
   ·have := block_lt ho
    omega
   ·rw [ho];simp [hc]
  exact ((s.own _ (List.mem_append_right _ hm)).1).2
def KpH (H : Hp) (W W' : World) : Prop := Agr H W → Agr H W'
def rE {α Z : Type} (C : List α → Z → Prop) (rs : Z → List Res) (H : Hp) (w0 : World) (tl : List Res) (xs : List α) : Exit → Act → World → Prop
 | .normal,_,W => ∃ z,C xs z ∧ St H w0 (rs z ++ tl) W
 | _,_,_ => False
theorem At.rE {α Z : Type} {C : List α → Z → Prop} {rs : Z → List Res} {tl : List Res} {xs : List α} {dfs : List Deferred} {n : Nat} {L : Sl} {H' : Hp} (z : Z) (u : Up H H') (hz : C xs z) (hb : bs = rs z ++ tl) :
 At dfs n L H' w0 bs (Sx.rE C rs H w0 tl xs .normal) := fun a W f s => ⟨z,hz,by rw [← hb];exact s.less u⟩
end
/-! ### A function with a range over a function in it -/
section
variable {P : Program} {n : Nat} {L : Sl} {H : Hp} {w0 : World} {bs bs' : List Res} {fn : Func} {R : Ending → World → Prop} {v : Value} {D : Nat}
theorem enterM {f : FuncId} {c : Code} {args : List Value} {w : World} (hf : P.funcs[f]? = some fn) (hb : fn.body = some c) (hn : fn.ntmps = n) (hl : Nat.ble args.length n = true) (hA : Agr H w)
 (h : At [] n (slots 0 args) H w [] (c.wp P (bodyPostM Fence.wide 9 P fn R))) : Calls P f args.toArray w R := by
 refine callsIn_wide.1 (callsIn_of_wp_marks (n := 9) hf hb trivial (wpIn_wide.2 (h _ _ ⟨?_,rfl,?_⟩ (.start hA))))
 ·have : args.length ≤ n := Nat.le_of_ble_eq_true hl
  simp [hn];omega
 ·intro t v e
  obtain ⟨_,h2⟩ := slots_at args 0 t v e
  rw [Nat.sub_zero] at h2
  have hlt : t < args.length := (List.getElem?_eq_some_iff.1 h2).1
  rw [Array.getD_eq_getD_getElem?]
  rw [Array.getElem?_append_left (by simpa using hlt)]
  simp [h2]
theorem St.shut {W : World} (s : St H w0 bs W) (u : Upd bs (.obj D (.deferred (some []))) (.obj D (.deferred none)) bs') : St H w0 bs' (W.putObj D (.deferred none)) := by
 obtain ⟨h1,h2⟩ := (s.own _ u.mem).1
 have hlt := block_lt h2
 have e := s.ext
 refine s.upd u ?_ (by simp [World.putObj]) ?_ ⟨h1,World.putObj_heap_same hlt⟩ (fun b e => .inl e)
 ·unfold Ext at e ⊢
  exact e.grown (grownBy_putObj' W D _) (by omega) (fun k e => by cases e;exact h1)
 ·intro b _ hne
  exact World.putObj_heap_other (fun h => hne (by rw [h];rfl))
theorem ret0M {e : Exit} (he : e = .ret ∨ e = .normal) (h : At [] n L H w0 bs (bodyPost P fn R e)) : At [] n L H w0 bs (bodyPostM Fence.wide 9 P fn R e) := by
 intro a W f s
 obtain ⟨h1,v,h2,h3⟩ : bodyPost P fn R .ret a W := by rcases he with rfl | rfl <;> exact h a W f s
 have h4 : LeavesInM Fence.wide 9 P fn a.tmps R a.defers .returning W := by
  rw [h1]
  exact ⟨v,h2,h3⟩
 rcases he with rfl | rfl <;> exact h4
theorem retM {e : Exit} (he : e = .ret ∨ e = .normal) (u : Upd bs (.obj D (.deferred (some []))) (.obj D (.deferred none)) bs') (h : At [] n L H w0 bs' (bodyPost P fn R .ret)) :
 At [{ target := .collected D,args := #[] }] n L H w0 bs (bodyPostM Fence.wide 9 P fn R e) := by
 intro a W f s
 obtain ⟨_,v,h2,h3⟩ := h { a with defers := [] } _ ⟨f.size,rfl,f.slot⟩ (s.shut u)
 have h4 : LeavesInM Fence.wide 9 P fn a.tmps R a.defers .returning W := by
  rw [f.defers]
  exact ⟨(by intro e;cases e),.inl ⟨D,_,rfl,run_takeDeferred (s.own _ u.mem).1.2,v,h2,h3⟩⟩
 rcases he with rfl | rfl <;> exact h4
end
/-! ### The iterator's side -/
section
variable {dfs : List Deferred} {P : Program} {n m l : Nat} {L : Sl} {H : Hp} {w0 : World} {bs : List Res} {Q : Exit → Act → World → Prop} {ops : Array Oper} {rest : List Oper} {F : Fence}
variable {d : Option Tmp} {ty : TypeId} {pos : String} {aft : Array Edge} {g : Option (Nat × Bool)} {t : Tmp} {x : Operand} {xs : List Operand} {vs : List Value} {ats : Array TypeId}
theorem Ext.grownBy {W W' : World} (e : Ext W W') : W.grownBy W' none := by
 unfold Ext at e
 exact ⟨e.os,e.tape,e.output,e.size,fun k hk _ => e.block k hk⟩
theorem AbidesFrom.ext {β : Type} {B : Nat} {J : β → World → Prop} (h : AbidesFrom B J) {s : β} {W W' : World} (hs : J s W) (e : Ext W W') : J s W' := h s W W' none hs (Ext.grownBy e) (fun r h => by cases h)
theorem exec_yield {a : Act} {W W' : World} {r : Next} (f0 : ∀ x u,ev L x = some u → a.eval x = u) (hx : ev L x = some (.func (.yield l) #[] #[])) (hv : evs L xs = some vs) (hr : (Instr.yield l vs.toArray).run P W = .ok r W') :
 (execOp a.eval ⟨d,.call ⟨.value x,xs.toArray,ats⟩,ty,pos,aft,g⟩).run P W = .ok r W' := by
 unfold execOp
 simp [resolve,Deferred.ofValue,f0 _ _ hx,invoke,evs_map f0 hv,hr]
theorem At.yd [hF : FW F] {J Jx : World → Prop} (hx : ev L x = some (.func (.yield l) #[] #[])) (hv : evs L xs = some vs) (ht : Nat.blt t n = true)
 (hy : ∀ W,St H w0 bs W → YieldAt F (m - 1) P l vs.toArray W fun e W' => (e = .returned (.bool true) ∧ J W' ∧ KpH H W W') ∨ (e = .returned (.bool false) ∧ Jx W'))
 (h1 : ∀ w1,J w1 → At dfs n ((t,.bool true) :: L) H w1 [] (wpListIn F m P ops Q rest))
 (h2 : ∀ w1,Jx w1 → At dfs n ((t,.bool false) :: L) (fun _ => none) w1 [] (wpListIn F m P ops Q rest)) :
 At dfs n L H w0 bs (wpListIn F m P ops Q (⟨some t,.call ⟨.value x,xs.toArray,ats⟩,ty,pos,aft,none⟩ :: rest)) := by
 intro a W f s
 unfold wpListIn
 rw [if_pos (by simp [Region.wanted])]
 unfold Oper.wpIn
 refine ⟨fun f _ => hF.fn f,?_⟩
 rw [Oper.semAt_plain F _ _ (by intro c e;cases e)]
 obtain ⟨fn,tmps,assign,body,hr,hR⟩ := hy W s
 rw [exec_yield (fun x u e => f.ev e) hx hv hr]
 refine ⟨fun e => (by rw [hF.depth] at e;cases e),hR.mono ?_⟩
 rintro e W' (⟨rfl,hj,hk⟩ | ⟨rfl,hj⟩)
 ·exact h1 W' hj _ _ (f.put ht _) (.start (hk s.agr))
 ·exact h2 W' hj _ _ (f.put ht _) (.start (fun b o e => by cases e))
theorem At.lj {c : Code} {X : Type} (L' : X → Sl) (J : X → World → Prop) (C : X → Prop) (μ : X → Nat) (x0 : X) (hC : C x0) (hL : Sub L (L' x0)) (hJ : J x0 w0)
 (round : ∀ x w1,C x → J x w1 → At dfs n (L' x) H w1 [] (c.wp P (Exit.then (fun a W => ∃ y w2,(C y ∧ μ y < μ x) ∧ J y w2 ∧ Fr dfs n (L' y) a ∧ St H w2 [] W) Q))) :
 At dfs n L H w0 [] ((Code.loop c).wp P Q) := by
 intro a W f s
 refine wp_loop_ghost (fun m a W => ∃ x w1,μ x = m ∧ C x ∧ J x w1 ∧ Fr dfs n (L' x) a ∧ St H w1 [] W) _ ⟨x0,w0,rfl,hC,hJ,f.sub hL,s⟩ ?_
 rintro m a W ⟨x,w1,rfl,hx,hj,f,s⟩
 refine wp_mono (round x w1 hx hj a W f s) fun e a' W' q => ?_
 cases e <;> first | exact q | skip
 obtain ⟨y,w2,⟨hy,hlt⟩,hj,fy,sy⟩ := q
 exact ⟨_,hlt,y,w2,rfl,hy,hj,fy,sy⟩
theorem At.aj {X : Type} {J : X → World → Prop} {L' : X → Sl} {C : X → Prop} {μ : X → Nat} {x : X} (y : X) (hC : C y) (hm : μ y < μ x) (hJ : J y w0) (hL : Sub L (L' y)) :
 At dfs n L H w0 [] (fun a W => ∃ y w2,(C y ∧ μ y < μ x) ∧ J y w2 ∧ Fr dfs n (L' y) a ∧ St H w2 [] W) := fun _ W f s => ⟨y,w0,⟨hC,hm⟩,hJ,f.sub hL,s⟩
theorem seqStops {α : Type} {gf : Nat} {lb : List Value} {enc : α → Value} {S : List α → Prop} {N : Nat} {w : World} {fn : Func} {c : Code} (hf : P.funcs[gf]? = some fn) (hb : fn.body = some c) (hn : fn.ntmps = n) (hl : Nat.ble (lb.length + 1) n = true)
 (hA : ∀ W,Ext w W → Agr H W)
 (h : ∀ l (J Jx : List α → World → Prop) W,(∀ s A B,J s A → Ext A B → J s B) → (∀ s A B,Jx s A → Ext A B → Jx s B) →
  (∀ pre x W1,J pre W1 → pre.length < N → YieldAt Fence.wide 7 P l #[enc x] W1 fun e W' => (e = .returned (.bool true) ∧ J (pre ++ [x]) W' ∧ KpH H W1 W') ∨ (e = .returned (.bool false) ∧ Jx (pre ++ [x]) W')) →
  J [] W → At [] n (slots 0 (.func (.yield l) #[] #[] :: lb)) H W [] (c.wp P (bodyPost P fn fun e W' => (∃ v,e = .returned v) ∧ ((∃ xs,S xs ∧ J xs W') ∨ (∃ pre,True ∧ Jx pre W'))))) :
 SeqStopsK Fence.wide 8 P gf lb.toArray (fun x => #[enc x]) (KpH H) S (fun _ => True) N w := by
 intro l J Jx W hW hJ hJx hY h0
 refine callsIn_wide.2 ?_
 have : (#[Value.func (.yield l) #[] #[]] ++ lb.toArray : Array Value) = (Value.func (.yield l) #[] #[] :: lb).toArray := by simp
 rw [this]
 exact enter hf hb hn hl (hA W (by unfold Ext;exact hW)) (h l J Jx W (fun s A B h e => Sx.AbidesFrom.ext hJ h e) (fun s A B h e => Sx.AbidesFrom.ext hJx h e) hY h0)
end
theorem Res.ok.base {b c : Nat} {W : World} {x : Res} (h : x.ok c W) (hb : b ≤ c) : x.ok b W := by
 cases x with
 | box d l t => exact ⟨Nat.le_trans hb h.1,h.2⟩
 | obj d o => exact ⟨Nat.le_trans hb h.1,h.2⟩
 | big d => exact h
 | row et size v n xs =>
  obtain ⟨hl,⟨rfl,h0⟩ | ⟨g,cap,cur,rfl,hg,hc,hr⟩⟩ := h
  ·exact ⟨hl,.inl ⟨rfl,h0⟩⟩
  ·exact ⟨hl,.inr ⟨g,cap,cur,rfl,Nat.le_trans hb hg,hc,hr⟩⟩
theorem St.join {H H' : Hp} {w0 W W' : World} {bs bs' : List Res} (s : St H w0 bs W) (u : HUp W H H') (k : St H' W bs' W') : St H' w0 (bs' ++ bs) W' := by
 refine ⟨s.ext.trans k.ext,k.agr,fun x hx => ?_,List.pairwise_append.2 ⟨k.apart,s.apart,fun x hx y hy b e e' => ?_⟩⟩
 ·rcases List.mem_append.1 hx with hx | hx
  ·exact ⟨(k.own x hx).1.base s.ext.size,(k.own x hx).2⟩
  ·exact ⟨(s.own x hx).1.ext k.ext,fun b e => u.new b ((s.own x hx).2 b e) ((s.own x hx).1.lt e).2⟩
 ·have h1 := ((k.own x hx).1.lt e).1
  have h2 := ((s.own y hy).1.lt e').2
  omega
section
variable {dfs : List Deferred} {P : Program} {L : Sl} {H : Hp} {w0 : World} {bs : List Res} {ops : Array Oper}
variable {ty : TypeId} {pos : String} {aft : Array Edge} {t : Tmp} {x : Operand}
variable {N hn i k : Nat} {pa : List (Nat × Oper × Value)} {E : Sl → Hp → List Res → Prop} {r : List (Nat × Nat × Oper)}
theorem FlowP.v3 {X : Type} {f : FuncId} {xs : List Operand} {vs fi ca : List Value} {ats : Array TypeId} {C : X → Prop} {val : X → Value} {H' : X → Hp} {bs' : X → List Res} (hx : ev L x = some (.func (.func f) fi.toArray ca.toArray)) (hf : callN P f = true) (hv : evs L xs = some vs)
 (hc : ∀ W,St H w0 bs W → Calls P f (fi ++ vs ++ ca).toArray W fun e W' => ∃ x,C x ∧ e = .returned (val x) ∧ St (H' x) w0 (bs' x) W') (ht : Nat.blt t N = true)
 (hr : ∀ x,C x → RedoP dfs P ops hn w0 N L (H' x) (bs' x) i pa) (h : ∀ x,C x → FlowP dfs P ops hn w0 N E r pa ((t,val x) :: L) (H' x) (bs' x)) : FlowP dfs P ops hn w0 N E ((i,3,⟨some t,.call ⟨.value x,xs.toArray,ats⟩,ty,pos,aft,none⟩) :: r) pa L H bs :=
 ⟨blt_of ht,callSV hx hf hv hc ht fun x hx => FlowP.into (.inr<|.inr<|hr x hx) (h x hx)⟩
end
end Go.Sx
namespace Go.Proofs.YthhoebdlfjffkaaDoor
open Go.RowKit Go.Par Go.Sx
theorem Fx.call10 : callN Tryd.prog 10 = Bool.true := by kernel_rfl
theorem Fx.call21 : callN Tryd.prog 21 = Bool.true := by kernel_rfl
theorem Fx.agg32 : aggN Tryd.prog 32 = Option.some Option.none := by kernel_rfl
theorem Fx.agg62 : aggN Tryd.prog 62 = Option.some Option.none := by kernel_rfl
theorem Fx.agg71 : aggN Tryd.prog 71 = Option.some Option.none := by kernel_rfl
theorem Fx.agg73 : aggN Tryd.prog 73 = Option.some (Option.some 3) := by kernel_rfl
theorem Fx.call28 : callN Tryd.prog 28 = Bool.true := by kernel_rfl
theorem Fx.call37 : callN Tryd.prog 37 = Bool.true := by kernel_rfl
theorem Fx.call38 : callN Tryd.prog 38 = Bool.true := by kernel_rfl
theorem Fx.call51 : callN Tryd.prog 51 = Bool.true := by kernel_rfl
theorem Fx.call54 : callN Tryd.prog 54 = Bool.true := by kernel_rfl
theorem Fx.field64_0 : fieldN Tryd.prog 64 0 = Option.some 0 := by kernel_rfl
theorem Fx.field64_1 : fieldN Tryd.prog 64 1 = Option.some 1 := by kernel_rfl
theorem Fx.field64_2 : fieldN Tryd.prog 64 2 = Option.some 2 := by kernel_rfl
theorem Fx.field64_4 : fieldN Tryd.prog 64 4 = Option.some 7 := by kernel_rfl
theorem Fx.field64_5 : fieldN Tryd.prog 64 5 = Option.some 8 := by kernel_rfl
theorem Fx.field73_0 : fieldN Tryd.prog 73 0 = Option.some 0 := by kernel_rfl
theorem Fx.field73_1 : fieldN Tryd.prog 73 1 = Option.some 1 := by kernel_rfl
theorem Fx.size3 : sizeN Tryd.prog 3 = Option.some 1 := by kernel_rfl
theorem Fx.size32 : sizeN Tryd.prog 32 = Option.some 1 := by kernel_rfl
theorem Fx.size73 : sizeN Tryd.prog 73 = Option.some 3 := by kernel_rfl
theorem Fx.sl62 : slN Tryd.prog 62 = Option.some 3 := by kernel_rfl
theorem Fx.zero73 : zeroN Tryd.prog 73 = Option.some
 [Go.Value.int Go.IntKind.u8 (Int.ofNat 0),Go.Value.string { data := { toList := [] } },
  Go.Value.int Go.IntKind.i64 (Int.ofNat 0)] := by kernel_rfl
theorem Fx.bld73_2 (x2 : Int) : buildN Tryd.prog 73 [(2,.int .i64 x2)] = some [.int .u8 0,.string ⟨#[]⟩,.int .i64 x2] := by kernel_rfl
def posN (ts : List Tk) (q : Sg) : Nat := ts.length - q.r.length
theorem suf_len {q : Sg} {ts : List Tk} (h : q.r <:+ ts) : q.r.length ≤ ts.length := h.length_le
theorem posN_end {q : Sg} {ts : List Tk} (h : q.r <:+ ts) (hi : ¬ posN ts q < ts.length) : q.r = [] := by
 have := suf_len h
 unfold posN at hi
 exact List.eq_nil_of_length_eq_zero (by omega)
theorem posN_tk {q : Sg} {ts : List Tk} {n : Nat} (h : q.r <:+ ts) (hi : posN ts q < ts.length) : ts[posN ts q] = tkH n q.r ∧ q.r ≠ [] := by
 obtain ⟨p,e⟩ := h
 have hp : posN ts q = p.length := by unfold posN;rw [← e,List.length_append];omega
 cases hr : q.r with
 | nil => rw [hr,List.append_nil] at e;rw [hp,e] at hi;omega
 | cons t l =>
  refine ⟨?_,by simp⟩
  have e2 : ts[posN ts q]? = some t := by rw [hp,← e,hr];simp
  rw [List.getElem?_eq_getElem hi] at e2
  exact Option.some.inj e2
theorem posN_tl {q : Sg} {ts : List Tk} (h : q.r <:+ ts) (hr : q.r ≠ []) : posN ts q.tl = posN ts q + 1 ∧ posN ts q < ts.length := by
 have h1 := suf_len h
 cases hl : q.r with
 | nil => exact absurd hl hr
 | cons t l =>
  rw [hl,List.length_cons] at h1
  unfold posN Sg.tl
  simp only [hl,List.tail_cons,List.length_cons]
  omega
structure Tkm (H : Hp) (ts : List Tk) (tp : Option Addr) (tc : Nat) : Prop where
 rep : Rep H (.seq 3 (ts.map (dTk .u8))) [.slice tp ts.length tc]
 good : ∀ t ∈ ts,Tkg t
 num : ∀ t ∈ ts,t.k = 3 → pre digB t.t = t.t.length
 short : ∀ t ∈ ts,t.t.length ≤ 1000000
theorem Tkm.up {H H' : Hp} {ts : List Tk} {tp : Option Addr} {tc : Nat} (h : Tkm H ts tp tc) (u : Up H H') : Tkm H' ts tp tc := ⟨h.rep.up u,h.good,h.num,h.short⟩
theorem tkH_mem {q : Sg} {ts : List Tk} {n : Nat} (h : q.r <:+ ts) : q.r = [] ∨ tkH n q.r ∈ ts := by
 cases hr : q.r with
 | nil => exact .inl rfl
 | cons t l => exact .inr (h.subset (by rw [hr];exact List.mem_cons_self ..))
theorem Tkm.tk {H : Hp} {q : Sg} {ts : List Tk} {tp : Option Addr} {tc n : Nat} (K : Tkm H ts tp tc) (h : q.r <:+ ts) : (tkH n q.r).t.length ≤ 1000000 := by
 rcases tkH_mem (n := n) h with e | e
 ·rw [e];show (0 : Nat) ≤ _;omega
 ·exact K.short _ e
theorem fld_tk0 (a b c : Value) : ∀ W,(Instr.field 73 (.agg [a,b,c].toArray) 0).run Tryd.prog W = .ok a W := fun _ => by kernel_rfl
theorem fld_tk1 (a b c : Value) : ∀ W,(Instr.field 73 (.agg [a,b,c].toArray) 1).run Tryd.prog W = .ok b W := fun _ => by kernel_rfl
theorem fld_tk2 (a b c : Value) : ∀ W,(Instr.field 73 (.agg [a,b,c].toArray) 2).run Tryd.prog W = .ok c W := fun _ => by kernel_rfl
set_option maxRecDepth 100000 in
theorem token_st {H : Hp} {w0 W : World} {bs : List Res} {b n : Nat} {ts : List Tk} {tp : Option Addr} {tc : Nat} {t0 t1 t2 t3 : Value} {q : Sg} (K : Tkm H ts tp tc) (hq : q.r <:+ ts) (s : St H w0 (.box b [.slice tp ts.length tc,.int .i64 (posN ts q : Nat),.int .i64 (n : Nat),t0,t1,t2,t3,.int .i64 (q.o : Nat),.int .i64 (q.e : Nat)] 64 :: bs) W) :
 Calls Tryd.prog 51 #[.pointer (some ⟨b,0,none⟩)] W fun e W' => ∃ _ : Unit,(True) ∧ e = .returned (.agg (cTk .u8 (tkH n q.r)).toArray) ∧ St H w0 (.box b [.slice tp ts.length tc,.int .i64 (posN ts q : Nat),.int .i64 (n : Nat),t0,t1,t2,t3,.int .i64 (q.o : Nat),.int .i64 (q.e : Nat)] 64 :: bs) W' := by
 have hcap := K.rep.cap
 refine Sx.enterS Tryd.func51 rfl Tryd.ntmps51 rfl s ?_
 refine .sr<|.al Fx.zero73 Z fun b2 => .nt<|.sq<|.sq<|.fl (trip := [(_,_,_),(_,_,_),(_,_,_),(_,_,_),(_,_,_),(_,_,_),(_,_,_),(_,_,_),(_,_,_)]) 9 [(0,0),(1,0),(2,0),(3,0),(4,0),(5,0),(6,0),(7,0),(8,0)] (by kernel_rfl) (by kernel_rfl) Z<|.m Z Z<|.yv (.nilCheck Z) Z<|.yv (.fieldAddr Z Fx.field64_1) Z<|.yv (.load Z Fx.agg3 (.tail _<|.head _) Z) Z<|.m Z Z<|.yv (.nilCheck Z) Z<|.yv (.fieldAddr Z Fx.field64_0) Z<|.yv (.load Z Fx.agg62 (.tail _<|.head _) Z) Z<|.yv (.lenSl Fx.sl62 Z) Z<|.fn (tl := [_]) Z<|.yv (.lss Z Z) Z<|.nt<|.cd Z (fun h12 => ?_) (fun h12 => ?_)
 ·try simp only [dt] at h12
  have hi : posN ts q < ts.length := by omega
  obtain ⟨et,_⟩ := posN_tk (n := n) hq hi
  obtain ⟨bE,oE,cE,hpE,rE,lE,mE⟩ := K.rep.elem (map_at (f := dTk .u8) hi)
  cases hpE
  rw [et] at rE
  obtain ⟨rfl,_⟩ := tk_open rE
  refine .sq<|.fl (trip := [(_,_,_),(_,_,_),(_,_,_),(_,_,_),(_,_,_),(_,_,_),(_,_,_),(_,_,_),(_,_,_),(_,_,_)]) 10 [(0,0),(1,0),(2,0),(3,0),(4,0),(5,0),(6,0),(7,0),(8,0),(9,0)] (by kernel_rfl) (by kernel_rfl) Z<|.m Z Z<|.yv (.nilCheck Z) Z<|.yv (.fieldAddr Z Fx.field64_0) Z<|.yv (.load Z Fx.agg62 (.tail _<|.head _) Z) Z<|.m Z Z<|.yv (.nilCheck Z) Z<|.yv (.fieldAddr Z Fx.field64_1) Z<|.yv (.load Z Fx.agg3 (.tail _<|.head _) Z) Z<|.yv (.indexSl Fx.sl62 Z Z Z (by omega) (q := oE + posN ts q * 3) Z) Z<|.yv (.loadMW Z Fx.agg73 mE Z) Z<|.fn (tl := [_]) Z<|.sW .head Z Z Fx.size73 (by simp [cTk,Value.oneCell',strV]) Z<|.nt<|.rt<|.tR<|?_
  refine Sx.ret1 (.inl rfl) rfl (.cell rfl Fx.agg73 (.head _) rfl) fun W s => ?_
  first
   | (exact ⟨(),trivial,rfl,s.pickT (hd := [_,_]) (tl := bs) (hd' := [_]) [1] rfl rfl⟩)
   | (exact ⟨(),trivial,(by rw [hr];rfl),s.pickT (hd := [_,_]) (tl := bs) (hd' := [_]) [1] rfl rfl⟩)
 try simp only [df] at h12
 have hr := posN_end hq (by omega)
 refine .sk<|.tN<|.sr<|.m Z Z<|.yv (.nilCheck Z) Z<|.yv (.fieldAddr Z Fx.field64_2) Z<|.yv (.load Z Fx.agg3 (.tail _<|.head _) Z) Z<|.yv (.build Z (Fx.bld73_2 _)) Z<|.sW .head Z Z Fx.size73 (by simp [cTk,Value.oneCell',strV]) Z<|.nt<|.rt<|?_
 refine Sx.ret1 (.inl rfl) rfl (.cell rfl Fx.agg73 (.head _) rfl) fun W s => ?_
 first
  | (exact ⟨(),trivial,rfl,s.pickT (hd := [_,_]) (tl := bs) (hd' := [_]) [1] rfl rfl⟩)
  | (exact ⟨(),trivial,(by rw [hr];rfl),s.pickT (hd := [_,_]) (tl := bs) (hd' := [_]) [1] rfl rfl⟩)
set_option maxRecDepth 100000 in
theorem fail_st {H : Hp} {w0 W : World} {bs : List Res} {b n : Nat} {ts : List Tk} {tp : Option Addr} {tc : Nat} {t0 t1 t2 t3 : Value} {q : Sg} (K : Tkm H ts tp tc) (hq : q.r <:+ ts) (c : Nat) (s : St H w0 (.box b [.slice tp ts.length tc,.int .i64 (posN ts q : Nat),.int .i64 (n : Nat),t0,t1,t2,t3,.int .i64 (q.o : Nat),.int .i64 (q.e : Nat)] 64 :: bs) W) :
 Calls Tryd.prog 28 #[.pointer (some ⟨b,0,none⟩),.int .i64 (c : Nat)] W fun e W' => ∃ _ : Unit,(True) ∧ e = .returned (.tuple #[]) ∧ St H w0 (.box b [.slice tp ts.length tc,.int .i64 (posN ts (q.fail n c) : Nat),.int .i64 (n : Nat),t0,t1,t2,t3,.int .i64 ((q.fail n c).o : Nat),.int .i64 ((q.fail n c).e : Nat)] 64 :: bs) W' := by
 refine Sx.enterS Tryd.func28 rfl Tryd.ntmps28 rfl s ?_
 refine .sr<|.m Z Z<|.yv (.nilCheck Z) Z<|.yv (.fieldAddr Z Fx.field64_5) Z<|.yv (.load Z Fx.agg32 (.head _) Z) Z<|.yv (.eql Z Z) Z<|.nt<|.cd Z (fun h8 => ?_) (fun h8 => ?_)
 ·try simp only [dt] at h8
  have h0 : q.e = 0 := by omega
  have e1 : q.fail n c = ⟨q.r,c,(tkH n q.r).o⟩ := by unfold Sg.fail;rw [if_pos h0,tkH_o]
  rw [e1]
  refine .rg<|.m Z Z<|.m Z Z<|.m Z Z<|.cs (X := Unit) Fx.call51 Z (fun W s => token_st K hq  (s.pickT (hd := [_]) (tl := bs) (hd' := [_]) [0] Z Z)) Z fun _ _ => .yv (.fld Z (fld_tk2 _ _ _)) Z<|.m Z Z<|.yv (.nilCheck Z) Z<|.yv (.fieldAddr Z Fx.field64_4) Z<|.st .head Z Z Fx.size3 Z (nb Z) Z<|.yv (.nilCheck Z) Z<|.yv (.fieldAddr Z Fx.field64_5) Z<|.st .head Z Z Fx.size32 Z (nb Z) Z<|.nl<|?_
  refine Sx.retN (.inr rfl) rfl .nil rfl fun W s => ⟨(),trivial,rfl,?_⟩
  exact s.pickT (hd := [_]) (tl := bs) (hd' := [_]) [0] rfl rfl
 try simp only [df] at h8
 have h0 : ¬ q.e = 0 := by omega
 have e1 : q.fail n c = q := by unfold Sg.fail;rw [if_neg h0]
 rw [e1]
 refine .sk<|?_
 refine Sx.retN (.inr rfl) rfl .nil rfl fun W s => ⟨(),trivial,rfl,?_⟩
 exact s.pickT (hd := [_]) (tl := bs) (hd' := [_]) [0] rfl rfl
set_option maxRecDepth 100000 in
theorem is_st {H : Hp} {w0 W : World} {bs : List Res} {b n : Nat} {ts : List Tk} {tp : Option Addr} {tc : Nat} {t0 t1 t2 t3 : Value} {q : Sg} (K : Tkm H ts tp tc) (hq : q.r <:+ ts) (w : Str) (s : St H w0 (.box b [.slice tp ts.length tc,.int .i64 (posN ts q : Nat),.int .i64 (n : Nat),t0,t1,t2,t3,.int .i64 (q.o : Nat),.int .i64 (q.e : Nat)] 64 :: bs) W) :
 Calls Tryd.prog 54 #[.pointer (some ⟨b,0,none⟩),strV w] W fun e W' => ∃ _ : Unit,(True) ∧ e = .returned (.bool (tcB n w q)) ∧ St H w0 (.box b [.slice tp ts.length tc,.int .i64 (posN ts q : Nat),.int .i64 (n : Nat),t0,t1,t2,t3,.int .i64 (q.o : Nat),.int .i64 (q.e : Nat)] 64 :: bs) W' := by
 refine Sx.enterS Tryd.func54 rfl Tryd.ntmps54 rfl s ?_
 refine .sr<|.a Z Z<|.ns<|.m Z Z<|.yv (.nilCheck Z) Z<|.yv (.fieldAddr Z Fx.field64_5) Z<|.yv (.load Z Fx.agg32 (.head _) Z) Z<|.yv (.eql Z Z) Z<|.m Z Z<|.b2 (fun h10 => ?_) (fun h10 => ?_)
 ·skip
  refine .gd Z Z<|.yv (.move Z) Z<|.gd Z Z<|.cs (X := Unit) Fx.call51 Z (fun W s => token_st K hq  (s.pickT (hd := [_]) (tl := bs) (hd' := [_]) [0] Z Z)) Z fun _ _ => .gd Z Z<|.yv (.fld Z (fld_tk1 _ _ _)) Z<|.gd Z Z<|.yv (.move Z) Z<|.gd Z Z<|.yv (.eqS Z Z) Z<|.yv (.pickT Z Z) Z<|.a Z Z<|.nt<|.rt<|?_
  refine Sx.ret1 (.inl rfl) rfl (.tmp rfl) fun W s => ?_
  first
   | (exact ⟨(),trivial,(by unfold tcB;rw [decide_eq_true (show q.e = 0 by have := of_decide_eq_true h10;omega),Bool.true_and]),s.pickT (hd := [_]) (tl := bs) (hd' := [_]) [0] rfl rfl⟩)
   | (exact ⟨(),trivial,(by unfold tcB;rw [decide_eq_false (show ¬ q.e = 0 by have := of_decide_eq_false h10;omega),Bool.false_and]),s.pickT (hd := [_]) (tl := bs) (hd' := [_]) [0] rfl rfl⟩)
 skip
 refine .gF Z Z Z Z<|.gF Z Z Z Z<|.gF Z Z Z Z<|.gF Z Z Z Z<|.gF Z Z Z Z<|.yv (.pickF Z Z) Z<|.a Z Z<|.nt<|.rt<|?_
 refine Sx.ret1 (.inl rfl) rfl (.tmp rfl) fun W s => ?_
 first
  | (exact ⟨(),trivial,(by unfold tcB;rw [decide_eq_true (show q.e = 0 by have := of_decide_eq_true h10;omega),Bool.true_and]),s.pickT (hd := [_]) (tl := bs) (hd' := [_]) [0] rfl rfl⟩)
  | (exact ⟨(),trivial,(by unfold tcB;rw [decide_eq_false (show ¬ q.e = 0 by have := of_decide_eq_false h10;omega),Bool.false_and]),s.pickT (hd := [_]) (tl := bs) (hd' := [_]) [0] rfl rfl⟩)
def tcS (n : Nat) (w : Str) (q : Sg) : Sg := if tcB n w q then q.tl else q
theorem tcB_ne {n : Nat} {w : Str} {q : Sg} (hw : w ≠ []) (h : tcB n w q = true) : q.r ≠ [] := by
 intro e
 unfold tcB at h
 rw [Bool.and_eq_true,decide_eq_true_eq,decide_eq_true_eq,e] at h
 exact hw h.2.symm
set_option maxRecDepth 100000 in
theorem accept_st {H : Hp} {w0 W : World} {bs : List Res} {b n : Nat} {ts : List Tk} {tp : Option Addr} {tc : Nat} {t0 t1 t2 t3 : Value} {q : Sg} (K : Tkm H ts tp tc) (hq : q.r <:+ ts) (w : Str) (hw : w ≠ []) (s : St H w0 (.box b [.slice tp ts.length tc,.int .i64 (posN ts q : Nat),.int .i64 (n : Nat),t0,t1,t2,t3,.int .i64 (q.o : Nat),.int .i64 (q.e : Nat)] 64 :: bs) W) :
 Calls Tryd.prog 37 #[.pointer (some ⟨b,0,none⟩),strV w] W fun e W' => ∃ _ : Unit,(True) ∧ e = .returned (.bool (tcB n w q)) ∧ St H w0 (.box b [.slice tp ts.length tc,.int .i64 (posN ts (tcS n w q) : Nat),.int .i64 (n : Nat),t0,t1,t2,t3,.int .i64 ((tcS n w q).o : Nat),.int .i64 ((tcS n w q).e : Nat)] 64 :: bs) W' := by
 have hcap := K.rep.cap
 refine Sx.enterS Tryd.func37 rfl Tryd.ntmps37 rfl s ?_
 refine .sr<|.a Z Z<|.nt<|.sq<|.sr<|.m Z Z<|.m Z Z<|.cs (X := Unit) Fx.call54 Z (fun W s => is_st K hq w (s.pickT (hd := [_]) (tl := bs) (hd' := [_]) [0] Z Z)) Z fun _ _ => .yv (.not Z) Z<|.nt<|.cd Z (fun h8 => ?_) (fun h8 => ?_)
 ·have e1 : tcS n w q = q := by unfold tcS;rw [if_neg (by simpa using h8)]
  rw [e1]
  have hb : tcB n w q = false := by simpa using h8
  refine .sr<|.a Z Z<|.nt<|.rt<|.tR<|?_
  refine Sx.ret1 (.inl rfl) rfl (.tmp rfl) fun W s => ?_
  exact ⟨(),trivial,(by rw [hb]),s.pickT (hd := [_]) (tl := bs) (hd' := [_]) [0] rfl rfl⟩
 have hb : tcB n w q = true := by simpa using h8
 have e1 : tcS n w q = q.tl := by unfold tcS;rw [if_pos hb]
 rw [e1]
 obtain ⟨hp,hi⟩ := posN_tl hq (tcB_ne hw hb)
 refine .sk<|.tN<|.sr<|.m Z Z<|.yv (.nilCheck Z) Z<|.yv (.fieldAddr Z Fx.field64_1) Z<|.yv (.load Z Fx.agg3 (.head _) Z) Z<|.yv (.add Z Z (c := ((posN ts q.tl : Nat) : Int)) ((w6 (by omega)).trans (by omega))) Z<|.yv (.nilCheck Z) Z<|.yv (.fieldAddr Z Fx.field64_1) Z<|.st .head Z Z Fx.size3 Z (nb Z) Z<|.ns<|.a Z Z<|.nt<|.rt<|?_
 refine Sx.ret1 (.inl rfl) rfl (.tmp rfl) fun W s => ?_
 exact ⟨(),trivial,(by rw [hb]),s.pickT (hd := [_]) (tl := bs) (hd' := [_]) [0] rfl rfl⟩
theorem wd_ne' {w : Str} (hw : w ∈ words ∨ w ∈ symbols) : w ≠ [] := wd_ne w (List.mem_append.2 hw)
theorem accept_ac {H : Hp} {w0 W : World} {bs : List Res} {b n : Nat} {ts : List Tk} {tp : Option Addr} {tc : Nat} {t0 t1 t2 t3 : Value} {q : Sg} (K : Tkm H ts tp tc) (hq : q.r <:+ ts) (w : Str) (hw : w ∈ words ∨ w ∈ symbols) (s : St H w0 (.box b [.slice tp ts.length tc,.int .i64 (posN ts q : Nat),.int .i64 (n : Nat),t0,t1,t2,t3,.int .i64 (q.o : Nat),.int .i64 (q.e : Nat)] 64 :: bs) W) :
 Calls Tryd.prog 37 #[.pointer (some ⟨b,0,none⟩),strV w] W fun e W' => ∃ _ : Unit,(True) ∧ e = .returned (.bool (ac w q)) ∧ St H w0 (.box b [.slice tp ts.length tc,.int .i64 (posN ts (acS w q) : Nat),.int .i64 (n : Nat),t0,t1,t2,t3,.int .i64 ((acS w q).o : Nat),.int .i64 ((acS w q).e : Nat)] 64 :: bs) W' := by
 have h := accept_st K hq w (wd_ne' hw) s
 unfold tcS at h
 rw [tcB_ac K.good hq hw] at h
 exact h
theorem is_ac {H : Hp} {w0 W : World} {bs : List Res} {b n : Nat} {ts : List Tk} {tp : Option Addr} {tc : Nat} {t0 t1 t2 t3 : Value} {q : Sg} (K : Tkm H ts tp tc) (hq : q.r <:+ ts) (w : Str) (hw : w ∈ words ∨ w ∈ symbols) (s : St H w0 (.box b [.slice tp ts.length tc,.int .i64 (posN ts q : Nat),.int .i64 (n : Nat),t0,t1,t2,t3,.int .i64 (q.o : Nat),.int .i64 (q.e : Nat)] 64 :: bs) W) :
 Calls Tryd.prog 54 #[.pointer (some ⟨b,0,none⟩),strV w] W fun e W' => ∃ _ : Unit,(True) ∧ e = .returned (.bool (ac w q)) ∧ St H w0 (.box b [.slice tp ts.length tc,.int .i64 (posN ts q : Nat),.int .i64 (n : Nat),t0,t1,t2,t3,.int .i64 (q.o : Nat),.int .i64 (q.e : Nat)] 64 :: bs) W' := by
 have h := is_st K hq w s
 rw [tcB_ac K.good hq hw] at h
 exact h
set_option maxRecDepth 100000 in
theorem expect_st {H : Hp} {w0 W : World} {bs : List Res} {b n : Nat} {ts : List Tk} {tp : Option Addr} {tc : Nat} {t0 t1 t2 t3 : Value} {q : Sg} (K : Tkm H ts tp tc) (hq : q.r <:+ ts) (w : Str) (hw : w ≠ []) (s : St H w0 (.box b [.slice tp ts.length tc,.int .i64 (posN ts q : Nat),.int .i64 (n : Nat),t0,t1,t2,t3,.int .i64 (q.o : Nat),.int .i64 (q.e : Nat)] 64 :: bs) W) :
 Calls Tryd.prog 38 #[.pointer (some ⟨b,0,none⟩),strV w] W fun e W' => ∃ _ : Unit,(True) ∧ e = .returned (.tuple #[]) ∧ St H w0 (.box b [.slice tp ts.length tc,.int .i64 (posN ts (if tcB n w q then q.tl else q.fail n 8) : Nat),.int .i64 (n : Nat),t0,t1,t2,t3,.int .i64 ((if tcB n w q then q.tl else q.fail n 8).o : Nat),.int .i64 ((if tcB n w q then q.tl else q.fail n 8).e : Nat)] 64 :: bs) W' := by
 refine Sx.enterS Tryd.func38 rfl Tryd.ntmps38 rfl s ?_
 refine .sr<|.m Z Z<|.m Z Z<|.cs (X := Unit) Fx.call37 Z (fun W s => accept_st K hq w hw (s.pickT (hd := [_]) (tl := bs) (hd' := [_]) [0] Z Z)) Z fun _ _ => .yv (.not Z) Z<|.nt<|.cd Z (fun h7 => ?_) (fun h7 => ?_)
 ·have e1 : tcS n w q = q := by unfold tcS;rw [if_neg (by simpa using h7)]
  rw [e1,if_neg (show ¬ tcB n w q = true by simpa using h7)]
  refine .rg<|.m Z Z<|.cs (X := Unit) Fx.call28 Z (fun W s => fail_st K hq 8 (s.pickT (hd := [_]) (tl := bs) (hd' := [_]) [0] Z Z)) Z fun _ _ => .nl<|?_
  refine Sx.retN (.inr rfl) rfl .nil rfl fun W s => ⟨(),trivial,rfl,?_⟩
  exact s.pickT (hd := [_]) (tl := bs) (hd' := [_]) [0] rfl rfl
 have e1 : tcS n w q = q.tl := by unfold tcS;rw [if_pos (by simpa using h7)]
 rw [e1,if_pos (show tcB n w q = true by simpa using h7)]
 refine .sk<|?_
 refine Sx.retN (.inr rfl) rfl .nil rfl fun W s => ⟨(),trivial,rfl,?_⟩
 exact s.pickT (hd := [_]) (tl := bs) (hd' := [_]) [0] rfl rfl
theorem expect_nd {H : Hp} {w0 W : World} {bs : List Res} {b n : Nat} {ts : List Tk} {tp : Option Addr} {tc : Nat} {t0 t1 t2 t3 : Value} {q : Sg} (K : Tkm H ts tp tc) (hq : q.r <:+ ts) (w : Str) (hw : w ∈ words ∨ w ∈ symbols) (s : St H w0 (.box b [.slice tp ts.length tc,.int .i64 (posN ts q : Nat),.int .i64 (n : Nat),t0,t1,t2,t3,.int .i64 (q.o : Nat),.int .i64 (q.e : Nat)] 64 :: bs) W) :
 Calls Tryd.prog 38 #[.pointer (some ⟨b,0,none⟩),strV w] W fun e W' => ∃ _ : Unit,(True) ∧ e = .returned (.tuple #[]) ∧ St H w0 (.box b [.slice tp ts.length tc,.int .i64 (posN ts (up n (gNd w) q) : Nat),.int .i64 (n : Nat),t0,t1,t2,t3,.int .i64 ((up n (gNd w) q).o : Nat),.int .i64 ((up n (gNd w) q).e : Nat)] 64 :: bs) W' := by
 have h := expect_st K hq w (wd_ne' hw) s
 rw [tcB_ac K.good hq hw,← nd_eq] at h
 exact h
theorem tkH_ne {n : Nat} {r : List Tk} (h : (tkH n r).k ≠ 0) : r ≠ [] := fun e => by subst e;exact h rfl
set_option maxRecDepth 100000 in
theorem name_st {H : Hp} {w0 W : World} {bs : List Res} {b n : Nat} {ts : List Tk} {tp : Option Addr} {tc : Nat} {t0 t1 t2 t3 : Value} {q : Sg} (K : Tkm H ts tp tc) (hq : q.r <:+ ts) (s : St H w0 (.box b [.slice tp ts.length tc,.int .i64 (posN ts q : Nat),.int .i64 (n : Nat),t0,t1,t2,t3,.int .i64 (q.o : Nat),.int .i64 (q.e : Nat)] 64 :: bs) W) :
 Calls Tryd.prog 39 #[.pointer (some ⟨b,0,none⟩)] W fun e W' => ∃ x : Str,(vl gNm q x ∧ x.length ≤ 1000000) ∧ e = .returned (strV x) ∧ St H w0 (.box b [.slice tp ts.length tc,.int .i64 (posN ts (up n gNm q) : Nat),.int .i64 (n : Nat),t0,t1,t2,t3,.int .i64 ((up n gNm q).o : Nat),.int .i64 ((up n gNm q).e : Nat)] 64 :: bs) W' := by
 have hcap := K.rep.cap
 refine Sx.enterS Tryd.func39 rfl Tryd.ntmps39 rfl s ?_
 refine .sr<|.a Z Z<|.ns<|.m Z Z<|.cs (X := Unit) Fx.call51 Z (fun W s => token_st K hq  (s.pickT (hd := [_]) (tl := bs) (hd' := [_]) [0] Z Z)) Z fun _ _ => .al Fx.zero73 Z fun b3 => .sW .head Z Z Fx.size73 (by simp [cTk,Value.oneCell',strV]) Z<|.nt<|.sq<|.sr<|.yv (.fieldAddr Z Fx.field73_0) Z<|.yv (.load Z Fx.agg71 (.head _) Z) Z<|.yv (.neq Z Z) Z<|.nt<|.cd Z (fun h8 => ?_) (fun h8 => ?_)
 ·have hk : ¬ (tkH n q.r).k = 1 := fun e => of_decide_eq_true h8 (by rw [e];rfl)
  have e1 : up n gNm q = q.fail n 8 := by rw [nm_eq,if_neg (fun h => hk h.2)]
  have e2 : (if q.e = 0 ∧ (tkH n q.r).k = 1 then (tkH n q.r).t else []) = [] := if_neg (fun h => hk h.2)
  rw [e1]
  have e3 : (q.fail n 8).e ≠ 0 := by
   unfold Sg.fail
   split
   ·exact Nat.succ_ne_zero 7
   ·assumption
  refine .rg<|.m Z Z<|.cs (X := Unit) Fx.call28 Z (fun W s => fail_st K hq 8 (s.pickT (hd := [_,_]) (tl := bs) (hd' := [_,_]) [1,0] Z Z)) Z fun _ _ => .nt<|.sq<|.sr<|.m Z Z<|.yv (.nilCheck Z) Z<|.yv (.fieldAddr Z Fx.field64_5) Z<|.yv (.load Z Fx.agg32 (.head _) Z) Z<|.yv (.neq Z Z) Z<|.nt<|.cd Z (fun h15 => ?_) (fun h15 => ?_)
  ·skip
   refine .sr<|.a Z Z<|.nt<|.rt<|.tR<|?_
   refine Sx.ret1 (.inl rfl) rfl (.tmp rfl) fun W s => ?_
   exact ⟨[],⟨by have := nm_vl (n := n) (s := q);rw [e2] at this;exact this,Nat.zero_le _⟩,rfl,s.pickT (hd := [_,_]) (tl := bs) (hd' := [_]) [0] rfl rfl⟩
  exact absurd (show (q.fail n 8).e = 0 by have := Classical.not_not.1 (of_decide_eq_false h15);omega) e3
 have hk : (tkH n q.r).k = 1 := UInt8.toNat_inj.1 (by have := Classical.not_not.1 (of_decide_eq_false h8);exact Int.ofNat.inj this)
 refine .sk<|.tN<|.sq<|.sr<|.m Z Z<|.yv (.nilCheck Z) Z<|.yv (.fieldAddr Z Fx.field64_5) Z<|.yv (.load Z Fx.agg32 (.tail _<|.head _) Z) Z<|.yv (.neq Z Z) Z<|.nt<|.cd Z (fun h15 => ?_) (fun h15 => ?_)
 ·try simp only [dt] at h15
  have h0 : ¬ q.e = 0 := by omega
  have e1 : up n gNm q = q := up_er h0
  have e2 : (if q.e = 0 ∧ (tkH n q.r).k = 1 then (tkH n q.r).t else []) = [] := if_neg (fun h => h0 h.1)
  rw [e1]
  refine .sr<|.a Z Z<|.nt<|.rt<|.tR<|?_
  refine Sx.ret1 (.inl rfl) rfl (.tmp rfl) fun W s => ?_
  exact ⟨[],⟨by have := nm_vl (n := n) (s := q);rw [e2] at this;exact this,Nat.zero_le _⟩,rfl,s.pickT (hd := [_,_]) (tl := bs) (hd' := [_]) [1] rfl rfl⟩
 try simp only [df] at h15
 have h0 : q.e = 0 := by omega
 have e1 : up n gNm q = q.tl := by rw [nm_eq,if_pos ⟨h0,hk⟩]
 have e2 : (if q.e = 0 ∧ (tkH n q.r).k = 1 then (tkH n q.r).t else []) = (tkH n q.r).t := if_pos ⟨h0,hk⟩
 rw [e1]
 obtain ⟨hp,hi⟩ := posN_tl hq (tkH_ne (n := n) (by rw [hk];decide))
 refine .sk<|.tN<|.sr<|.m Z Z<|.yv (.nilCheck Z) Z<|.yv (.fieldAddr Z Fx.field64_1) Z<|.yv (.load Z Fx.agg3 (.tail _<|.head _) Z) Z<|.yv (.add Z Z (c := ((posN ts q.tl : Nat) : Int)) ((w6 (by omega)).trans (by omega))) Z<|.yv (.nilCheck Z) Z<|.yv (.fieldAddr Z Fx.field64_1) Z<|.st (.tail<|.head) Z Z Fx.size3 Z (nb Z) Z<|.ns<|.yv (.fieldAddr Z Fx.field73_1) Z<|.yv (.load Z Fx.agg9 (.head _) Z) Z<|.a Z Z<|.nt<|.rt<|?_
 refine Sx.ret1 (.inl rfl) rfl (.tmp rfl) fun W s => ?_
 exact ⟨(tkH n q.r).t,⟨by have := nm_vl (n := n) (s := q);rw [e2] at this;exact this,K.tk hq⟩,rfl,s.pickT (hd := [_,_]) (tl := bs) (hd' := [_]) [1] rfl rfl⟩
set_option maxRecDepth 100000 in
theorem truth_st {H : Hp} {w0 W : World} {bs : List Res} {b n : Nat} {ts : List Tk} {tp : Option Addr} {tc : Nat} {t0 t1 t2 t3 : Value} {q : Sg} (K : Tkm H ts tp tc) (hq : q.r <:+ ts) (s : St H w0 (.box b [.slice tp ts.length tc,.int .i64 (posN ts q : Nat),.int .i64 (n : Nat),t0,t1,t2,t3,.int .i64 (q.o : Nat),.int .i64 (q.e : Nat)] 64 :: bs) W) :
 Calls Tryd.prog 55 #[.pointer (some ⟨b,0,none⟩)] W fun e W' => ∃ x : Bool,(vl gTr q x) ∧ e = .returned (.bool x) ∧ St H w0 (.box b [.slice tp ts.length tc,.int .i64 (posN ts (up n gTr q) : Nat),.int .i64 (n : Nat),t0,t1,t2,t3,.int .i64 ((up n gTr q).o : Nat),.int .i64 ((up n gTr q).e : Nat)] 64 :: bs) W' := by
 refine Sx.enterS Tryd.func55 rfl Tryd.ntmps55 rfl s ?_
 refine .sr<|.a Z Z<|.nt<|.sq<|.sr<|.m Z Z<|.cs (X := Unit) Fx.call37 Z (fun W s => accept_ac K hq [116,114,117,101] (by decide +kernel) (s.pickT (hd := [_]) (tl := bs) (hd' := [_]) [0] Z Z)) Z fun _ _ => .nt<|.cd Z (fun h4 => ?_) (fun h4 => ?_)
 ·rw [acS_T h4]
  refine .sr<|.a Z Z<|.nt<|.rt<|.tR<|?_
  refine Sx.ret1 (.inl rfl) rfl (.tmp rfl) fun W s => ?_
  rw [show up n gTr q = q.tl by unfold gTr;rw [up_altT h4,up_pure]]
  exact ⟨true,(by unfold gTr;exact vl_altT h4 vl_pure),rfl,s.pickT (hd := [_]) (tl := bs) (hd' := [_]) [0] rfl rfl⟩
 rw [acS_F h4]
 refine .sk<|.tN<|.sr<|.m Z Z<|.cs (X := Unit) Fx.call38 Z (fun W s => expect_nd K hq [102,97,108,115,101] (by decide +kernel) (s.pickT (hd := [_]) (tl := bs) (hd' := [_]) [0] Z Z)) Z fun _ _ => .ns<|.a Z Z<|.nt<|.rt<|?_
 refine Sx.ret1 (.inl rfl) rfl (.tmp rfl) fun W s => ?_
 rw [show up n gTr q = up n (gNd [102,97,108,115,101]) q by unfold gTr;rw [up_altF h4,up_bind (x := ()) (Cz.nd _) vl_unit,up_pure]]
 exact ⟨false,(by unfold gTr;exact vl_altF h4 (vl_bind (n := n) vl_unit vl_pure)),rfl,s.pickT (hd := [_]) (tl := bs) (hd' := [_]) [0] rfl rfl⟩
set_option maxRecDepth 100000 in
theorem close_st {H : Hp} {w0 W : World} {bs : List Res} {b n : Nat} {ts : List Tk} {tp : Option Addr} {tc : Nat} {t0 t1 t2 t3 : Value} {q : Sg} (K : Tkm H ts tp tc) (hq : q.r <:+ ts) (s : St H w0 (.box b [.slice tp ts.length tc,.int .i64 (posN ts q : Nat),.int .i64 (n : Nat),t0,t1,t2,t3,.int .i64 (q.o : Nat),.int .i64 (q.e : Nat)] 64 :: bs) W) :
 Calls Tryd.prog 19 #[.pointer (some ⟨b,0,none⟩)] W fun e W' => ∃ _ : Unit,(True) ∧ e = .returned (.tuple #[.int .i64 ((q.cl n).o : Nat),.int .i64 ((q.cl n).e : Nat)]) ∧ St H w0 (.box b [.slice tp ts.length tc,.int .i64 (posN ts (q.cl n) : Nat),.int .i64 (n : Nat),t0,t1,t2,t3,.int .i64 ((q.cl n).o : Nat),.int .i64 ((q.cl n).e : Nat)] 64 :: bs) W' := by
 have hcap := K.rep.cap
 refine Sx.enterS Tryd.func19 rfl Tryd.ntmps19 rfl s ?_
 refine .sr<|.a Z Z<|.a Z Z<|.nt<|.sq<|.sq<|.fl (trip := [(_,_,_),(_,_,_),(_,_,_),(_,_,_),(_,_,_),(_,_,_),(_,_,_),(_,_,_),(_,_,_)]) 9 [(0,0),(1,0),(2,0),(3,0),(4,0),(5,0),(6,0),(7,0),(8,0)] (by kernel_rfl) (by kernel_rfl) Z<|.m Z Z<|.yv (.nilCheck Z) Z<|.yv (.fieldAddr Z Fx.field64_1) Z<|.yv (.load Z Fx.agg3 (.head _) Z) Z<|.m Z Z<|.yv (.nilCheck Z) Z<|.yv (.fieldAddr Z Fx.field64_0) Z<|.yv (.load Z Fx.agg62 (.head _) Z) Z<|.yv (.lenSl Fx.sl62 Z) Z<|.fn (tl := [_]) Z<|.yv (.lss Z Z) Z<|.nt<|.cd Z (fun h13 => ?_) (fun h13 => ?_)
 ·try simp only [dt] at h13
  have hi : posN ts q < ts.length := by omega
  obtain ⟨_,hr⟩ := posN_tk (n := n) hq hi
  have e1 : q.cl n = q.fail n 8 := by unfold Sg.cl;rw [if_neg hr]
  rw [e1]
  refine .rg<|.m Z Z<|.cs (X := Unit) Fx.call28 Z (fun W s => fail_st K hq 8 (s.pickT (hd := [_]) (tl := bs) (hd' := [_]) [0] Z Z)) Z fun _ _ => .nt<|.sq<|.fl (trip := [(_,_,_),(_,_,_),(_,_,_),(_,_,_),(_,_,_),(_,_,_),(_,_,_),(_,_,_),(_,_,_)]) 9 [(0,0),(1,0),(2,0),(3,0),(4,0),(5,0),(6,0),(7,0),(8,0)] (by kernel_rfl) (by kernel_rfl) Z<|.m Z Z<|.yv (.nilCheck Z) Z<|.yv (.fieldAddr Z Fx.field64_4) Z<|.yv (.load Z Fx.agg3 (.head _) Z) Z<|.m Z Z<|.yv (.nilCheck Z) Z<|.yv (.fieldAddr Z Fx.field64_5) Z<|.yv (.load Z Fx.agg32 (.head _) Z) Z<|.a Z Z<|.fn (tl := [_]) Z<|.a Z Z<|.nt<|.rt<|?_
  refine Sx.retN (.inl rfl) rfl (.cons (.tmp rfl) (.cons (.tmp rfl) .nil)) rfl fun W s => ⟨(),trivial,rfl,?_⟩
  exact s.pickT (hd := [_]) (tl := bs) (hd' := [_]) [0] rfl rfl
 try simp only [df] at h13
 have hr := posN_end hq (by omega)
 have e1 : q.cl n = q := by unfold Sg.cl;rw [if_pos hr]
 rw [e1]
 refine .sk<|.tN<|.sq<|.fl (trip := [(_,_,_),(_,_,_),(_,_,_),(_,_,_),(_,_,_),(_,_,_),(_,_,_),(_,_,_),(_,_,_)]) 9 [(0,0),(1,0),(2,0),(3,0),(4,0),(5,0),(6,0),(7,0),(8,0)] (by kernel_rfl) (by kernel_rfl) Z<|.m Z Z<|.yv (.nilCheck Z) Z<|.yv (.fieldAddr Z Fx.field64_4) Z<|.yv (.load Z Fx.agg3 (.head _) Z) Z<|.m Z Z<|.yv (.nilCheck Z) Z<|.yv (.fieldAddr Z Fx.field64_5) Z<|.yv (.load Z Fx.agg32 (.head _) Z) Z<|.a Z Z<|.fn (tl := [_]) Z<|.a Z Z<|.nt<|.rt<|?_
 refine Sx.retN (.inl rfl) rfl (.cons (.tmp rfl) (.cons (.tmp rfl) .nil)) rfl fun W s => ⟨(),trivial,rfl,?_⟩
 exact s.pickT (hd := [_]) (tl := bs) (hd' := [_]) [0] rfl rfl
theorem Fx.agg76 : aggN Tryd.prog 76 = Option.some (Option.some 2) := by kernel_rfl
theorem Fx.call80 : callN Tryd.prog 80 = Bool.true := by kernel_rfl
theorem Fx.field76_0 : fieldN Tryd.prog 76 0 = Option.some 0 := by kernel_rfl
theorem Fx.field76_1 : fieldN Tryd.prog 76 1 = Option.some 1 := by kernel_rfl
theorem Fx.int2 : intN Tryd.prog 2 = Option.some Go.IntKind.i64 := by kernel_rfl
theorem Fx.size76 : sizeN Tryd.prog 76 = Option.some 2 := by kernel_rfl
theorem Fx.sl97 : slN Tryd.prog 97 = Option.some 2 := by kernel_rfl
theorem Fx.zero76 : zeroN Tryd.prog 76 = Option.some [Go.Value.string { data := { toList := [] } },Go.Value.int Go.IntKind.u8 (Int.ofNat 0)] := by kernel_rfl
theorem u8w {c : UInt8} (h : 48 ≤ c.toNat) : IntKind.u8.wrap ((c.toNat : Int) - 48) = ((c.toNat - 48 : Nat) : Int) := by
 have key : ∀ i ∈ List.range 256,IntKind.u8.wrap (i : Int) = (i : Int) := by decide +kernel
 rw [show (c.toNat : Int) - 48 = ((c.toNat - 48 : Nat) : Int) by omega]
 exact key _ (List.mem_range.2 (by have := c.toNat_lt;omega))
theorem dig_rng {c : UInt8} (h : digB c = true) : 48 ≤ c.toNat ∧ c.toNat ≤ 57 := by
 have key : ∀ i ∈ List.range 256,digB (UInt8.ofNat i) = true → 48 ≤ i ∧ i ≤ 57 := by decide +kernel
 exact key c.toNat (List.mem_range.2 c.toNat_lt) (by rw [UInt8.ofNat_toNat];exact h)
def valE (t : Tk) : Nat := if t.k = 3 then (if numV t.t ≤ 9223372036854775807 then 0 else 2) else 1
def valV (t : Tk) : Nat := if t.k = 3 ∧ numV t.t ≤ 9223372036854775807 then numV t.t else 0
theorem val_ok {t : Tk} (h : t.k = 3) (hn : numV t.t ≤ 9223372036854775807) : valE t = 0 ∧ valV t = numV t.t := ⟨by unfold valE;rw [if_pos h,if_pos hn],by unfold valV;rw [if_pos ⟨h,hn⟩]⟩
theorem val_big {t : Tk} (h : t.k = 3) (hn : ¬ numV t.t ≤ 9223372036854775807) : valE t = 2 ∧ valV t = 0 := ⟨by unfold valE;rw [if_pos h,if_neg hn],by unfold valV;rw [if_neg (fun k => hn k.2)]⟩
theorem val_no {t : Tk} (h : ¬ t.k = 3) : valE t = 1 ∧ valV t = 0 := ⟨by unfold valE;rw [if_neg h],by unfold valV;rw [if_neg (fun k => h k.1)]⟩
set_option maxRecDepth 100000 in
theorem value_any (t : Tk) (hd : t.k = 3 → pre digB t.t = t.t.length ∧ ¬ t.t = []) (hl : t.t.length ≤ 1000000) (w : World) :
 Calls Tryd.prog 80 #[.agg (cTk .u8 t).toArray] w fun r w' => r = .returned (.tuple #[.int .i64 (valV t : Nat),.int .i64 (valE t : Nat)]) ∧ Ext w w' := by
 refine Sx.enter (H := (fun _ => none)) Tryd.func80 rfl Tryd.ntmps80 rfl (fun _ _ e => by cases e) ?_
 refine .sr<|.bx Z Z Z fun b1 => .a Z Z<|.a Z Z<|.nt<|.sq<|.sq<|.fl (trip := [(_,_,_),(_,_,_),(_,_,_),(_,_,_),(_,_,_),(_,_,_),(_,_,_),(_,_,_),(_,_,_),(_,_,_),(_,_,_),(_,_,_),(_,_,_),(_,_,_),(_,_,_),(_,_,_)]) 16 [(0,0),(1,0),(2,0),(3,0),(4,0),(5,0),(6,0),(7,0),(8,0),(9,0),(10,0),(11,0),(12,0),(13,0),(14,0),(15,0)] (by kernel_rfl) (by kernel_rfl) Z<|.yv (.fieldAddr Z Fx.field73_0) Z<|.yv (.load Z Fx.agg71 (.head _) Z) Z<|.yv (.neq Z Z) Z<|.m Z Z<|.b2 (fun h10 => ?_) (fun h10 => ?_)
 ·have hk : ¬ t.k = 3 := fun e => of_decide_eq_true h10 (by rw [e];rfl)
  obtain ⟨hv1,hv2⟩ := val_no hk
  refine .gF Z Z Z Z<|.gF Z Z Z Z<|.gF Z Z Z Z<|.yv (.pickT Z Z) Z<|.m Z Z<|.gF Z Z Z Z<|.gF Z Z Z Z<|.gF Z Z Z Z<|.gF Z Z Z Z<|.gF Z Z Z Z<|.gF Z Z Z Z<|.gF Z Z Z Z<|.fn (tl := [_]) Z<|.yv (.pickT Z Z) Z<|.nt<|.cT Z<|.sr<|.a Z Z<|.a Z Z<|.nt<|.rt<|.tR<|?_
  refine Sx.retN (.inl rfl) rfl (.cons (.tmp rfl) (.cons (.tmp rfl) .nil)) rfl fun W s => ⟨?_,s.ext⟩
  first
   | (rw [hv1,hv2];rfl)
   | (rw [hv1,hv2,List.take_length];rfl)
   | (rw [hv1,hv2,List.take_length])
 have hk : t.k = 3 := UInt8.toNat_inj.1 (by have := Classical.not_not.1 (of_decide_eq_false h10);exact Int.ofNat.inj this)
 obtain ⟨hd1,hd2⟩ := hd hk
 have hall := List.all_eq_true.1 (pre_all hd1)
 refine .yg Z Z (.fieldAddr Z Fx.field73_1) Z<|.yg Z Z (.load Z Fx.agg9 (.head _) Z) Z<|.yg Z Z (.cast (.eqS Z Z) (congrArg Value.bool (decide_eq_false hd2))) Z<|.yv (.pickF Z Z) Z<|.m Z Z<|.yg Z Z (.fieldAddr Z Fx.field73_1) Z<|.yg Z Z (.load Z Fx.agg9 (.head _) Z) Z<|.yg Z Z (.call Fx.call67 Z (fun W s => prefix_any 74 digB Fx.call74 digit_any t.t (by omega) W)) Z<|.yg Z Z (.fieldAddr Z Fx.field73_1) Z<|.yg Z Z (.load Z Fx.agg9 (.head _) Z) Z<|.yg Z Z (.lenS Fx.str9 Z) Z<|.yg Z Z (.cast (.neq Z Z) (congrArg Value.bool (decide_eq_false (by rw [hd1];simp)))) Z<|.fn (tl := [_]) Z<|.yv (.pickF Z Z) Z<|.nt<|.cF Z<|.sk<|.tN<|.sr<|.a Z Z<|.nt<|.sq<|.sr<|.yv (.fieldAddr Z Fx.field73_1) Z<|.yv (.load Z Fx.agg9 (.head _) Z) Z<|.yv (.lenS Fx.str9 Z) Z<|.m Z Z<|.nt<|.bk<|.lp (X := Nat) [(1,_),(26,_)] ⟨rfl,rfl,trivial⟩ [_] (fun k => [(27,.int .i64 (k : Nat)),(4,.int .i64 (numV (t.t.take k) : Nat))]) (fun k => (fun _ => none)) (fun k => []) (fun k => k ≤ t.t.length ∧ numV (t.t.take k) ≤ 9223372036854775807) (fun k => t.t.length - k) 0 (fun _ s => s) ⟨rfl,rfl,trivial⟩ ⟨Nat.zero_le _,by simp [numV_zero]⟩ fun k hC => ?_
 obtain ⟨hk0,hv0⟩ := hC
 refine .sr<|.yv (.lss Z Z) Z<|.nt<|.sq<|.cd Z (fun h28 => ?_) (fun h28 => ?_)
 ·try simp only [dt] at h28
  have hlt : k < t.t.length := by omega
  obtain ⟨c,hc⟩ : ∃ c,c = t.t[k] := ⟨_,rfl⟩
  obtain ⟨hc1,hc2⟩ := dig_rng (hall c (by rw [hc];exact List.getElem_mem hlt))
  have hst : numV (t.t.take (k + 1)) = 10 * numV (t.t.take k) + (c.toNat - 48) := numV_step (by rw [hc];exact List.getElem?_eq_getElem hlt)
  have hle := numV_take t.t (k + 1)
  rw [hst] at hle
  refine .sk<|.tN<|.sq<|.bk<|.sr<|.m Z Z<|.a Z Z<|.ns<|.yv (.fieldAddr Z Fx.field73_1) Z<|.yv (.load Z Fx.agg9 (.head _) Z) Z<|.m Z Z<|.yv (.idxS Fx.str9 Z Z Z (b := c) (j := k) (by rw [hc];exact List.getElem?_eq_getElem hlt)) Z<|.yv (.sub Z Z (u8w hc1)) Z<|.yv (.conv Z Fx.int5 Fx.int2 (c := ((c.toNat - 48 : Nat) : Int)) (w6 (by omega))) Z<|.a Z Z<|.nt<|.sq<|.sr<|.m Z Z<|.m Z Z<|.yv (.sub Z Z (c := ((9223372036854775807 - (c.toNat - 48) : Nat) : Int)) ((w6 (by omega)).trans (by omega))) Z<|.yv (.quo Z Z (by decide) (c := (((9223372036854775807 - (c.toNat - 48)) / 10 : Nat) : Int)) (by rw [Int.tdiv_eq_ediv_of_nonneg (by omega)];exact (w6 (by omega)).trans (by omega))) Z<|.yv (.gtr Z Z) Z<|.nt<|.cd Z (fun h40 => ?_) (fun h40 => ?_)
  ·try simp only [dt] at h40
   obtain ⟨hv1,hv2⟩ := val_big hk (show ¬ numV t.t ≤ 9223372036854775807 by omega)
   refine .sr<|.a Z Z<|.a Z Z<|.nt<|.rt<|.tR<|.bR<|.tR<|.tR<|.bR<|.tR<|?_
   refine Sx.retN (.inl rfl) rfl (.cons (.tmp rfl) (.cons (.tmp rfl) .nil)) rfl fun W s => ⟨?_,s.ext⟩
   first
    | (rw [hv1,hv2];rfl)
    | (rw [hv1,hv2,List.take_length];rfl)
    | (rw [hv1,hv2,List.take_length])
  try simp only [df] at h40
  have hb : 10 * numV (t.t.take k) + (c.toNat - 48) ≤ 9223372036854775807 := by omega
  exact .sk<|.tN<|.rg<|.m Z Z<|.yv (.mul Z Z (c := ((10 * numV (t.t.take k) : Nat) : Int)) ((w6 (by omega)).trans (by omega))) Z<|.m Z Z<|.yv (.add Z Z (c := ((10 * numV (t.t.take k) + (c.toNat - 48) : Nat) : Int)) ((w6 (by omega)).trans (by omega))) Z<|.a Z Z<|.nl<|.bN<|.tN<|.rg<|.yv (.add Z Z (w6 (by omega))) Z<|.m Z Z<|.nt<|.ag (k + 1) ⟨rfl,by rw [hst];rfl,trivial⟩ ⟨rfl,rfl,trivial⟩ (fun _ s => s) ⟨by omega,by rw [hst];omega⟩ (by omega)
 try simp only [df] at h28
 obtain rfl : k = t.t.length := by omega
 rw [List.take_length] at hv0
 obtain ⟨hv1,hv2⟩ := val_ok hk hv0
 refine .ex<|.tE<|.tE<|.bE<|.tN<|.sr<|.m Z Z<|.a Z Z<|.a Z Z<|.nt<|.rt<|?_
 refine Sx.retN (.inl rfl) rfl (.cons (.tmp rfl) (.cons (.tmp rfl) .nil)) rfl fun W s => ⟨?_,s.ext⟩
 first
  | (rw [hv1,hv2];rfl)
  | (rw [hv1,hv2,List.take_length];rfl)
  | (rw [hv1,hv2,List.take_length])
theorem nu_ok {n : Nat} {q : Sg} (h0 : q.e = 0) (hk : (tkH n q.r).k = 3) (hn : numV (tkH n q.r).t ≤ 9223372036854775807) : up n gNu q = q.tl ∧ vl gNu q (Int64.ofNat (numV (tkH n q.r).t)) := by
 cases hr : q.r with
 | nil => rw [hr] at hk;cases hk
 | cons t l =>
  rw [hr] at hk hn
  have e : gNu q.r = .ok (Int64.ofNat (numV t.t)) l := by
   unfold gNu
   rw [hr]
   simp only [show t.k = 3 from hk,if_true,show numV t.t ≤ 9223372036854775807 from hn]
  refine ⟨?_,fun _ a r e2 => ?_⟩
  ·unfold up Sg.tl
   rw [if_pos h0,e,hr]
   rfl
  ·rw [e] at e2
   injection e2
theorem nu_big {n : Nat} {q : Sg} (hk : (tkH n q.r).k = 3) (hn : ¬ numV (tkH n q.r).t ≤ 9223372036854775807) : up n gNu q = q.fail n 2 ∧ ∀ x,vl gNu q x := by
 cases hr : q.r with
 | nil => rw [hr] at hk;cases hk
 | cons t l =>
  rw [hr] at hk hn
  have e : gNu q.r = .er q.r 2 := by
   unfold gNu
   rw [hr]
   simp only [show t.k = 3 from hk,if_true,show ¬ numV t.t ≤ 9223372036854775807 from hn,if_false]
  refine ⟨?_,fun x _ a r e2 => ?_⟩
  ·unfold up Sg.fail
   split
   ·rw [e]
   ·rfl
  ·rw [e] at e2
   cases e2
theorem nu_no {n : Nat} {q : Sg} (hk : ¬ (tkH n q.r).k = 3) : up n gNu q = q.fail n 8 ∧ ∀ x,vl gNu q x := by
 have e : gNu q.r = .er q.r 8 := by
  unfold gNu
  cases hr : q.r with
  | nil => rfl
  | cons t l =>
   rw [hr] at hk
   simp only [show ¬ t.k = 3 from hk,if_false]
 refine ⟨?_,fun x _ a r e2 => ?_⟩
 ·unfold up Sg.fail
  split
  ·rw [e]
  ·rfl
 ·rw [e] at e2
  cases e2
theorem fail_e {n c : Nat} {q : Sg} (hc : c ≠ 0) : (q.fail n c).e ≠ 0 := by
 unfold Sg.fail
 split
 ·exact hc
 ·assumption
theorem i64N {n : Nat} (h : n ≤ 9223372036854775807) : (Int64.ofNat n).toInt = (n : Int) := Int64.toInt_ofNat_of_lt (by omega)
theorem val_e0 {t : Tk} (h : valE t = 0) : t.k = 3 ∧ numV t.t ≤ 9223372036854775807 := by
 unfold valE at h
 split at h
 ·split at h
  ·exact ⟨by assumption,by assumption⟩
  ·cases h
 ·cases h
theorem val_e2 {t : Tk} (h : valE t = 2) : t.k = 3 ∧ ¬ numV t.t ≤ 9223372036854775807 := by
 unfold valE at h
 split at h
 ·split at h
  ·cases h
  ·exact ⟨by assumption,by assumption⟩
 ·cases h
theorem val_e1 {t : Tk} (h : ¬ valE t = 0) (h2 : ¬ valE t = 2) : ¬ t.k = 3 := by
 intro k
 unfold valE at h h2
 rw [if_pos k] at h h2
 split at h
 ·exact h rfl
 ·rename_i e
  rw [if_neg e] at h2
  exact h2 rfl
theorem tk_num {H : Hp} {q : Sg} {ts : List Tk} {tp : Option Addr} {tc n : Nat} (K : Tkm H ts tp tc) (h : q.r <:+ ts) : (tkH n q.r).k = 3 → pre digB (tkH n q.r).t = (tkH n q.r).t.length ∧ ¬ (tkH n q.r).t = [] := by
 intro hk
 rcases tkH_mem (n := n) h with e | e
 ·rw [e] at hk;cases hk
 ·exact ⟨K.num _ e hk,(K.good _ e).2.2⟩
set_option maxRecDepth 100000 in
theorem number_st {H : Hp} {w0 W : World} {bs : List Res} {b n : Nat} {ts : List Tk} {tp : Option Addr} {tc : Nat} {t0 t1 t2 t3 : Value} {q : Sg} (K : Tkm H ts tp tc) (hq : q.r <:+ ts) (s : St H w0 (.box b [.slice tp ts.length tc,.int .i64 (posN ts q : Nat),.int .i64 (n : Nat),t0,t1,t2,t3,.int .i64 (q.o : Nat),.int .i64 (q.e : Nat)] 64 :: bs) W) :
 Calls Tryd.prog 56 #[.pointer (some ⟨b,0,none⟩)] W fun e W' => ∃ x : Int64,(vl gNu q x) ∧ e = .returned (.int .i64 x.toInt) ∧ St H w0 (.box b [.slice tp ts.length tc,.int .i64 (posN ts (up n gNu q) : Nat),.int .i64 (n : Nat),t0,t1,t2,t3,.int .i64 ((up n gNu q).o : Nat),.int .i64 ((up n gNu q).e : Nat)] 64 :: bs) W' := by
 have hcap := K.rep.cap
 refine Sx.enterS Tryd.func56 rfl Tryd.ntmps56 rfl s ?_
 refine .sr<|.a Z Z<|.ns<|.m Z Z<|.cs (X := Unit) Fx.call51 Z (fun W s => token_st K hq  (s.pickT (hd := [_]) (tl := bs) (hd' := [_]) [0] Z Z)) Z fun _ _ => .yv (.call Fx.call80 Z (fun W s => value_any (tkH n q.r) (tk_num K hq) (K.tk hq) W)) Z<|.m Z Z<|.yv (.extract Z Z) Z<|.yv (.extract Z Z) Z<|.a Z Z<|.a Z Z<|.nt<|.sq<|.sr<|.m Z Z<|.nt<|.bk<|.sr<|.yv (.eql Z Z) Z<|.a Z Z<|.nt<|.cd Z (fun h14 => ?_) (fun h14 => ?_)
 ·try simp only [dt] at h14
  have he : valE (tkH n q.r) = 0 := by omega
  obtain ⟨hk,hn⟩ := val_e0 he
  have hv2 := (val_ok hk hn).2
  refine .sk<|.bN<|.tN<|.sq<|.sr<|.m Z Z<|.yv (.nilCheck Z) Z<|.yv (.fieldAddr Z Fx.field64_5) Z<|.yv (.load Z Fx.agg32 (.head _) Z) Z<|.yv (.neq Z Z) Z<|.nt<|.cd Z (fun h24 => ?_) (fun h24 => ?_)
  ·try simp only [dt] at h24
   have h0 : ¬ q.e = 0 := by omega
   rw [show up n gNu q = q from up_er h0]
   refine .sr<|.a Z Z<|.nt<|.rt<|.tR<|?_
   refine Sx.ret1 (.inl rfl) rfl (.tmp rfl) fun W s => ?_
   exact ⟨0,(vl_er h0),rfl,s.pickT (hd := [_]) (tl := bs) (hd' := [_]) [0] rfl rfl⟩
  try simp only [df] at h24
  have h0 : q.e = 0 := by omega
  obtain ⟨e1,hv⟩ := nu_ok h0 hk hn
  rw [e1]
  obtain ⟨hp,hi⟩ := posN_tl hq (tkH_ne (n := n) (by rw [hk];decide))
  refine .sk<|.tN<|.sr<|.m Z Z<|.yv (.nilCheck Z) Z<|.yv (.fieldAddr Z Fx.field64_1) Z<|.yv (.load Z Fx.agg3 (.head _) Z) Z<|.yv (.add Z Z (c := ((posN ts q.tl : Nat) : Int)) ((w6 (by omega)).trans (by omega))) Z<|.yv (.nilCheck Z) Z<|.yv (.fieldAddr Z Fx.field64_1) Z<|.st .head Z Z Fx.size3 Z (nb Z) Z<|.ns<|.m Z Z<|.a Z Z<|.nt<|.rt<|?_
  refine Sx.ret1 (.inl rfl) rfl (.tmp rfl) fun W s => ?_
  exact ⟨Int64.ofNat (numV (tkH n q.r).t),hv,(by rw [hv2,i64N hn]),s.pickT (hd := [_]) (tl := bs) (hd' := [_]) [0] rfl rfl⟩
 try simp only [df] at h14
 have he : ¬ valE (tkH n q.r) = 0 := by omega
 refine .sr<|.yv (.eql Z Z) Z<|.a Z Z<|.nt<|.cd Z (fun h16 => ?_) (fun h16 => ?_)
 ·try simp only [dt] at h16
  have he2 : valE (tkH n q.r) = 2 := by omega
  obtain ⟨hk,hn⟩ := val_e2 he2
  obtain ⟨e1,hv⟩ := nu_big (n := n) hk hn
  rw [e1]
  refine .rg<|.m Z Z<|.cs (X := Unit) Fx.call28 Z (fun W s => fail_st K hq 2 (s.pickT (hd := [_]) (tl := bs) (hd' := [_]) [0] Z Z)) Z fun _ _ => .nl<|.bN<|.tN<|.sq<|.sr<|.m Z Z<|.yv (.nilCheck Z) Z<|.yv (.fieldAddr Z Fx.field64_5) Z<|.yv (.load Z Fx.agg32 (.head _) Z) Z<|.yv (.neq Z Z) Z<|.nt<|.cd Z (fun h24 => ?_) (fun h24 => ?_)
  ·skip
   refine .sr<|.a Z Z<|.nt<|.rt<|.tR<|?_
   refine Sx.ret1 (.inl rfl) rfl (.tmp rfl) fun W s => ?_
   exact ⟨0,(hv 0),rfl,s.pickT (hd := [_]) (tl := bs) (hd' := [_]) [0] rfl rfl⟩
  exact absurd (show (q.fail n 2).e = 0 by have := Classical.not_not.1 (of_decide_eq_false h24);omega) (fail_e (by decide))
 try simp only [df] at h16
 have he2 : ¬ valE (tkH n q.r) = 2 := by omega
 have hk := val_e1 he he2
 obtain ⟨e1,hv⟩ := nu_no (n := n) hk
 rw [e1]
 refine .rg<|.m Z Z<|.cs (X := Unit) Fx.call28 Z (fun W s => fail_st K hq 8 (s.pickT (hd := [_]) (tl := bs) (hd' := [_]) [0] Z Z)) Z fun _ _ => .nl<|.bN<|.tN<|.sq<|.sr<|.m Z Z<|.yv (.nilCheck Z) Z<|.yv (.fieldAddr Z Fx.field64_5) Z<|.yv (.load Z Fx.agg32 (.head _) Z) Z<|.yv (.neq Z Z) Z<|.nt<|.cd Z (fun h24 => ?_) (fun h24 => ?_)
 ·skip
  refine .sr<|.a Z Z<|.nt<|.rt<|.tR<|?_
  refine Sx.ret1 (.inl rfl) rfl (.tmp rfl) fun W s => ?_
  exact ⟨0,(hv 0),rfl,s.pickT (hd := [_]) (tl := bs) (hd' := [_]) [0] rfl rfl⟩
 exact absurd (show (q.fail n 8).e = 0 by have := Classical.not_not.1 (of_decide_eq_false h24);omega) (fail_e (by decide))
def dSy (x : Str × UInt8) : D := .str [.val (strV x.1),.val (.int .u8 x.2.toNat)]
theorem sy_open {H : Hp} {x : Str × UInt8} {cs : List Value} (h : Rep H (dSy x) cs) : cs = [strV x.1,.int .u8 x.2.toNat] := by
 rw [dSy,repS] at h
 obtain ⟨_,rfl,_,_,h⟩ := repL_val.1 h
 obtain ⟨_,rfl,_,_,h⟩ := repL_val.1 h
 rw [repL_nil] at h
 subst h
 rfl
theorem sy_shut {H : Hp} {x : Str × UInt8} (h : x.1.length ≤ 1000000) : Rep H (dSy x) [strV x.1,.int .u8 x.2.toNat] := by
 rw [dSy,repS]
 exact repL_val.2 ⟨_,rfl,rfl,okS.2 h,repL_val.2 ⟨_,rfl,rfl,trivial,repL_nil.2 rfl⟩⟩
def opF (L : List (Str × UInt8)) (q : Sg) : Option UInt8 := (L.find? fun x => ac x.1 q).map (·.2)
def opZ (L : List (Str × UInt8)) (q : Sg) : Sg := if (opF L q).isSome then q.tl else q
theorem opF_none {L : List (Str × UInt8)} {q : Sg} (h : ∀ i,i < L.length → ∀ x,L[i]? = some x → ac x.1 q = false) : opF L q = none := by
 unfold opF
 rw [Option.map_eq_none_iff,List.find?_eq_none]
 intro x hx
 obtain ⟨i,hi,rfl⟩ := List.getElem_of_mem hx
 rw [h i hi _ (List.getElem?_eq_getElem hi)]
 decide
theorem opF_at : ∀ {L : List (Str × UInt8)} {q : Sg} {k : Nat} (hk : k < L.length),(∀ i,i < k → ∀ x,L[i]? = some x → ac x.1 q = false) → ac L[k].1 q = true → opF L q = some L[k].2
 | [],q,k,hk,_,_ => by cases hk
 | x :: L,q,0,hk,_,h => by
  unfold opF
  rw [List.find?_cons_of_pos (by exact h)]
  rfl
 | x :: L,q,k + 1,hk,hn,h => by
  have h0 := hn 0 (by omega) x rfl
  have := opF_at (L := L) (q := q) (k := k) (by simpa using hk) (fun i hi y hy => hn (i + 1) (by omega) y (by simpa using hy)) (by simpa using h)
  unfold opF at this ⊢
  rw [List.find?_cons_of_neg (by rw [h0];decide)]
  simpa using this
theorem opF_opS (lv : Nat) (q : Sg) : opF (opsL lv) q = opS lv q := by
 unfold opF opS opAt ac
 by_cases h0 : q.e = 0
 ·simp only [h0,decide_true,Bool.true_and,if_true]
 ·simp only [h0,decide_false,Bool.false_and,if_false]
  rw [List.find?_eq_none.2 (by simp)]
  rfl
theorem opF_mu {L : List (Str × UInt8)} {q : Sg} {op : UInt8} (h : opF L q = some op) : q.tl.mu < q.mu := by
 unfold opF at h
 obtain ⟨x,hx,_⟩ := Option.map_eq_some_iff.1 h
 exact mu_tl (w := x.1) (List.find?_some (p := fun x : Str × UInt8 => ac x.1 q) hx)
set_option maxRecDepth 100000 in
theorem operator_st {H : Hp} {w0 W : World} {bs : List Res} {b n : Nat} {ts : List Tk} {tp : Option Addr} {tc : Nat} {t0 t1 t2 t3 : Value} {q : Sg} (K : Tkm H ts tp tc) (hq : q.r <:+ ts) (L : List (Str × UInt8)) (hL : ∀ x ∈ L,x.1 ∈ words ∨ x.1 ∈ symbols) (lp : Option Addr) (lc : Nat) (hs : Rep H (.seq 2 (L.map dSy)) [.slice lp L.length lc]) (s : St H w0 (.box b [.slice tp ts.length tc,.int .i64 (posN ts q : Nat),.int .i64 (n : Nat),t0,t1,t2,t3,.int .i64 (q.o : Nat),.int .i64 (q.e : Nat)] 64 :: bs) W) :
 Calls Tryd.prog 49 #[.pointer (some ⟨b,0,none⟩),.slice lp L.length lc] W fun e W' => ∃ _ : Unit,(True) ∧ e = .returned (.tuple #[.int .u8 ((opF L q).getD 0).toNat,.bool (opF L q).isSome]) ∧ St H w0 (.box b [.slice tp ts.length tc,.int .i64 (posN ts (opZ L q) : Nat),.int .i64 (n : Nat),t0,t1,t2,t3,.int .i64 ((opZ L q).o : Nat),.int .i64 ((opZ L q).e : Nat)] 64 :: bs) W' := by
 have hcap := hs.cap
 refine Sx.enterS Tryd.func49 rfl Tryd.ntmps49 rfl s ?_
 refine .sr<|.a Z Z<|.a Z Z<|.nt<|.sq<|.sr<|.m Z Z<|.yv (.lenSl Fx.sl97 Z) Z<|.m Z Z<|.nt<|.bk<|.lp (X := Nat) [(0,_),(8,_),(9,_)] ⟨rfl,rfl,rfl,trivial⟩ (_ :: bs) (fun k => [(10,.int .i64 (k : Nat))]) (fun k => H) (fun k => []) (fun k => k ≤ L.length ∧ ∀ i,i < k → ∀ x,L[i]? = some x → ac x.1 q = false) (fun k => L.length - k) 0 (fun _ s => s) ⟨rfl,trivial⟩ ⟨Nat.zero_le _,fun i hi => by omega⟩ fun k hC => ?_
 obtain ⟨hk0,hno⟩ := hC
 refine .sr<|.yv (.lss Z Z) Z<|.nt<|.sq<|.cd Z (fun h11 => ?_) (fun h11 => ?_)
 ·try simp only [dt] at h11
  have hk : k < L.length := by omega
  obtain ⟨bE,oE,cE,hpE,rE,lE,mE⟩ := hs.elem (map_at (f := dSy) hk)
  cases hpE
  have hw := hL L[k] (List.getElem_mem hk)
  obtain rfl := sy_open rE
  refine .sk<|.tN<|.sq<|.bk<|.sr<|.yv (.indexSl Fx.sl97 Z Z Z (by omega) (q := oE + k * 2) Z) Z<|.yv (.loadMW Z Fx.agg76 mE Z) Z<|.al Fx.zero76 Z fun b7 => .sW .head Z Z Fx.size76 (by simp [Value.oneCell',strV]) Z<|.ns<|.m Z Z<|.yv (.fieldAddr Z Fx.field76_0) Z<|.yv (.load Z Fx.agg9 (.head _) Z) Z<|.cs (X := Unit) Fx.call37 Z (fun W s => accept_ac K hq L[k].1 hw (s.pickT (hd := [_,_]) (tl := bs) (hd' := [_,_]) [1,0] Z Z)) Z fun _ _ => .nt<|.cd Z (fun h17 => ?_) (fun h17 => ?_)
  ·rw [acS_T h17]
   have hf := opF_at hk hno h17
   rw [show opZ L q = q.tl by unfold opZ;rw [hf];rfl]
   refine .sr<|.yv (.fieldAddr Z Fx.field76_1) Z<|.yv (.load Z Fx.agg28 (.tail _<|.head _) Z) Z<|.a Z Z<|.a Z Z<|.nt<|.rt<|.bR<|.tR<|.tR<|.bR<|.tR<|?_
   refine Sx.retN (.inl rfl) rfl (.cons (.tmp rfl) (.cons (.tmp rfl) .nil)) rfl fun W s => ⟨(),trivial,(by rw [hf];rfl),?_⟩
   exact s.pickT (hd := [_,_]) (tl := bs) (hd' := [_]) [0] rfl rfl
  rw [acS_F h17]
  exact .sk<|.bN<|.tN<|.rg<|.yv (.add Z Z (w6 (by omega))) Z<|.m Z Z<|.nt<|.ag (k + 1) ⟨rfl,trivial⟩ ⟨rfl,rfl,rfl,trivial⟩ (fun _ s => (s.pickT (hd := [_,_]) (tl := bs) (hd' := [_]) [0] Z Z)) ⟨by omega,fun i hi x hx => by
   by_cases hik : i = k
   ·subst hik
    rw [List.getElem?_eq_getElem hk] at hx
    cases hx
    exact h17
   ·exact hno i (by omega) x hx⟩ (by omega)
 try simp only [df] at h11
 obtain rfl : k = L.length := by omega
 have hn := opF_none hno
 rw [show opZ L q = q by unfold opZ;rw [hn];rfl]
 refine .ex<|.tE<|.tE<|.bE<|.tN<|.sr<|.a Z Z<|.a Z Z<|.nt<|.rt<|?_
 refine Sx.retN (.inl rfl) rfl (.cons (.tmp rfl) (.cons (.tmp rfl) .nil)) rfl fun W s => ⟨(),trivial,(by rw [hn];rfl),?_⟩
 exact s.pickT (hd := [_]) (tl := bs) (hd' := [_]) [0] rfl rfl
theorem textE_good {e : Ex} (h : checkE e = 0) : Ex.all frmE e = true ∧ e.text.length ≤ 1000000000 := by
 unfold checkE at h
 split at h
 ·cases h
 split at h
 ·cases h
 split at h
 ·cases h
 rename_i h1 h2 h3
 have := text_len8 (e := e) (by omega) (by simpa using h2) (by simpa using h3)
 exact ⟨by simpa using h3,by omega⟩
theorem ex_len {H : Hp} {k : IntKind} {e : Ex} {cs : List Value} (h : Rep H (dEx k e) cs) : cs.length = 4 := by
 obtain ⟨op,nm,n,args⟩ := e
 obtain ⟨p,c,rfl,_⟩ := ex_open h
 rfl
set_option maxRecDepth 100000 in
theorem printExpr_any (H : Hp) (G : Gl H) (g : Gt H) (e : Ex) (cs : List Value) (h : Rep H (dEx .u8 e) cs) (he : e.depth ≤ 1000000) (w : World) (hA : Agr H w) :
 Calls Tryd.prog 14 #[.agg cs.toArray] w fun r w' => r = .returned (strV (if checkE e = 0 then e.text else [])) ∧ Ext w w' := by
 refine Sx.enter (H := H) Tryd.func14 rfl Tryd.ntmps14 rfl hA ?_
 refine .sr<|.bx Z Z Z fun b1 => .a Z Z<|.nt<|.sq<|.sr<|.yv (.loadW Z Fx.agg31 (.head _) (ex_len h)) Z<|.yv (.call Fx.call20 Z (fun W s => checkExpr_any H G e _ h he W s.agr)) Z<|.yv (.neq Z Z) Z<|.nt<|.cd Z (fun h5 => ?_) (fun h5 => ?_)
 ·try simp only [dt] at h5
  refine .sr<|.a Z Z<|.nt<|.rt<|.tR<|?_
  refine Sx.ret1 (.inl rfl) rfl (.tmp rfl) fun W s => ⟨?_,s.ext⟩
  first
   | (rw [if_neg (by omega)];rfl)
   | (rw [if_pos hck])
 try simp only [df] at h5
 have hck : checkE e = 0 := by simp at h5;omega
 obtain ⟨hf,hl⟩ := textE_good hck
 refine .sk<|.tN<|.sr<|.yv (.loadW Z Fx.agg31 (.head _) (ex_len h)) Z<|.yv (.call Fx.call22 Z (fun W s => text_any H G g e _ W h hf hl s.agr)) Z<|.a Z Z<|.nt<|.rt<|?_
 refine Sx.ret1 (.inl rfl) rfl (.tmp rfl) fun W s => ⟨?_,s.ext⟩
 first
  | (rw [if_neg (by omega)];rfl)
  | (rw [if_pos hck])
theorem Fx.call49 : callN Tryd.prog 49 = Bool.true := by kernel_rfl
theorem Fx.bld31_0_3 (x0 : Int) (x3p : Option Addr) (x3n x3c : Nat) : buildN Tryd.prog 31 [(0,.int .u8 x0),(3,.slice x3p x3n x3c)] = some [.int .u8 x0,.string ⟨#[]⟩,.int .i64 0,.slice x3p x3n x3c] := by kernel_rfl
theorem Fx.bsl29_2 (x00 x01 x02 x03 : Value) (x10 x11 x12 x13 : Value) : bslN Tryd.prog 29 2 [(0,.agg [x00,x01,x02,x03].toArray),(1,.agg [x10,x11,x12,x13].toArray)] = some (31,[x00,x01,x02,x03,x10,x11,x12,x13]) := by kernel_rfl
def ExC (f : FuncId) (g : Pz Ex) (M : Nat) : Prop := ∀ {H : Hp} {w0 W : World} {bs : List Res} {b n : Nat} {ts : List Tk} {tp : Option Addr} {tc : Nat} {t0 t1 t2 t3 : Value} {q : Sg},(_ :  Tkm H ts tp tc) → (_ : q.r <:+ ts) → q.mu < M → St H w0 (.box b [.slice tp ts.length tc,.int .i64 (posN ts q : Nat),.int .i64 (n : Nat),t0,t1,t2,t3,.int .i64 (q.o : Nat),.int .i64 (q.e : Nat)] 64 :: bs) W →
 Calls Tryd.prog f #[.pointer (some ⟨b,0,none⟩)] W fun e W' => ∃ z : Ex × List Value × Hp,(vl g q z.1 ∧ HUp w0 H z.2.2 ∧ Rep z.2.2 (dEx .u8 z.1) z.2.1) ∧ e = .returned (.agg z.2.1.toArray) ∧ St z.2.2 w0 (.box b [.slice tp ts.length tc,.int .i64 (posN ts (up n g q) : Nat),.int .i64 (n : Nat),t0,t1,t2,t3,.int .i64 ((up n g q).o : Nat),.int .i64 ((up n g q).e : Nat)] 64 :: bs) W'
theorem ExC.le {f : FuncId} {g : Pz Ex} {M M' : Nat} (h : ExC f g M) (hm : M' ≤ M) : ExC f g M' := fun K hq hmu s => h K hq (by omega) s
theorem ExC.zero (f : FuncId) (g : Pz Ex) : ExC f g 0 := fun _ _ h _ => absurd h (Nat.not_lt_zero _)
theorem four {l : List Value} (h : l.length = 4) : ∃ a b c d,l = [a,b,c,d] := by match l,h with | [a,b,c,d],_ => exact ⟨a,b,c,d,rfl⟩
structure LfI (n lv : Nat) (q : Sg) (a : Ex) (q1 : Sg) : Prop where
 eq : up n (gL lv a) q1 = up n (gX lv) q
 val : ∀ y,vl (gL lv a) q1 y → vl (gX lv) q y
 mu : q1.mu ≤ q.mu
theorem LfI.start {n lv : Nat} {q : Sg} {a : Ex} (hl : lv < 5) (hv : vl (gX (lv + 1)) q a) : LfI n lv q a (up n (gX (lv + 1)) q) := by
 refine ⟨?_,fun y hy => ?_,mu_up (Shs.gx _).le (Cz.ex _)⟩
 ·rw [gX_low hl,up_bind (Cz.ex _) hv]
 ·rw [gX_low hl];exact vl_bind hv hy
theorem LfI.step {n lv : Nat} {q q1 : Sg} {a b : Ex} {op : UInt8} (hl : lv ≤ 4) (hne : lv ≠ 2) (h : LfI n lv q a q1) (hop : opF (opsL lv) q1 = some op) (hb : vl (gX (lv + 1)) q1.tl b) :
 LfI n lv q (opE op [a,b]) (up n (gX (lv + 1)) q1.tl) ∧ (up n (gX (lv + 1)) q1.tl).mu < q1.mu := by
 have h1 := mu_up (n := n) (s := q1.tl) (Shs.gx (lv + 1)).le (Cz.ex (lv + 1))
 have h2 := opF_mu hop
 rw [opF_opS] at hop
 have e : gK lv op a b = gL lv (opE op [a,b]) := by unfold gK;rw [if_neg hne]
 refine ⟨⟨?_,fun y hy => h.val y (vl_lpS hl hop (vl_bind (n := n) hb (by rw [e];exact hy))),by have := h.mu;omega⟩,by omega⟩
 rw [← h.eq,up_lpS hl hop,up_bind (Cz.ex _) hb,e]
theorem LfI.stop {n lv : Nat} {q q1 : Sg} {a : Ex} (h : LfI n lv q a q1) (hop : opF (opsL lv) q1 = none) : up n (gX lv) q = q1 ∧ vl (gX lv) q a := by
 rw [opF_opS] at hop
 obtain ⟨e1,e2⟩ := up_lpN (n := n) (a := a) hop
 exact ⟨by rw [← h.eq,e1],h.val a e2⟩
theorem opZ_S {L : List (Str × UInt8)} {q : Sg} {op : UInt8} (h : opF L q = some op) : opZ L q = q.tl := by unfold opZ;rw [h];rfl
theorem opZ_N {L : List (Str × UInt8)} {q : Sg} (h : opF L q = none) : opZ L q = q := by unfold opZ;rw [h];rfl
set_option maxRecDepth 100000 in
theorem left_st {H : Hp} {w0 W : World} {bs : List Res} {b n : Nat} {ts : List Tk} {tp : Option Addr} {tc : Nat} {t0 t1 t2 t3 : Value} {q : Sg} (K : Tkm H ts tp tc) (hq : q.r <:+ ts) (lv : Nat) (hl : lv ≤ 4) (hne : lv ≠ 2) (M : Nat) (f : FuncId) (hcall : callN Tryd.prog f = true) (hop : ExC f (gX (lv + 1)) M) (hmu : q.mu < M) (hL : ∀ x ∈ opsL lv,x.1 ∈ words ∨ x.1 ∈ symbols) (lp : Option Addr) (lc : Nat) (hs : Rep H (.seq 2 ((opsL lv).map dSy)) [.slice lp (opsL lv).length lc]) (s : St H w0 (.box b [.slice tp ts.length tc,.int .i64 (posN ts q : Nat),.int .i64 (n : Nat),t0,t1,t2,t3,.int .i64 (q.o : Nat),.int .i64 (q.e : Nat)] 64 :: bs) W) :
 Calls Tryd.prog 26 #[.pointer (some ⟨b,0,none⟩),.func (.func f) #[.pointer (some ⟨b,0,none⟩)] #[],.slice lp (opsL lv).length lc] W fun e W' => ∃ z : Ex × List Value × Hp,(vl (gX lv) q z.1 ∧ HUp w0 H z.2.2 ∧ Rep z.2.2 (dEx .u8 z.1) z.2.1) ∧ e = .returned (.agg z.2.1.toArray) ∧ St z.2.2 w0 (.box b [.slice tp ts.length tc,.int .i64 (posN ts (up n (gX lv) q) : Nat),.int .i64 (n : Nat),t0,t1,t2,t3,.int .i64 ((up n (gX lv) q).o : Nat),.int .i64 ((up n (gX lv) q).e : Nat)] 64 :: bs) W' := by
 refine Sx.enterS Tryd.func26 rfl Tryd.ntmps26 rfl s ?_
 refine .sr<|.al Fx.zero31 Z fun b6 => .ns<|.m Z Z<|.sv (X := Ex × List Value × Hp) (fi := [.pointer (some ⟨b,0,none⟩)]) (ca := []) Z hcall Z (fun W s => hop K hq hmu (s.pickT (hd := [_,_]) (tl := bs) (hd' := [_,_]) [1,0] Z Z)) Z fun z1 hz1 => ?_
 obtain ⟨a1,c1,H1⟩ := z1
 obtain ⟨hv1,u1,r1⟩ := hz1
 dsimp only at hv1 u1 r1 ⊢
 obtain ⟨x1,x2,x3,x4,rfl⟩ := four (ex_len r1)
 have K1 := K.up u1.up
 refine .al Fx.zero31 Z fun b7 => .sW .head Z Z Fx.size31 (Rep.one r1) Z<|.nt<|.bk<|.lp (X := (Ex × Value × Value × Value × Value) × Hp × Sg) [(0,_),(1,_),(2,_),(6,_),(7,_)] ⟨rfl,rfl,rfl,rfl,rfl,trivial⟩ (_ :: bs) (fun z => []) (fun z => z.2.1) (fun z => [.box b7 [z.1.2.1,z.1.2.2.1,z.1.2.2.2.1,z.1.2.2.2.2] 31,.box b [.slice tp ts.length tc,.int .i64 (posN ts z.2.2 : Nat),.int .i64 (n : Nat),t0,t1,t2,t3,.int .i64 (z.2.2.o : Nat),.int .i64 (z.2.2.e : Nat)] 64]) (fun z => LfI n lv q z.1.1 z.2.2 ∧ HUp w0 H z.2.1 ∧ Rep z.2.1 (dEx .u8 z.1.1) [z.1.2.1,z.1.2.2.1,z.1.2.2.2.1,z.1.2.2.2.2] ∧ z.2.2.r <:+ ts) (fun z => z.2.2.mu) ((a1,x1,x2,x3,x4),H1,up n (gX (lv + 1)) q) (fun _ s => s) trivial ⟨LfI.start (by omega) hv1,u1,r1,(Suf.ex _).up hq⟩ fun z hC => ?_
 obtain ⟨⟨a,y1,y2,y3,y4⟩,H1,q1⟩ := z
 obtain ⟨hI,u1,r1,hq1⟩ := hC
 dsimp only at hI u1 r1 hq1 ⊢
 have K1 := K.up u1.up
 refine .bk<|.sr<|.m Z Z<|.m Z Z<|.cs (X := Unit) Fx.call49 Z (fun W s => operator_st K1 hq1 (opsL lv) hL lp lc (hs.up u1.up) (s.pickT (hd := [_,_,_]) (tl := bs) (hd' := [_,_,_]) [1,0,2] Z Z)) Z fun _ _ => .m Z Z<|.yv (.extract Z Z) Z<|.yv (.extract Z Z) Z<|.a Z Z<|.a Z Z<|.nt<|.sq<|.sr<|.m Z Z<|.yv (.not Z) Z<|.nt<|.cd Z (fun h19 => ?_) (fun h19 => ?_)
 ·have hN : opF (opsL lv) q1 = none := by simpa using h19
  rw [opZ_N hN]
  obtain ⟨e1,hv⟩ := hI.stop hN
  rw [e1]
  refine .sr<|.yv (.loadW Z Fx.agg31 (.tail _<|.head _) Z) Z<|.sW (.tail<|.tail<|.head) Z Z Fx.size31 (Rep.one r1) Z<|.nt<|.rt<|.tR<|.bR<|.tR<|.bR<|?_
  refine Sx.ret1 (.inl rfl) rfl (.cell rfl Fx.agg31 (.tail _<|.tail _<|.head _) rfl) fun W s => ?_
  exact ⟨(a,[y1,y2,y3,y4],H1),⟨hv,u1,r1⟩,rfl,s.pickT (hd := [_,_,_]) (tl := bs) (hd' := [_]) [0] rfl rfl⟩
 obtain ⟨op,hS⟩ : ∃ op,opF (opsL lv) q1 = some op := Option.isSome_iff_exists.1 (by simpa using h19)
 rw [opZ_S hS,hS]
 have hmu1 : q1.tl.mu < M := by have := opF_mu hS;have := hI.mu;omega
 refine .sk<|.tN<|.fl (trip := [(_,_,_),(_,_,_),(_,_,_),(_,_,_),(_,_,_),(_,_,_)]) 6 [(0,0),(1,0),(2,0),(3,3),(4,1),(5,0)] (by kernel_rfl) (by kernel_rfl) Z<|.m Z Z<|.yv (.loadW Z Fx.agg31 (.tail _<|.head _) Z) Z<|.m Z Z<|.v3 (X := Ex × List Value × Hp) (fi := [.pointer (some ⟨b,0,none⟩)]) (ca := []) Z hcall Z (fun W s => hop K1 (Suf.tl hq1) hmu1 (s.pickT (hd := [_,_,_]) (tl := bs) (hd' := [_,_,_]) [0,1,2] Z Z)) Z (fun _ _ => (.done (by kernel_rfl)<|.yv (.loadW Z Fx.agg31 (.tail _<|.head _) Z)<|.yv (.move Z)<|.nl)) fun z2 hz2 => ?_
 obtain ⟨a2,c2,H2⟩ := z2
 obtain ⟨hv2,u2,r2⟩ := hz2
 dsimp only at hv2 u2 r2 ⊢
 obtain ⟨w1,w2,w3,w4,rfl⟩ := four (ex_len r2)
 exact .blF Z (Fx.bsl29_2 _ _ _ _ _ _ _ _) Z fun b25 H3 u3 m3 => .yv (.build Z (Fx.bld31_0_3 _ _ _ _)) Z<|.fn (tl := [_]) Z<|.sW (.tail<|.head) Z Z Fx.size31 (by simp [Value.oneCell']) Z<|.nl<|.bN<|.tN<|.ag (x := ((a,y1,y2,y3,y4),H1,q1)) ((opE op [a,a2],.int .u8 op.toNat,.string ⟨#[]⟩,.int .i64 0,.slice (some ⟨b25,0,none⟩) 2 2),H3,up n (gX (lv + 1)) q1.tl) trivial ⟨rfl,rfl,rfl,rfl,rfl,trivial⟩ (fun _ s => (s.pickT (hd := [_,_,_]) (tl := bs) (hd' := [_,_,_]) [1,0,2] Z Z)) ⟨(hI.step hl hne hS hv2).1,u1.trans (u2.trans u3),ex_shut (op := op) (nm := []) (n := 0) (args := [a,a2]) (by decide) (Rep.mk (n := 2) (c := 2) m3 (RepZ.app (RepZ.single (r1.up (u2.trans u3).up) Z) (RepZ.single (r2.up u3.up) Z)) Z (Nat.le_refl _) (by decide)),(Suf.ex _).up (Suf.tl hq1)⟩ (hI.step hl hne hS hv2).2
theorem Fx.call26 : callN Tryd.prog 26 = Bool.true := by kernel_rfl
theorem Fx.call27 : callN Tryd.prog 27 = Bool.true := by kernel_rfl
theorem Fx.call50 : callN Tryd.prog 50 = Bool.true := by kernel_rfl
theorem Fx.call75 : callN Tryd.prog 75 = Bool.true := by kernel_rfl
theorem Fx.call90 : callN Tryd.prog 90 = Bool.true := by kernel_rfl
theorem Fx.call97 : callN Tryd.prog 97 = Bool.true := by kernel_rfl
theorem Fx.call104 : callN Tryd.prog 104 = Bool.true := by kernel_rfl
theorem Fx.bld76_0_1 (x0 : ByteArray) (x1 : Int) : buildN Tryd.prog 76 [(0,.string x0),(1,.int .u8 x1)] = some [.string x0,.int .u8 x1] := by kernel_rfl
theorem Fx.bsl97_1 (x00 x01 : Value) : bslN Tryd.prog 97 1 [(0,.agg [x00,x01].toArray)] = some (76,[x00,x01]) := by kernel_rfl
theorem Fx.bsl97_2 (x00 x01 : Value) (x10 x11 : Value) : bslN Tryd.prog 97 2 [(0,.agg [x00,x01].toArray),(1,.agg [x10,x11].toArray)] = some (76,[x00,x01,x10,x11]) := by kernel_rfl
theorem Fx.bsl97_3 (x00 x01 : Value) (x10 x11 : Value) (x20 x21 : Value) : bslN Tryd.prog 97 3 [(0,.agg [x00,x01].toArray),(1,.agg [x10,x11].toArray),(2,.agg [x20,x21].toArray)] = some (76,[x00,x01,x10,x11,x20,x21]) := by kernel_rfl
theorem Fx.bsl97_6 (x00 x01 : Value) (x10 x11 : Value) (x20 x21 : Value) (x30 x31 : Value) (x40 x41 : Value) (x50 x51 : Value) : bslN Tryd.prog 97 6 [(0,.agg [x00,x01].toArray),(1,.agg [x10,x11].toArray),(2,.agg [x20,x21].toArray),(3,.agg [x30,x31].toArray),(4,.agg [x40,x41].toArray),(5,.agg [x50,x51].toArray)] = some (76,[x00,x01,x10,x11,x20,x21,x30,x31,x40,x41,x50,x51]) := by kernel_rfl
set_option maxRecDepth 100000 in
theorem expr_st (M : Nat) (hop : ExC 27 (gX 1) M) : ExC 18 (gX 0) M := by
 intro H w0 W bs b n ts tp tc t0 t1 t2 t3 q K hq hmu s
 refine Sx.enterS Tryd.func18 rfl Tryd.ntmps18 rfl s ?_
 refine .sr<|.al Fx.zero31 Z fun b2 => .ns<|.m Z Z<|.m Z Z<|.yv (.mkF Z Z) Z<|.yv (.build Z (Fx.bld76_0_1 _ _)) Z<|.bl Z (Fx.bsl97_1 _ _) Z fun b7 => ?_
 refine Sx.freezeBox fun H1 u1 m1 => ?_
 have hs1 : Rep H1 (.seq 2 (([([111,114],23)] : List (Str × UInt8)).map dSy)) [.slice (some ⟨b7,0,none⟩) 1 1] := by
  simp only [List.map_cons,List.map_nil]
  exact Rep.mk (n := 1) (c := 1) m1 (ds := [dSy ([111,114],23)]) (.single (sy_shut (x := ([111,114],23)) (by decide)) rfl) rfl (Nat.le_refl _) (by decide)
 have K1 := K.up u1.up
 refine .cs (X := Ex × List Value × Hp) Fx.call26 Z (fun W s => left_st K1 hq 0 (by decide) (by decide) M 27 Fx.call27 hop hmu (by decide +kernel) _ _ hs1 (s.pickT (hd := [_,_]) (tl := bs) (hd' := [_,_]) [1,0] Z Z)) Z fun z1 hz1 => ?_
 obtain ⟨a1,c1,H2⟩ := z1
 obtain ⟨hv1,u2,r1⟩ := hz1
 dsimp only at hv1 u2 r1 ⊢
 obtain ⟨x1,x2,x3,x4,rfl⟩ := four (ex_len r1)
 refine .sW (.tail<|.head) Z Z Fx.size31 (Rep.one r1) Z<|.nt<|.rt<|?_
 refine Sx.ret1 (.inl rfl) rfl (.cell rfl Fx.agg31 (.tail _<|.head _) rfl) fun W s => ?_
 exact ⟨(a1,[x1,x2,x3,x4],H2),⟨hv1,u1.trans u2,r1⟩,rfl,s.pickT (hd := [_,_]) (tl := bs) (hd' := [_]) [0] rfl rfl⟩
set_option maxRecDepth 100000 in
theorem conj_st (M : Nat) (hop : ExC 50 (gX 2) M) : ExC 27 (gX 1) M := by
 intro H w0 W bs b n ts tp tc t0 t1 t2 t3 q K hq hmu s
 refine Sx.enterS Tryd.func27 rfl Tryd.ntmps27 rfl s ?_
 refine .sr<|.al Fx.zero31 Z fun b2 => .ns<|.m Z Z<|.m Z Z<|.yv (.mkF Z Z) Z<|.yv (.build Z (Fx.bld76_0_1 _ _)) Z<|.bl Z (Fx.bsl97_1 _ _) Z fun b7 => ?_
 refine Sx.freezeBox fun H1 u1 m1 => ?_
 have hs1 : Rep H1 (.seq 2 (([([97,110,100],22)] : List (Str × UInt8)).map dSy)) [.slice (some ⟨b7,0,none⟩) 1 1] := by
  simp only [List.map_cons,List.map_nil]
  exact Rep.mk (n := 1) (c := 1) m1 (ds := [dSy ([97,110,100],22)]) (.single (sy_shut (x := ([97,110,100],22)) (by decide)) rfl) rfl (Nat.le_refl _) (by decide)
 have K1 := K.up u1.up
 refine .cs (X := Ex × List Value × Hp) Fx.call26 Z (fun W s => left_st K1 hq 1 (by decide) (by decide) M 50 Fx.call50 hop hmu (by decide +kernel) _ _ hs1 (s.pickT (hd := [_,_]) (tl := bs) (hd' := [_,_]) [1,0] Z Z)) Z fun z1 hz1 => ?_
 obtain ⟨a1,c1,H2⟩ := z1
 obtain ⟨hv1,u2,r1⟩ := hz1
 dsimp only at hv1 u2 r1 ⊢
 obtain ⟨x1,x2,x3,x4,rfl⟩ := four (ex_len r1)
 refine .sW (.tail<|.head) Z Z Fx.size31 (Rep.one r1) Z<|.nt<|.rt<|?_
 refine Sx.ret1 (.inl rfl) rfl (.cell rfl Fx.agg31 (.tail _<|.head _) rfl) fun W s => ?_
 exact ⟨(a1,[x1,x2,x3,x4],H2),⟨hv1,u1.trans u2,r1⟩,rfl,s.pickT (hd := [_,_]) (tl := bs) (hd' := [_]) [0] rfl rfl⟩
set_option maxRecDepth 100000 in
theorem sum_st (M : Nat) (hop : ExC 90 (gX 4) M) : ExC 75 (gX 3) M := by
 intro H w0 W bs b n ts tp tc t0 t1 t2 t3 q K hq hmu s
 refine Sx.enterS Tryd.func75 rfl Tryd.ntmps75 rfl s ?_
 refine .sr<|.al Fx.zero31 Z fun b2 => .ns<|.m Z Z<|.m Z Z<|.yv (.mkF Z Z) Z<|.yv (.build Z (Fx.bld76_0_1 _ _)) Z<|.yv (.build Z (Fx.bld76_0_1 _ _)) Z<|.bl Z (Fx.bsl97_2 _ _ _ _) Z fun b8 => ?_
 refine Sx.freezeBox fun H1 u1 m1 => ?_
 have hs1 : Rep H1 (.seq 2 (([([43],14),([45],15)] : List (Str × UInt8)).map dSy)) [.slice (some ⟨b8,0,none⟩) 2 2] := by
  simp only [List.map_cons,List.map_nil]
  exact Rep.mk (n := 2) (c := 2) m1 (ds := [dSy ([43],14),dSy ([45],15)]) (RepZ.snoc (.single (sy_shut (x := ([43],14)) (by decide)) rfl) (sy_shut (x := ([45],15)) (by decide)) rfl) rfl (Nat.le_refl _) (by decide)
 have K1 := K.up u1.up
 refine .cs (X := Ex × List Value × Hp) Fx.call26 Z (fun W s => left_st K1 hq 3 (by decide) (by decide) M 90 Fx.call90 hop hmu (by decide +kernel) _ _ hs1 (s.pickT (hd := [_,_]) (tl := bs) (hd' := [_,_]) [1,0] Z Z)) Z fun z1 hz1 => ?_
 obtain ⟨a1,c1,H2⟩ := z1
 obtain ⟨hv1,u2,r1⟩ := hz1
 dsimp only at hv1 u2 r1 ⊢
 obtain ⟨x1,x2,x3,x4,rfl⟩ := four (ex_len r1)
 refine .sW (.tail<|.head) Z Z Fx.size31 (Rep.one r1) Z<|.nt<|.rt<|?_
 refine Sx.ret1 (.inl rfl) rfl (.cell rfl Fx.agg31 (.tail _<|.head _) rfl) fun W s => ?_
 exact ⟨(a1,[x1,x2,x3,x4],H2),⟨hv1,u1.trans u2,r1⟩,rfl,s.pickT (hd := [_,_]) (tl := bs) (hd' := [_]) [0] rfl rfl⟩
set_option maxRecDepth 100000 in
theorem product_st (M : Nat) (hop : ExC 97 (gX 5) M) : ExC 90 (gX 4) M := by
 intro H w0 W bs b n ts tp tc t0 t1 t2 t3 q K hq hmu s
 refine Sx.enterS Tryd.func90 rfl Tryd.ntmps90 rfl s ?_
 refine .sr<|.al Fx.zero31 Z fun b2 => .ns<|.m Z Z<|.m Z Z<|.yv (.mkF Z Z) Z<|.yv (.build Z (Fx.bld76_0_1 _ _)) Z<|.yv (.build Z (Fx.bld76_0_1 _ _)) Z<|.yv (.build Z (Fx.bld76_0_1 _ _)) Z<|.bl Z (Fx.bsl97_3 _ _ _ _ _ _) Z fun b9 => ?_
 refine Sx.freezeBox fun H1 u1 m1 => ?_
 have hs1 : Rep H1 (.seq 2 (([([42],11),([47],12),([37],13)] : List (Str × UInt8)).map dSy)) [.slice (some ⟨b9,0,none⟩) 3 3] := by
  simp only [List.map_cons,List.map_nil]
  exact Rep.mk (n := 3) (c := 3) m1 (ds := [dSy ([42],11),dSy ([47],12),dSy ([37],13)]) (RepZ.snoc (RepZ.snoc (.single (sy_shut (x := ([42],11)) (by decide)) rfl) (sy_shut (x := ([47],12)) (by decide)) rfl) (sy_shut (x := ([37],13)) (by decide)) rfl) rfl (Nat.le_refl _) (by decide)
 have K1 := K.up u1.up
 refine .cs (X := Ex × List Value × Hp) Fx.call26 Z (fun W s => left_st K1 hq 4 (by decide) (by decide) M 97 Fx.call97 hop hmu (by decide +kernel) _ _ hs1 (s.pickT (hd := [_,_]) (tl := bs) (hd' := [_,_]) [1,0] Z Z)) Z fun z1 hz1 => ?_
 obtain ⟨a1,c1,H2⟩ := z1
 obtain ⟨hv1,u2,r1⟩ := hz1
 dsimp only at hv1 u2 r1 ⊢
 obtain ⟨x1,x2,x3,x4,rfl⟩ := four (ex_len r1)
 refine .sW (.tail<|.head) Z Z Fx.size31 (Rep.one r1) Z<|.nt<|.rt<|?_
 refine Sx.ret1 (.inl rfl) rfl (.cell rfl Fx.agg31 (.tail _<|.head _) rfl) fun W s => ?_
 exact ⟨(a1,[x1,x2,x3,x4],H2),⟨hv1,u1.trans u2,r1⟩,rfl,s.pickT (hd := [_,_]) (tl := bs) (hd' := [_]) [0] rfl rfl⟩
theorem comp_eq {n : Nat} {q : Sg} {a b : Ex} {op : UInt8} (hv1 : vl (gX 3) q a) (hS : opF (opsL 2) (up n (gX 3) q) = some op) (hv2 : vl (gX 3) (up n (gX 3) q).tl b) : up n (gX 3) (up n (gX 3) q).tl = up n (gX 2) q ∧ vl (gX 2) q (opE op [a,b]) := by
 rw [opF_opS] at hS
 have e : gK 2 op a b = gPure (opE op [a,b]) := by unfold gK;rw [if_pos rfl]
 rw [gX_low (lv := 2) (by decide)]
 refine ⟨?_,vl_bind hv1 (vl_lpS (by decide) hS (vl_bind (n := n) hv2 (by rw [e];exact vl_pure)))⟩
 rw [up_bind (Cz.ex _) hv1,up_lpS (by decide) hS,up_bind (Cz.ex _) hv2,e,up_pure]
theorem comp_no {n : Nat} {q : Sg} {a : Ex} (hv1 : vl (gX 3) q a) (hN : opF (opsL 2) (up n (gX 3) q) = none) : up n (gX 3) q = up n (gX 2) q ∧ vl (gX 2) q a := by
 rw [opF_opS] at hN
 obtain ⟨e1,e2⟩ := up_lpN (n := n) (a := a) hN
 rw [gX_low (lv := 2) (by decide)]
 exact ⟨by rw [up_bind (Cz.ex _) hv1,e1],vl_bind hv1 e2⟩
set_option maxRecDepth 100000 in
theorem comp_st (M : Nat) (hop : ExC 75 (gX 3) M) : ExC 50 (gX 2) M := by
 intro H w0 W bs b n ts tp tc t0 t1 t2 t3 q K hq hmu s
 refine Sx.enterS Tryd.func50 rfl Tryd.ntmps50 rfl s ?_
 refine .sr<|.al Fx.zero31 Z fun b2 => .ns<|.m Z Z<|.cs (X := Ex × List Value × Hp) Fx.call75 Z (fun W s => hop K hq hmu (s.pickT (hd := [_,_]) (tl := bs) (hd' := [_,_]) [1,0] Z Z)) Z fun z1 hz1 => ?_
 obtain ⟨a1,c1,H1⟩ := z1
 obtain ⟨hv1,u1,r1⟩ := hz1
 dsimp only at hv1 u1 r1 ⊢
 obtain ⟨x1,x2,x3,x4,rfl⟩ := four (ex_len r1)
 have hq1 := (Suf.ex 3).up (n := n) hq
 refine .al Fx.zero31 Z fun b3 => .sW .head Z Z Fx.size31 (Rep.one r1) Z<|.ns<|.m Z Z<|.yv (.build Z (Fx.bld76_0_1 _ _)) Z<|.yv (.build Z (Fx.bld76_0_1 _ _)) Z<|.yv (.build Z (Fx.bld76_0_1 _ _)) Z<|.yv (.build Z (Fx.bld76_0_1 _ _)) Z<|.yv (.build Z (Fx.bld76_0_1 _ _)) Z<|.yv (.build Z (Fx.bld76_0_1 _ _)) Z<|.bl Z (Fx.bsl97_6 _ _ _ _ _ _ _ _ _ _ _ _) Z fun b16 => ?_
 refine Sx.freezeBox fun H2 u2 m2 => ?_
 have hs1 : Rep H2 (.seq 2 (([([61,61],16),([33,61],17),([60],18),([60,61],19),([62],20),([62,61],21)] : List (Str × UInt8)).map dSy)) [.slice (some ⟨b16,0,none⟩) 6 6] := by
  simp only [List.map_cons,List.map_nil]
  exact Rep.mk (n := 6) (c := 6) m2 (ds := [dSy ([61,61],16),dSy ([33,61],17),dSy ([60],18),dSy ([60,61],19),dSy ([62],20),dSy ([62,61],21)]) (RepZ.snoc (RepZ.snoc (RepZ.snoc (RepZ.snoc (RepZ.snoc (.single (sy_shut (x := ([61,61],16)) (by decide)) rfl) (sy_shut (x := ([33,61],17)) (by decide)) rfl) (sy_shut (x := ([60],18)) (by decide)) rfl) (sy_shut (x := ([60,61],19)) (by decide)) rfl) (sy_shut (x := ([62],20)) (by decide)) rfl) (sy_shut (x := ([62,61],21)) (by decide)) rfl) rfl (Nat.le_refl _) (by decide)
 have K2 := K.up (u1.trans u2).up
 refine .cs (X := Unit) Fx.call49 Z (fun W s => operator_st K2 hq1 (opsL 2) (by decide +kernel) _ _ hs1 (s.pickT (hd := [_,_,_]) (tl := bs) (hd' := [_,_,_]) [1,0,2] Z Z)) Z fun _ _ => .m Z Z<|.yv (.extract Z Z) Z<|.yv (.extract Z Z) Z<|.a Z Z<|.a Z Z<|.nt<|.cu (X := (Ex × Value × Value × Value × Value) × Hp × Sg) [(2,_),(3,_)] ⟨rfl,rfl,trivial⟩ (fun z => []) (fun z => z.2.1) (fun z => (.box b3 [z.1.2.1,z.1.2.2.1,z.1.2.2.2.1,z.1.2.2.2.2] 31 :: .box b [.slice tp ts.length tc,.int .i64 (posN ts z.2.2 : Nat),.int .i64 (n : Nat),t0,t1,t2,t3,.int .i64 (z.2.2.o : Nat),.int .i64 (z.2.2.e : Nat)] 64 :: .box b2 [.int .u8 0,.string ⟨#[]⟩,.int .i64 0,.slice none 0 0] 31 :: bs)) (fun z => (z.2.2 = up n (gX 2) q ∧ vl (gX 2) q z.1.1) ∧ HUp w0 H z.2.1 ∧ Rep z.2.1 (dEx .u8 z.1.1) [z.1.2.1,z.1.2.2.1,z.1.2.2.2.1,z.1.2.2.2.2]) ?_ fun z hC => ?_
 ·
  refine .sr<|.m Z Z<|.nt<|.cd Z (fun h20 => ?_) (fun h20 => ?_)
  ·obtain ⟨op,hS⟩ : ∃ op,opF (opsL 2) (up n (gX 3) q) = some op := Option.isSome_iff_exists.1 h20
   rw [opZ_S hS,hS]
   have hmu1 : (up n (gX 3) q).tl.mu < M := by have := opF_mu hS;have := mu_up (n := n) (s := q) (Shs.gx 3).le (Cz.ex 3);omega
   refine .fl (trip := [(_,_,_),(_,_,_),(_,_,_),(_,_,_),(_,_,_),(_,_,_)]) 6 [(0,0),(1,0),(2,0),(3,3),(4,1),(5,0)] (by kernel_rfl) (by kernel_rfl) Z<|.m Z Z<|.yv (.loadW Z Fx.agg31 (.tail _<|.head _) Z) Z<|.m Z Z<|.c3 (X := Ex × List Value × Hp) Fx.call75 Z (fun W s => hop K2 (Suf.tl hq1) hmu1 (s.pickT (hd := [_,_,_]) (tl := bs) (hd' := [_,_,_]) [0,1,2] Z Z)) Z (fun _ _ => (.done (by kernel_rfl)<|.yv (.loadW Z Fx.agg31 (.tail _<|.head _) Z)<|.yv (.move Z)<|.nl)) fun z2 hz2 => ?_
   obtain ⟨a2,c2,H3⟩ := z2
   obtain ⟨hv2,u3,r2⟩ := hz2
   dsimp only at hv2 u3 r2 ⊢
   obtain ⟨w1,w2,w3,w4,rfl⟩ := four (ex_len r2)
   exact .blF Z (Fx.bsl29_2 _ _ _ _ _ _ _ _) Z fun b25 H4 u4 m4 => .yv (.build Z (Fx.bld31_0_3 _ _ _ _)) Z<|.fn (tl := [_]) Z<|.sW (.tail<|.head) Z Z Fx.size31 (by simp [Value.oneCell']) Z<|.nt<|.me ((opE op [a1,a2],.int .u8 op.toNat,.string ⟨#[]⟩,.int .i64 0,.slice (some ⟨b25,0,none⟩) 2 2),H4,up n (gX 3) (up n (gX 3) q).tl) trivial ⟨rfl,rfl,trivial⟩ (fun _ s => (s.pickT (hd := [_,_,_]) (tl := bs) (hd' := [_,_,_]) [1,0,2] Z Z)) ⟨comp_eq hv1 hS hv2,u1.trans (u2.trans (u3.trans u4)),ex_shut (op := op) (nm := []) (n := 0) (args := [a1,a2]) (by decide) (Rep.mk (n := 2) (c := 2) m4 (RepZ.app (RepZ.single (r1.up (u2.trans (u3.trans u4)).up) Z) (RepZ.single (r2.up u4.up) Z)) Z (Nat.le_refl _) (by decide))⟩
  have hN : opF (opsL 2) (up n (gX 3) q) = none := by simpa using h20
  rw [opZ_N hN]
  exact .sk<|.tN<|.me ((a1,x1,x2,x3,x4),H2,up n (gX 3) q) trivial ⟨rfl,rfl,trivial⟩ (fun _ s => (s.pickT (hd := [_,_,_]) (tl := bs) (hd' := [_,_,_]) [1,0,2] Z Z)) ⟨comp_no hv1 hN,u1.trans u2,r1.up u2.up⟩
 obtain ⟨⟨a5,y1,y2,y3,y4⟩,H5,q5⟩ := z
 obtain ⟨⟨e5,hv5⟩,u5,r5⟩ := hC
 dsimp only at e5 hv5 u5 r5 ⊢
 subst e5
 refine .sr<|.yv (.loadW Z Fx.agg31 (.head _) Z) Z<|.sW (.tail<|.tail<|.head) Z Z Fx.size31 (Rep.one r5) Z<|.nt<|.rt<|?_
 refine Sx.ret1 (.inl rfl) rfl (.cell rfl Fx.agg31 (.tail _<|.tail _<|.head _) rfl) fun W s => ?_
 exact ⟨(a5,[y1,y2,y3,y4],H5),⟨hv5,u5,r5⟩,rfl,s.pickT (hd := [_,_,_]) (tl := bs) (hd' := [_]) [1] rfl rfl⟩
theorem un_no {n : Nat} {q : Sg} {a : Ex} (hN : opF [([45],9),([110,111,116],10)] q = none) (hv : vl gPrim q a) : up n (gX 5) q = up n gPrim q ∧ vl (gX 5) q a := by
 have h := (Option.map_eq_none_iff.1 hN)
 rw [List.find?_eq_none] at h
 have h1 : ac [45] q = false := by have := h ([45],9) (by simp);simpa using this
 have h2 : ac [110,111,116] q = false := by have := h ([110,111,116],10) (by simp);simpa using this
 rw [gX_un,prim_eq]
 exact ⟨by rw [up_altF h1,up_altF h2],vl_altF h1 (vl_altF h2 hv)⟩
theorem un_op {n : Nat} {q : Sg} {a : Ex} {op : UInt8} (hS : opF [([45],9),([110,111,116],10)] q = some op) (hv : vl (gX 5) q.tl a) : up n (gX 5) q = up n (gX 5) q.tl ∧ vl (gX 5) q (opE op [a]) := by
 obtain ⟨x,hx,e⟩ := Option.map_eq_some_iff.1 hS
 have hp := List.find?_some (p := fun x : Str × UInt8 => ac x.1 q) hx
 rcases List.mem_cons.1 (List.mem_of_find?_eq_some hx) with rfl | hm
 ·have h1 : ac [45] q = true := hp
  obtain rfl : 9 = op := e
  rw [show up n (gX 5) q = up n (gX 5) q.tl by conv => lhs;rw [gX_un,up_altT h1,up_map]]
  exact ⟨rfl,by rw [gX_un];exact vl_altT h1 (vl_map (f := fun x => opE 9 [x]) hv)⟩
 ·obtain rfl := List.mem_singleton.1 hm
  have h1 : ac [45] q = false := ac_ne (w := [110,111,116]) hp (by decide)
  have h2 : ac [110,111,116] q = true := hp
  obtain rfl : 10 = op := e
  rw [show up n (gX 5) q = up n (gX 5) q.tl by conv => lhs;rw [gX_un,up_altF h1,up_altT h2,up_map]]
  exact ⟨rfl,by rw [gX_un];exact vl_altF h1 (vl_altT h2 (vl_map (f := fun x => opE 10 [x]) hv))⟩
set_option maxRecDepth 100000 in
theorem unary_st (M : Nat) (hun : ExC 97 (gX 5) M) (hprim : ExC 104 gPrim (M + 1)) : ExC 97 (gX 5) (M + 1) := by
 intro H w0 W bs b n ts tp tc t0 t1 t2 t3 q K hq hmu s
 refine Sx.enterS Tryd.func97 rfl Tryd.ntmps97 rfl s ?_
 refine .sr<|.al Fx.zero31 Z fun b2 => .ns<|.m Z Z<|.yv (.build Z (Fx.bld76_0_1 _ _)) Z<|.yv (.build Z (Fx.bld76_0_1 _ _)) Z<|.bl Z (Fx.bsl97_2 _ _ _ _) Z fun b9 => ?_
 refine Sx.freezeBox fun H1 u1 m1 => ?_
 have hs1 : Rep H1 (.seq 2 (([([45],9),([110,111,116],10)] : List (Str × UInt8)).map dSy)) [.slice (some ⟨b9,0,none⟩) 2 2] := by
  simp only [List.map_cons,List.map_nil]
  exact Rep.mk (n := 2) (c := 2) m1 (ds := [dSy ([45],9),dSy ([110,111,116],10)]) (RepZ.snoc (.single (sy_shut (x := ([45],9)) (by decide)) rfl) (sy_shut (x := ([110,111,116],10)) (by decide)) rfl) rfl (Nat.le_refl _) (by decide)
 have K1 := K.up u1.up
 refine .cs (X := Unit) Fx.call49 Z (fun W s => operator_st K1 hq [([45],9),([110,111,116],10)] (by decide +kernel) _ _ hs1 (s.pickT (hd := [_,_]) (tl := bs) (hd' := [_,_]) [1,0] Z Z)) Z fun _ _ => .m Z Z<|.yv (.extract Z Z) Z<|.yv (.extract Z Z) Z<|.a Z Z<|.a Z Z<|.nt<|.sq<|.sr<|.m Z Z<|.yv (.not Z) Z<|.nt<|.cd Z (fun h14 => ?_) (fun h14 => ?_)
 ·have hN : opF [([45],9),([110,111,116],10)] q = none := by simpa using h14
  rw [opZ_N hN]
  refine .sr<|.m Z Z<|.cs (X := Ex × List Value × Hp) Fx.call104 Z (fun W s => hprim K1 hq hmu (s.pickT (hd := [_,_]) (tl := bs) (hd' := [_,_]) [0,1] Z Z)) Z fun z1 hz1 => ?_
  obtain ⟨a1,c1,H2⟩ := z1
  obtain ⟨hv1,u2,r1⟩ := hz1
  dsimp only at hv1 u2 r1 ⊢
  obtain ⟨x1,x2,x3,x4,rfl⟩ := four (ex_len r1)
  refine .sW (.tail<|.head) Z Z Fx.size31 (Rep.one r1) Z<|.nt<|.rt<|.tR<|?_
  refine Sx.ret1 (.inl rfl) rfl (.cell rfl Fx.agg31 (.tail _<|.head _) rfl) fun W s => ?_
  rw [(un_no (n := n) hN hv1).1]
  exact ⟨(a1,[x1,x2,x3,x4],H2),⟨(un_no (n := n) hN hv1).2,u1.trans u2,r1⟩,rfl,s.pickT (hd := [_,_]) (tl := bs) (hd' := [_]) [0] rfl rfl⟩
 obtain ⟨op,hS⟩ : ∃ op,opF [([45],9),([110,111,116],10)] q = some op := Option.isSome_iff_exists.1 (by simpa using h14)
 rw [opZ_S hS,hS]
 have hmu1 : q.tl.mu < M := by have := opF_mu hS;omega
 refine .sk<|.tN<|.sr<|.m Z Z<|.m Z Z<|.cs (X := Ex × List Value × Hp) Fx.call97 Z (fun W s => hun K1 (Suf.tl hq) hmu1 (s.pickT (hd := [_,_]) (tl := bs) (hd' := [_,_]) [0,1] Z Z)) Z fun z1 hz1 => ?_
 obtain ⟨a1,c1,H2⟩ := z1
 obtain ⟨hv1,u2,r1⟩ := hz1
 dsimp only at hv1 u2 r1 ⊢
 obtain ⟨x1,x2,x3,x4,rfl⟩ := four (ex_len r1)
 refine .bl Z (Fx.bsl29_1 _ _ _ _) Z fun b20 => ?_
 refine Sx.freezeBox fun H3 u3 m3 => ?_
 refine .yv (.build Z (Fx.bld31_0_3 _ _ _ _)) Z<|.sW (.tail<|.head) Z Z Fx.size31 (by simp [Value.oneCell']) Z<|.nt<|.rt<|?_
 refine Sx.ret1 (.inl rfl) rfl (.cell rfl Fx.agg31 (.tail _<|.head _) rfl) fun W s => ?_
 rw [(un_op (n := n) hS hv1).1]
 exact ⟨(opE op [a1],[.int .u8 op.toNat,.string ⟨#[]⟩,.int .i64 0,.slice (some ⟨b20,0,none⟩) 1 1],H3),⟨(un_op (n := n) hS hv1).2,u1.trans (u2.trans u3),ex_shut (op := op) (nm := []) (n := 0) (args := [a1]) (by decide) (Rep.mk (n := 1) (c := 1) m3 (.single (r1.up u3.up) rfl) rfl (Nat.le_refl _) (by decide))⟩,rfl,s.pickT (hd := [_,_]) (tl := bs) (hd' := [_]) [0] rfl rfl⟩
theorem Fx.call18 : callN Tryd.prog 18 = Bool.true := by kernel_rfl
theorem Fx.call39 : callN Tryd.prog 39 = Bool.true := by kernel_rfl
theorem Fx.call56 : callN Tryd.prog 56 = Bool.true := by kernel_rfl
theorem Fx.call105 : callN Tryd.prog 105 = Bool.true := by kernel_rfl
theorem Fx.bld31_0 (x0 : Int) : buildN Tryd.prog 31 [(0,.int .u8 x0)] = some [.int .u8 x0,.string ⟨#[]⟩,.int .i64 0,.slice none 0 0] := by kernel_rfl
theorem Fx.bld31_0_1 (x0 : Int) (x1 : ByteArray) : buildN Tryd.prog 31 [(0,.int .u8 x0),(1,.string x1)] = some [.int .u8 x0,.string x1,.int .i64 0,.slice none 0 0] := by kernel_rfl
theorem Fx.bld31_0_1_3 (x0 : Int) (x1 : ByteArray) (x3p : Option Addr) (x3n x3c : Nat) : buildN Tryd.prog 31 [(0,.int .u8 x0),(1,.string x1),(3,.slice x3p x3n x3c)] = some [.int .u8 x0,.string x1,.int .i64 0,.slice x3p x3n x3c] := by kernel_rfl
theorem Fx.bld31_0_2 (x0 : Int) (x2 : Int) : buildN Tryd.prog 31 [(0,.int .u8 x0),(2,.int .i64 x2)] = some [.int .u8 x0,.string ⟨#[]⟩,.int .i64 x2,.slice none 0 0] := by kernel_rfl
def gKy (op : UInt8) (nm : Str) : Pz Ex := gBind (gNd [91]) fun _ => gKey op nm
theorem key_eq {n : Nat} {q : Sg} {a : Ex} (op : UInt8) (nm : Str) (hv : vl (gX 0) (up n (gNd [91]) q) a) : up n (gKy op nm) q = up n (gNd [93]) (up n (gX 0) (up n (gNd [91]) q)) ∧ vl (gKy op nm) q (.mk op nm 0 [a]) := by
 unfold gKy gKey
 refine ⟨?_,vl_bind (n := n) (x := ()) vl_unit (vl_bind (n := n) hv (vl_bind (n := n) (x := ()) vl_unit vl_pure))⟩
 rw [up_bind (x := ()) (Cz.nd _) vl_unit,up_bind (Cz.ex _) hv,up_bind (x := ()) (Cz.nd _) vl_unit,up_pure]
set_option maxRecDepth 100000 in
theorem key_st (M : Nat) (hex : ExC 18 (gX 0) M) {H : Hp} {w0 W : World} {bs : List Res} {b n : Nat} {ts : List Tk} {tp : Option Addr} {tc : Nat} {t0 t1 t2 t3 : Value} {q : Sg} (K : Tkm H ts tp tc) (hq : q.r <:+ ts) (op : UInt8) (nm : Str) (hn : nm.length ≤ 1000000) (hm : (up n (gNd [91]) q).mu < M) (s : St H w0 (.box b [.slice tp ts.length tc,.int .i64 (posN ts q : Nat),.int .i64 (n : Nat),t0,t1,t2,t3,.int .i64 (q.o : Nat),.int .i64 (q.e : Nat)] 64 :: bs) W) :
 Calls Tryd.prog 105 #[.pointer (some ⟨b,0,none⟩),.int .u8 op.toNat,strV nm] W fun e W' => ∃ z : Ex × List Value × Hp,(vl (gKy op nm) q z.1 ∧ HUp w0 H z.2.2 ∧ Rep z.2.2 (dEx .u8 z.1) z.2.1) ∧ e = .returned (.agg z.2.1.toArray) ∧ St z.2.2 w0 (.box b [.slice tp ts.length tc,.int .i64 (posN ts (up n (gKy op nm) q) : Nat),.int .i64 (n : Nat),t0,t1,t2,t3,.int .i64 ((up n (gKy op nm) q).o : Nat),.int .i64 ((up n (gKy op nm) q).e : Nat)] 64 :: bs) W' := by
 refine Sx.enterS Tryd.func105 rfl Tryd.ntmps105 rfl s ?_
 refine .sr<|.al Fx.zero31 Z fun b6 => .ns<|.m Z Z<|.cs (X := Unit) Fx.call38 Z (fun W s => expect_nd K hq [91] (by decide +kernel) (s.pickT (hd := [_,_]) (tl := bs) (hd' := [_,_]) [1,0] Z Z)) Z fun _ _ => .ns<|.m Z Z<|.cs (X := Ex × List Value × Hp) Fx.call18 Z (fun W s => hex K ((Suf.nd _).up hq) hm (s.pickT (hd := [_,_]) (tl := bs) (hd' := [_,_]) [0,1] Z Z)) Z fun z1 hz1 => ?_
 obtain ⟨a1,c1,H1⟩ := z1
 obtain ⟨hv1,u1,r1⟩ := hz1
 dsimp only at hv1 u1 r1 ⊢
 obtain ⟨x1,x2,x3,x4,rfl⟩ := four (ex_len r1)
 have K1 := K.up u1.up
 refine .al Fx.zero31 Z fun b7 => .sW .head Z Z Fx.size31 (Rep.one r1) Z<|.ns<|.m Z Z<|.cs (X := Unit) Fx.call38 Z (fun W s => expect_nd K1 ((Suf.ex 0).up ((Suf.nd _).up hq)) [93] (by decide +kernel) (s.pickT (hd := [_,_,_]) (tl := bs) (hd' := [_,_,_]) [1,0,2] Z Z)) Z fun _ _ => .ns<|.m Z Z<|.m Z Z<|.yv (.loadW Z Fx.agg31 (.tail _<|.head _) Z) Z<|.bl Z (Fx.bsl29_1 _ _ _ _) Z fun b17 => ?_
 refine Sx.freezeBox fun H2 u2 m2 => ?_
 refine .yv (.build Z (Fx.bld31_0_1_3 _ _ _ _ _)) Z<|.sW (.tail<|.tail<|.head) Z Z Fx.size31 (by simp [Value.oneCell',strV]) Z<|.nt<|.rt<|?_
 refine Sx.ret1 (.inl rfl) rfl (.cell rfl Fx.agg31 (.tail _<|.tail _<|.head _) rfl) fun W s => ?_
 rw [(key_eq (n := n) op nm hv1).1]
 exact ⟨(.mk op nm 0 [a1],[.int .u8 op.toNat,strV nm,.int .i64 0,.slice (some ⟨b17,0,none⟩) 1 1],H2),⟨(key_eq (n := n) op nm hv1).2,u1.trans u2,ex_shut (op := op) (nm := nm) (n := 0) (args := [a1]) hn (Rep.mk (n := 1) (c := 1) m2 (.single (r1.up u2.up) rfl) rfl (Nat.le_refl _) (by decide))⟩,rfl,s.pickT (hd := [_,_,_]) (tl := bs) (hd' := [_]) [0] rfl rfl⟩
theorem isNum_k {n : Nat} {r : List Tk} : isNum r = decide ((((tkH n r).k.toNat : Nat) : Int) = 3) := by
 cases r with
 | nil => rfl
 | cons t l =>
  show decide (t.k = 3) = decide (((t.k.toNat : Nat) : Int) = 3)
  rw [Bool.eq_iff_iff,decide_eq_true_eq,decide_eq_true_eq]
  exact ⟨fun h => by rw [h];rfl,fun h => UInt8.toNat_inj.1 (by show t.k.toNat = 3;omega)⟩
theorem last_eq {n : Nat} {q : Sg} (h : decide ((((tkH n q.r).k.toNat : Nat) : Int) = 3) = true) : gLast q.r = gNum q.r := by
 unfold gLast
 rw [isNum_k (n := n),if_pos h]
theorem last_neq {n : Nat} {q : Sg} (h : decide ((((tkH n q.r).k.toNat : Nat) : Int) = 3) = false) : gLast q.r = gNam q.r := by
 unfold gLast
 rw [isNum_k (n := n),if_neg (by rw [h];decide)]
theorem up_at {α : Type} {n : Nat} {g g' : Pz α} {q : Sg} (h : g q.r = g' q.r) : up n g q = up n g' q := by unfold up;rw [h]
theorem vl_at {α : Type} {g g' : Pz α} {q : Sg} {x : α} (h : g q.r = g' q.r) (k : vl g' q x) : vl g q x := fun h0 a r e => k h0 a r (by rw [← h];exact e)
theorem last_num {n : Nat} {q : Sg} {v : Int64} (h : decide ((((tkH n q.r).k.toNat : Nat) : Int) = 3) = true) (hv : vl gNu q v) : vl gLast q (.mk 1 [] v []) := vl_at (last_eq h) (vl_map (f := fun v => Ex.mk 1 [] v []) hv)
theorem last_numU {n : Nat} {q : Sg} (h : decide ((((tkH n q.r).k.toNat : Nat) : Int) = 3) = true) : up n gLast q = up n gNu q := by rw [up_at (last_eq h)];exact up_map
theorem last_nam {n : Nat} {q : Sg} {x : Ex} (h : decide ((((tkH n q.r).k.toNat : Nat) : Int) = 3) = false) (hx : vl gNam q x) : vl gLast q x := vl_at (last_neq h) hx
theorem key_vl {q : Sg} {nm : Str} {a : Ex} (h : ac [91] q = true) (hv : vl (gKy 6 nm) q a) : vl (gKey 6 nm) q.tl a := by
 obtain ⟨h0,h1⟩ := ac_e h
 intro _ x r e
 refine hv h0 x r ?_
 unfold gKy gBind gNd
 rw [if_pos h1]
 exact e
theorem last_key {n : Nat} {q : Sg} {nm : Str} (h : decide ((((tkH n q.r).k.toNat : Nat) : Int) = 3) = false) (hv : vl gNm q nm) (h1 : ac [91] (up n gNm q) = true) : up n gLast q = up n (gKy 6 nm) (up n gNm q) := by
 rw [up_at (last_neq h)]
 unfold gNam gKy
 rw [up_bind Cz.nm hv,up_altT h1,up_bind (x := ()) (Cz.nd _) vl_unit,up_ndT h1]
theorem last_name {n : Nat} {q : Sg} {nm : Str} (h : decide ((((tkH n q.r).k.toNat : Nat) : Int) = 3) = false) (hv : vl gNm q nm) (h1 : ac [91] (up n gNm q) = false) : up n gLast q = up n gNm q := by
 rw [up_at (last_neq h)]
 unfold gNam
 rw [up_bind Cz.nm hv,up_altF h1,up_pure]
set_option maxRecDepth 100000 in
theorem primary_st (M : Nat) (hex : ExC 18 (gX 0) M) : ExC 104 gPrim (M + 1) := by
 intro H w0 W bs b n ts tp tc t0 t1 t2 t3 q K hq hmu s
 refine Sx.enterS Tryd.func104 rfl Tryd.ntmps104 rfl s ?_
 refine .sr<|.al Fx.zero31 Z fun b2 => .nt<|.sq<|.bk<|.sr<|.m Z Z<|.cs (X := Unit) Fx.call37 Z (fun W s => accept_ac K hq [116,114,117,101] (by decide +kernel) (s.pickT (hd := [_,_]) (tl := bs) (hd' := [_,_]) [1,0] Z Z)) Z fun _ _ => .a Z Z<|.nt<|.cd Z (fun h5 => ?_) (fun h5 => ?_)
 ·rw [acS_T h5]
  refine .sr<|.yv (.build Z (Fx.bld31_0 _)) Z<|.sW (.tail<|.head) Z Z Fx.size31 (by simp [Value.oneCell',strV]) Z<|.nt<|.rt<|.bR<|.tR<|?_
  refine Sx.ret1 (.inl rfl) rfl (.cell rfl Fx.agg31 (.tail _<|.head _) rfl) fun W s => ?_
  rw [show up n gPrim q = q.tl by unfold gPrim;rw [up_altT h5,up_pure]]
  exact ⟨(opE 2 [],[.int .u8 2,.string ⟨#[]⟩,.int .i64 0,.slice none 0 0],H),⟨(by unfold gPrim;exact vl_altT h5 (vl_pure)),.refl,ex_shut (op := 2) (nm := []) (n := 0) (args := []) (by decide) (Rep.empty (p := none) (c := 0) (by decide))⟩,rfl,s.pickT (hd := [_,_]) (tl := bs) (hd' := [_]) [0] rfl rfl⟩
 rw [acS_F h5]
 refine .sr<|.m Z Z<|.cs (X := Unit) Fx.call37 Z (fun W s => accept_ac K hq [102,97,108,115,101] (by decide +kernel) (s.pickT (hd := [_,_]) (tl := bs) (hd' := [_,_]) [0,1] Z Z)) Z fun _ _ => .a Z Z<|.nt<|.cd Z (fun h9 => ?_) (fun h9 => ?_)
 ·rw [acS_T h9]
  refine .sr<|.yv (.build Z (Fx.bld31_0 _)) Z<|.sW (.tail<|.head) Z Z Fx.size31 (by simp [Value.oneCell',strV]) Z<|.nt<|.rt<|.bR<|.tR<|?_
  refine Sx.ret1 (.inl rfl) rfl (.cell rfl Fx.agg31 (.tail _<|.head _) rfl) fun W s => ?_
  rw [show up n gPrim q = q.tl by unfold gPrim;rw [up_altF h5,up_altT h9,up_pure]]
  exact ⟨(opE 3 [],[.int .u8 3,.string ⟨#[]⟩,.int .i64 0,.slice none 0 0],H),⟨(by unfold gPrim;exact vl_altF h5 (vl_altT h9 (vl_pure))),.refl,ex_shut (op := 3) (nm := []) (n := 0) (args := []) (by decide) (Rep.empty (p := none) (c := 0) (by decide))⟩,rfl,s.pickT (hd := [_,_]) (tl := bs) (hd' := [_]) [0] rfl rfl⟩
 rw [acS_F h9]
 refine .sr<|.m Z Z<|.cs (X := Unit) Fx.call37 Z (fun W s => accept_ac K hq [110,111,119] (by decide +kernel) (s.pickT (hd := [_,_]) (tl := bs) (hd' := [_,_]) [0,1] Z Z)) Z fun _ _ => .a Z Z<|.nt<|.cd Z (fun h13 => ?_) (fun h13 => ?_)
 ·rw [acS_T h13]
  refine .sr<|.yv (.build Z (Fx.bld31_0 _)) Z<|.sW (.tail<|.head) Z Z Fx.size31 (by simp [Value.oneCell',strV]) Z<|.nt<|.rt<|.bR<|.tR<|?_
  refine Sx.ret1 (.inl rfl) rfl (.cell rfl Fx.agg31 (.tail _<|.head _) rfl) fun W s => ?_
  rw [show up n gPrim q = q.tl by unfold gPrim;rw [up_altF h5,up_altF h9,up_altT h13,up_pure]]
  exact ⟨(opE 4 [],[.int .u8 4,.string ⟨#[]⟩,.int .i64 0,.slice none 0 0],H),⟨(by unfold gPrim;exact vl_altF h5 (vl_altF h9 (vl_altT h13 (vl_pure)))),.refl,ex_shut (op := 4) (nm := []) (n := 0) (args := []) (by decide) (Rep.empty (p := none) (c := 0) (by decide))⟩,rfl,s.pickT (hd := [_,_]) (tl := bs) (hd' := [_]) [0] rfl rfl⟩
 rw [acS_F h13]
 refine .sr<|.m Z Z<|.cs (X := Unit) Fx.call37 Z (fun W s => accept_ac K hq [115,105,122,101] (by decide +kernel) (s.pickT (hd := [_,_]) (tl := bs) (hd' := [_,_]) [0,1] Z Z)) Z fun _ _ => .a Z Z<|.nt<|.cd Z (fun h17 => ?_) (fun h17 => ?_)
 ·rw [acS_T h17]
  refine .sr<|.m Z Z<|.cs (X := Str) Fx.call39 Z (fun W s => name_st K (Suf.tl hq)  (s.pickT (hd := [_,_]) (tl := bs) (hd' := [_,_]) [0,1] Z Z)) Z fun nm hnm => .yv (.build Z (Fx.bld31_0_1 _ _)) Z<|.sW (.tail<|.head) Z Z Fx.size31 (by simp [Value.oneCell',strV]) Z<|.nt<|.rt<|.bR<|.tR<|?_
  refine Sx.ret1 (.inl rfl) rfl (.cell rfl Fx.agg31 (.tail _<|.head _) rfl) fun W s => ?_
  rw [show up n gPrim q = up n gNm q.tl by unfold gPrim;rw [up_altF h5,up_altF h9,up_altF h13,up_altT h17,up_map]]
  exact ⟨(.mk 8 nm 0 [],[.int .u8 8,strV nm,.int .i64 0,.slice none 0 0],H),⟨(by unfold gPrim;exact vl_altF h5 (vl_altF h9 (vl_altF h13 (vl_altT h17 (vl_map (f := fun s => Ex.mk 8 s 0 []) hnm.1))))),.refl,ex_shut (op := 8) (nm := nm) (n := 0) (args := []) hnm.2 (Rep.empty (p := none) (c := 0) (by decide))⟩,rfl,s.pickT (hd := [_,_]) (tl := bs) (hd' := [_]) [0] rfl rfl⟩
 rw [acS_F h17]
 refine .sr<|.m Z Z<|.cs (X := Unit) Fx.call37 Z (fun W s => accept_ac K hq [104,97,115] (by decide +kernel) (s.pickT (hd := [_,_]) (tl := bs) (hd' := [_,_]) [0,1] Z Z)) Z fun _ _ => .a Z Z<|.nt<|.cd Z (fun h23 => ?_) (fun h23 => ?_)
 ·rw [acS_T h23]
  have hlt := mu_tl h23
  refine .sr<|.m Z Z<|.m Z Z<|.cs (X := Str) Fx.call39 Z (fun W s => name_st K (Suf.tl hq)  (s.pickT (hd := [_,_]) (tl := bs) (hd' := [_,_]) [0,1] Z Z)) Z fun nm hnm => .cs (X := Ex × List Value × Hp) Fx.call105 Z (fun W s => key_st M hex K (Suf.nm.up (Suf.tl hq)) 7 nm hnm.2 (by have h1 := mu_up (n := n) (s := q.tl) Shs.nm.le Cz.nm;have h2 := mu_up (n := n) (s := up n gNm q.tl) (Shs.nd [91]).le (Cz.nd [91]);omega) (s.pickT (hd := [_,_]) (tl := bs) (hd' := [_,_]) [0,1] Z Z)) Z fun z1 hz1 => ?_
  obtain ⟨a1,c1,H1⟩ := z1
  obtain ⟨hv1,u1,r1⟩ := hz1
  dsimp only at hv1 u1 r1 ⊢
  obtain ⟨x1,x2,x3,x4,rfl⟩ := four (ex_len r1)
  have K1 := K.up u1.up
  refine .sW (.tail<|.head) Z Z Fx.size31 (Rep.one r1) Z<|.nt<|.rt<|.bR<|.tR<|?_
  refine Sx.ret1 (.inl rfl) rfl (.cell rfl Fx.agg31 (.tail _<|.head _) rfl) fun W s => ?_
  rw [show up n gPrim q = up n (gKy 7 nm) (up n gNm q.tl) by unfold gPrim;rw [up_altF h5,up_altF h9,up_altF h13,up_altF h17,up_altT h23,up_bind Cz.nm hnm.1];rfl]
  exact ⟨(a1,[x1,x2,x3,x4],H1),⟨(by unfold gPrim;exact vl_altF h5 (vl_altF h9 (vl_altF h13 (vl_altF h17 (vl_altT h23 (vl_bind (n := n) hnm.1 hv1)))))),u1,r1⟩,rfl,s.pickT (hd := [_,_]) (tl := bs) (hd' := [_]) [0] rfl rfl⟩
 rw [acS_F h23]
 refine .sr<|.m Z Z<|.cs (X := Unit) Fx.call37 Z (fun W s => accept_ac K hq [40] (by decide +kernel) (s.pickT (hd := [_,_]) (tl := bs) (hd' := [_,_]) [0,1] Z Z)) Z fun _ _ => .a Z Z<|.nt<|.cd Z (fun h30 => ?_) (fun h30 => ?_)
 ·rw [acS_T h30]
  have hlt := mu_tl h30
  refine .sr<|.m Z Z<|.cs (X := Ex × List Value × Hp) Fx.call18 Z (fun W s => hex K (Suf.tl hq) (by omega) (s.pickT (hd := [_,_]) (tl := bs) (hd' := [_,_]) [0,1] Z Z)) Z fun z1 hz1 => ?_
  obtain ⟨a1,c1,H1⟩ := z1
  obtain ⟨hv1,u1,r1⟩ := hz1
  dsimp only at hv1 u1 r1 ⊢
  obtain ⟨x1,x2,x3,x4,rfl⟩ := four (ex_len r1)
  have K1 := K.up u1.up
  refine .al Fx.zero31 Z fun b3 => .sW .head Z Z Fx.size31 (Rep.one r1) Z<|.ns<|.m Z Z<|.cs (X := Unit) Fx.call38 Z (fun W s => expect_nd K1 ((Suf.ex 0).up (Suf.tl hq)) [41] (by decide +kernel) (s.pickT (hd := [_,_,_]) (tl := bs) (hd' := [_,_,_]) [1,0,2] Z Z)) Z fun _ _ => .ns<|.yv (.loadW Z Fx.agg31 (.tail _<|.head _) Z) Z<|.sW (.tail<|.tail<|.head) Z Z Fx.size31 (Rep.one r1) Z<|.nt<|.rt<|.bR<|.tR<|?_
  refine Sx.ret1 (.inl rfl) rfl (.cell rfl Fx.agg31 (.tail _<|.tail _<|.head _) rfl) fun W s => ?_
  rw [show up n gPrim q = up n (gNd [41]) (up n (gX 0) q.tl) by unfold gPrim;rw [up_altF h5,up_altF h9,up_altF h13,up_altF h17,up_altF h23,up_altT h30,up_bind (Cz.ex _) hv1,up_bind (x := ()) (Cz.nd _) vl_unit,up_pure]]
  exact ⟨(a1,[x1,x2,x3,x4],H1),⟨(by unfold gPrim;exact vl_altF h5 (vl_altF h9 (vl_altF h13 (vl_altF h17 (vl_altF h23 (vl_altT h30 (vl_bind (n := n) hv1 (vl_bind (n := n) (x := ()) vl_unit vl_pure)))))))),u1,r1⟩,rfl,s.pickT (hd := [_,_,_]) (tl := bs) (hd' := [_]) [0] rfl rfl⟩
 rw [acS_F h30]
 refine .sr<|.m Z Z<|.cs (X := Unit) Fx.call51 Z (fun W s => token_st K hq  (s.pickT (hd := [_,_]) (tl := bs) (hd' := [_,_]) [0,1] Z Z)) Z fun _ _ => .yv (.fld Z (fld_tk0 _ _ _)) Z<|.yv (.eql Z Z) Z<|.a Z Z<|.nt<|.cd Z (fun h38 => ?_) (fun h38 => ?_)
 ·skip
  refine .sr<|.m Z Z<|.cs (X := Int64) Fx.call56 Z (fun W s => number_st K hq  (s.pickT (hd := [_,_]) (tl := bs) (hd' := [_,_]) [0,1] Z Z)) Z fun nu hnu => .yv (.build Z (Fx.bld31_0_2 _ _)) Z<|.sW (.tail<|.head) Z Z Fx.size31 (by simp [Value.oneCell',strV]) Z<|.nt<|.rt<|.bR<|.tR<|?_
  refine Sx.ret1 (.inl rfl) rfl (.cell rfl Fx.agg31 (.tail _<|.head _) rfl) fun W s => ?_
  rw [show up n gPrim q = up n gNu q by unfold gPrim;rw [up_altF h5,up_altF h9,up_altF h13,up_altF h17,up_altF h23,up_altF h30];exact last_numU h38]
  exact ⟨(.mk 1 [] nu [],[.int .u8 1,.string ⟨#[]⟩,.int .i64 nu.toInt,.slice none 0 0],H),⟨(by unfold gPrim;exact vl_altF h5 (vl_altF h9 (vl_altF h13 (vl_altF h17 (vl_altF h23 (vl_altF h30 (last_num h38 hnu))))))),.refl,ex_shut (op := 1) (nm := []) (n := nu) (args := []) (by decide) (Rep.empty (p := none) (c := 0) (by decide))⟩,rfl,s.pickT (hd := [_,_]) (tl := bs) (hd' := [_]) [0] rfl rfl⟩
 skip
 refine .sk<|.bN<|.tN<|.sr<|.m Z Z<|.cs (X := Str) Fx.call39 Z (fun W s => name_st K hq  (s.pickT (hd := [_,_]) (tl := bs) (hd' := [_,_]) [0,1] Z Z)) Z fun nm hnm => .a Z Z<|.nt<|.sq<|.sr<|.m Z Z<|.cs (X := Unit) Fx.call54 Z (fun W s => is_ac K (Suf.nm.up hq) [91] (by decide +kernel) (s.pickT (hd := [_,_]) (tl := bs) (hd' := [_,_]) [0,1] Z Z)) Z fun _ _ => .nt<|.cd Z (fun h49 => ?_) (fun h49 => ?_)
 ·have hlt := mu_tl h49
  have hle := mu_up (n := n) (s := q) Shs.nm.le Cz.nm
  refine .sr<|.m Z Z<|.m Z Z<|.cs (X := Ex × List Value × Hp) Fx.call105 Z (fun W s => key_st M hex K (Suf.nm.up hq) 6 nm hnm.2 (by rw [up_ndT h49];omega) (s.pickT (hd := [_,_]) (tl := bs) (hd' := [_,_]) [0,1] Z Z)) Z fun z1 hz1 => ?_
  obtain ⟨a1,c1,H1⟩ := z1
  obtain ⟨hv1,u1,r1⟩ := hz1
  dsimp only at hv1 u1 r1 ⊢
  obtain ⟨x1,x2,x3,x4,rfl⟩ := four (ex_len r1)
  have K1 := K.up u1.up
  have hk1 : vl (gKey 6 nm) (up n gNm q).tl a1 := key_vl h49 hv1
  refine .sW (.tail<|.head) Z Z Fx.size31 (Rep.one r1) Z<|.nt<|.rt<|.tR<|?_
  refine Sx.ret1 (.inl rfl) rfl (.cell rfl Fx.agg31 (.tail _<|.head _) rfl) fun W s => ?_
  rw [show up n gPrim q = up n (gKy 6 nm) (up n gNm q) by unfold gPrim;rw [up_altF h5,up_altF h9,up_altF h13,up_altF h17,up_altF h23,up_altF h30];exact last_key h38 hnm.1 h49]
  exact ⟨(a1,[x1,x2,x3,x4],H1),⟨(by unfold gPrim;exact vl_altF h5 (vl_altF h9 (vl_altF h13 (vl_altF h17 (vl_altF h23 (vl_altF h30 (last_nam h38 (vl_bind (n := n) hnm.1 (vl_altT h49 hk1))))))))),u1,r1⟩,rfl,s.pickT (hd := [_,_]) (tl := bs) (hd' := [_]) [0] rfl rfl⟩
 skip
 refine .sk<|.tN<|.sr<|.m Z Z<|.yv (.build Z (Fx.bld31_0_1 _ _)) Z<|.sW (.tail<|.head) Z Z Fx.size31 (by simp [Value.oneCell',strV]) Z<|.nt<|.rt<|?_
 refine Sx.ret1 (.inl rfl) rfl (.cell rfl Fx.agg31 (.tail _<|.head _) rfl) fun W s => ?_
 rw [show up n gPrim q = up n gNm q by unfold gPrim;rw [up_altF h5,up_altF h9,up_altF h13,up_altF h17,up_altF h23,up_altF h30];exact last_name h38 hnm.1 h49]
 exact ⟨(.mk 5 nm 0 [],[.int .u8 5,strV nm,.int .i64 0,.slice none 0 0],H),⟨(by unfold gPrim;exact vl_altF h5 (vl_altF h9 (vl_altF h13 (vl_altF h17 (vl_altF h23 (vl_altF h30 (last_nam h38 (vl_bind (n := n) hnm.1 (vl_altF h49 vl_pure))))))))),.refl,ex_shut (op := 5) (nm := nm) (n := 0) (args := []) hnm.2 (Rep.empty (p := none) (c := 0) (by decide))⟩,rfl,s.pickT (hd := [_,_]) (tl := bs) (hd' := [_]) [0] rfl rfl⟩
theorem levels_st : ∀ M,ExC 18 (gX 0) M ∧ ExC 97 (gX 5) M
 | 0 => ⟨ExC.zero _ _,ExC.zero _ _⟩
 | M + 1 => by
  obtain ⟨h1,h2⟩ := levels_st M
  have hp : ExC 104 gPrim (M + 1) := primary_st M h1
  have hu : ExC 97 (gX 5) (M + 1) := unary_st M h2 hp
  exact ⟨expr_st _ (conj_st _ (comp_st _ (sum_st _ (product_st _ hu)))),hu⟩
theorem expr_all {H : Hp} {w0 W : World} {bs : List Res} {b n : Nat} {ts : List Tk} {tp : Option Addr} {tc : Nat} {t0 t1 t2 t3 : Value} {q : Sg} (K : Tkm H ts tp tc) (hq : q.r <:+ ts) (s : St H w0 (.box b [.slice tp ts.length tc,.int .i64 (posN ts q : Nat),.int .i64 (n : Nat),t0,t1,t2,t3,.int .i64 (q.o : Nat),.int .i64 (q.e : Nat)] 64 :: bs) W) : Calls Tryd.prog 18 #[.pointer (some ⟨b,0,none⟩)] W fun e W' => ∃ z : Ex × List Value × Hp,(vl (gX 0) q z.1 ∧ HUp w0 H z.2.2 ∧ Rep z.2.2 (dEx .u8 z.1) z.2.1) ∧ e = .returned (.agg z.2.1.toArray) ∧ St z.2.2 w0 (.box b [.slice tp ts.length tc,.int .i64 (posN ts (up n (gX 0) q) : Nat),.int .i64 (n : Nat),t0,t1,t2,t3,.int .i64 ((up n (gX 0) q).o : Nat),.int .i64 ((up n (gX 0) q).e : Nat)] 64 :: bs) W' := (levels_st (q.mu + 1)).1 K hq (Nat.lt_succ_self _) s
end Go.Proofs.YthhoebdlfjffkaaDoor
namespace Go.Sx
open Go.RowKit Go.Par
def Qn (Q : Exit → Act → World → Prop) : Exit → Act → World → Prop
 | .normal => Q .normal
 | _ => fun _ _ => False
def noDef (l : List Oper) : Bool := l.all fun o => match o.op with | .defer _ => false | _ => true
section
variable {dfs : List Deferred} {P : Program} {n m : Nat} {L : Sl} {H : Hp} {w0 : World} {bs : List Res} {Q : Exit → Act → World → Prop} {ops : Array Oper} {F : Fence}
theorem wpIn_of_wpQ [hF : FW F] {o : Oper} {a : Act} {w : World} {K : Act → World → Prop} (hd : ∀ c,o.op ≠ .defer c) (h : o.wp P a w K (Qn Q)) : o.wpIn F m P a w K Q := by
 unfold Oper.wpIn
 refine ⟨fun f _ => hF.fn f,?_⟩
 rw [Oper.semAt_plain F _ _ hd]
 unfold Oper.wp at h
 generalize (execOp a.eval o).run P w = r at *
 cases r with
 | ok z w' =>
  cases z <;> simp only [Oper.upon] at h <;> simp only [Oper.uponIn]
  case value u => exact h
  case skip => exact h
  case defer d => exact h
  case enter f args =>
   refine ⟨fun e => (by rw [hF.depth] at e;cases e),hF.calls (h.mono ?_)⟩
   intro e w'' q
   cases e with
   | returned v => exact q
   | panicked c => exact q.elim
   | outgrown => obtain ⟨_,_,q⟩ := q;exact q.elim
  case row rw args => exact ⟨fun e => (by rw [hF.depth] at e;cases e),hF.rows h⟩
 | halt z w' =>
  cases z <;> simp only [Oper.upon] at h <;> exact h.elim
theorem anyIn [hF : FW F] (hd : ∀ (i : Nat) o,ops[i]? = some o → ∀ c,o.op ≠ .defer c) : ∀ (fuel : Nat) (listed : Array Bool) (a : Act) (w : World),wpAny P .any ops (Qn Q) fuel listed a w → wpAnyIn F m P .any ops Q fuel listed a w
 | 0,_,_,_,h => h
 | fuel + 1,listed,a,w,h => by
  refine ⟨h.1,fun i hi => ?_⟩
  have h1 := h.2 i hi
  unfold wpOp at h1
  unfold wpOpIn
  cases ho : ops[i]? with
  | none =>
   rw [ho] at h1
   exact anyIn hd fuel _ _ _ h1
  | some o =>
   rw [ho] at h1
   dsimp only at h1 ⊢
   cases hw : Region.wanted o (yielded ops a.tmps) with
   | true =>
    rw [hw] at h1
    simp only [if_true] at h1 ⊢
    rcases h1 with h1 | ⟨_,_,_,h1⟩
    ·exact Oper.wpIn_mono (fun a w k => anyIn hd fuel _ a w k) (wpIn_of_wpQ (hd i o ho) h1)
    ·exact h1.elim
   | false =>
    rw [hw] at h1
    simp only [Bool.false_eq_true,if_false] at h1 ⊢
    exact ⟨fun f _ => hF.fn f,anyIn hd fuel _ _ _ h1⟩
theorem noDef_at {l : List Oper} (h : noDef l = true) : ∀ (i : Nat) o,l.toArray[i]? = some o → ∀ c,o.op ≠ .defer c := by
 intro i o ho c e
 have hm : o ∈ l := List.mem_of_getElem? (by simpa using ho)
 have := List.all_eq_true.1 h o hm
 rw [e] at this
 cases this
theorem At.flI [FW F] {id : Nat} {l : List Oper} {trip : List (Nat × Nat × Oper)} (nn : Nat) (ord : List (Nat × Nat)) (hm : P.follows .mixedOrders = true) (hB : flowB l.toArray nn ord = true) (hd : noDef l = true) (ht : ord.map (fun x => (x.1,x.2,l[x.1]!)) = trip)
 (h : FlowP dfs P l.toArray nn w0 n (fun L H bs => At dfs n L H w0 bs (wpList P l.toArray (Qn Q) (l.drop nn))) trip [] L H bs) : At dfs n L H w0 bs ((Code.region id l.toArray true).wpIn F m P Q) :=
 fun a W f s => wpIn_region_any hm (anyIn (noDef_at hd) _ _ _ _ (flowAny nn ord hB ht h a W f s))
theorem At.nlQ (h : At dfs n L H w0 bs (Q .normal)) : At dfs n L H w0 bs (wpList P ops (Qn Q) []) := h
theorem At.bkI {id : Nat} {c : Code} (h : At dfs n L H w0 bs (c.wpIn F m P (Exit.inBlock id Q))) : At dfs n L H w0 bs ((Code.block id c).wpIn F m P Q) := fun a W f s => wpIn_block (h a W f s)
end
structure Apx (H : Hp) (p : Nat) (fx : List Res) (TX : TypeId) (cs : List Value) (b : Nat) (W : World) : Prop where
 blk : W.heap[b]? = some (.cells cs.toArray TX (0,0))
 new : H b = none
 head : ∃ u l t m,W.heap[p]? = some (.cells (u :: l).toArray t m) ∧ u.ownBlock ≠ some b
 ne : b ≠ p
 fix : ∀ x ∈ fx,x.blk ≠ some b
theorem Apx.grow {H : Hp} {p b : Nat} {fx : List Res} {TX : TypeId} {cs : List Value} {A B : World} {row : Option Nat} (h : Apx H p fx TX cs b A) (g : A.grownBy B row) (hr : ∀ r,row = some r → ∃ o : Obj,A.heap[r]? = some o ∧ o.isCells = false) : Apx H p fx TX cs b B := by
 have key : ∀ {k : Nat} {arr : Array Value} {t : TypeId} {m : Nat × Nat},A.heap[k]? = some (Obj.cells arr t m) → B.heap[k]? = some (Obj.cells arr t m) := fun {k arr t m} hk => by
  rw [← hk]
  refine g.block k (block_lt hk) fun e => ?_
  obtain ⟨o,h1,h2⟩ := hr k e.symm
  rw [hk] at h1
  cases h1
  cases h2
 obtain ⟨u,l,t,m,h1,h2⟩ := h.head
 exact ⟨key h.blk,h.new,⟨u,l,t,m,key h1,h2⟩,h.ne,h.fix⟩
section
variable {H : Hp} {w0 : World}
def rsB (e : TypeId) (size p : Nat) (T : TypeId) (fx : List Res) (v : Value) (k : Nat) (xs l : List Value) : List Res := .row e size v k xs :: .box p (v :: l) T :: fx
theorem Apx.of {p b size k : Nat} {e T TX : TypeId} {fx tl : List Res} {v : Value} {xs l cs : List Value} {W : World} (s : St H w0 (.box b cs TX :: (rsB e size p T fx v k xs l ++ tl)) W) : Apx H p fx TX cs b W := by
 have hb := s.own _ (List.mem_cons_self ..)
 have ha := (List.pairwise_cons.1 s.apart).1
 refine ⟨hb.1.2,hb.2 b rfl,⟨v,l,T,_,(s.own (.box p (v :: l) T) (by simp [rsB])).1.2,fun e => ha (.row _ _ v _ _) (by simp [rsB];exact .inl ⟨rfl,rfl,rfl,rfl⟩) b rfl e⟩,fun e => ha (.box p (v :: l) T) (by simp [rsB]) b rfl (by rw [e];rfl),fun x hx e => ha x (by simp [rsB,hx]) b rfl e⟩
theorem Apx.st {p b size k : Nat} {e T TX : TypeId} {fx : List Res} {v : Value} {xs l cs : List Value} {W : World} (h : Apx H p fx TX cs b W) (s : St H w0 (rsB e size p T fx v k xs l) W) : St (fun c => if c = b then some (.cells cs.toArray TX (0,0)) else H c) w0 (rsB e size p T fx v k xs l) W := by
 refine ⟨s.ext,fun c o hc => ?_,fun x hx => ⟨(s.own x hx).1,fun c hc => ?_⟩,s.apart⟩
 ·split at hc
  ·rename_i e;subst e;rw [← hc];exact h.blk
  ·exact s.agr c o hc
 ·rw [if_neg,(s.own x hx).2 c hc]
  intro e
  subst e
  unfold rsB at hx
  rcases List.mem_cons.1 hx with rfl | hx
  ·obtain ⟨u,l2,t,m,h1,h2⟩ := h.head
   have h3 := (s.own (.box p (v :: l) T) (by simp [rsB])).1.2
   rw [h1] at h3
   have h4 : (u :: l2).toArray = (v :: l).toArray := by injection h3 with h3;injection h3
   have h5 := congrArg Array.toList h4
   simp only [List.cons.injEq] at h5
   rw [h5.1] at h2
   exact h2 hc
  ·rcases List.mem_cons.1 hx with rfl | hx
   ·exact h.ne (Option.some.inj hc).symm
   ·exact h.fix x hx hc
theorem up_put {b : Nat} {o : Obj} (h : H b = none) : Up H (fun c => if c = b then some o else H c) := fun c x hc => by
 dsimp only
 rw [if_neg]
 ·exact hc
 ·intro e
  subst e
  rw [h] at hc
  cases hc
theorem At.rfB {α Z : Type} {bs : List Res} {dfs : List Deferred} {P : Program} {n : Nat} {L : Sl} {Q : Exit → Act → World → Prop} {g : Operand} {pt : Tmp} {assign body : Code} {gf : Nat} {lb : Array Value} {enc : α → Value} {S : List α → Prop} {N : Nat} {e T TX : TypeId} {size p : Nat} {fx : List Res}
 (C : List α → Z → Prop) (v : Z → Value) (k : Z → Nat) (xs l : Z → List Value) (z0 : Z) (L2 : α → Nat → Sl) (cx : α → List Value)
 (hg : ev L g = some (.func (.func gf) #[] lb)) (eg : ∀ args w,(callFunc gf args).run P w = .ok (.enter gf args) w) (ht : Nat.blt pt n = true)
 (hseq : ∀ w,Agr H w → SeqStopsK Fence.wide 8 P gf lb (fun x => #[enc x]) (KpH H) S (fun _ => True) N w)
 (h0 : C [] z0) (hb : bs = rsB e size p T fx (v z0) (k z0) (xs z0) (l z0)) (hn : nobj fx = true)
 (hass : ∀ l x bs' K,(∀ b,At [] n (L2 x b) H w0 (.box b (cx x) TX :: bs') K) → At [] n ((pt,enc x) :: L) H w0 bs' (assign.wpIn (Fence.wide.inRound l) 7 P (Exit.then K (fun _ _ _ => False))))
 (hbody : ∀ l' pre x z tl b H2,C pre z → pre.length < N → Up H H2 → MemAt H2 b 0 (cx x) → At [] n (L2 x b) H2 w0 (rsB e size p T fx (v z) (k z) (xs z) (l z) ++ tl) (body.wpIn (Fence.wide.inRound l') 7 P (Sx.rE C (fun z => rsB e size p T fx (v z) (k z) (xs z) (l z)) H w0 tl (pre ++ [x]))))
 (hdone : ∀ D ys z,S ys → C ys z → At ({ target := .collected D,args := #[] } :: dfs) n L H w0 (.obj D (.deferred (some [])) :: rsB e size p T fx (v z) (k z) (xs z) (l z)) (Q .normal)) :
 At dfs n L H w0 bs ((Code.rangeFunc g #[pt] assign body).wp P Q) := by
 intro a W f s
 subst hb
 have hnz : ∀ z,nobj (rsB e size p T fx (v z) (k z) (xs z) (l z)) = true := fun z => hn
 have hB : w0.heap.size ≤ W.heap.size := s.ext.size
 have hH : ∀ r,W.heap.size ≤ r → H r = none := fun r hr => s.agr.lt hr
 refine (wpIn_wide (n := 9)).1 (wpIn_rangeFunc_ownH (n := 9) (ps := #[pt]) (α := α) (N := N) (S := S) (Sp := fun _ => True) (encs := fun x => #[enc x]) (Kp := KpH H) (w0 := W) rfl (by decide) (f.ev hg) trivial eg (hseq W s.agr) (fun h k q => k (h q)) ?_ (Below.refl _ _) (fun _ => rfl)
  (fun pre W => ∃ z,C pre z ∧ St H w0 (rsB e size p T fx (v z) (k z) (xs z) (l z)) W) (fun _ _ _ => False) (ownSt hB hH fun _ z _ => hnz z) (fun _ _ _ _ _ h _ _ => h.elim) ⟨z0,h0,s⟩ (fun x a' W => ∃ b,Fr [] n (L2 x b) a' ∧ Apx H p fx TX (cx x) b W)
  (fun x a' _ A B row h hg hr => by obtain ⟨b,h1,h2⟩ := h;exact ⟨b,h1,h2.grow hg fun r e => (hr r e).2⟩) ?_ ?_ ?_ (fun _ _ _ _ _ _ h => h.elim))
 ·intro W1 l o o' hl ho _ _ q b ob e
  have hne : b ≠ l := fun h => by subst h;rw [hH b hl] at e;cases e
  exact (World.putObj_heap_other hne).trans (q b ob e)
 ·rintro l' pre x W1 K ⟨z,hz,s1⟩ hK
  have f1 : Fr [] n ((pt,enc x) :: L) { tmps := (#[pt].zip #[enc x]).foldl (fun t (p,v) => t.setIfInBounds p v) a.tmps,defers := [] } := by
   have f2 : Fr [] n L { a with defers := [] } := ⟨f.size,rfl,f.slot⟩
   have e : (#[pt].zip #[enc x]).foldl (fun t (x : Tmp × Value) => match x with | (p,v) => t.setIfInBounds p v) a.tmps = a.tmps.setIfInBounds pt (enc x) := by simp
   rw [e]
   exact f2.put ht (enc x)
  refine hass l' x _ K ?_ _ W1 f1 (s1.tailOf (hnz z) hB hH)
  intro b a' W2 f' s2
  have s3 := s2.drop
  exact hK a' W2 s3.keepsFrom (fun _ => s3.agr) ⟨z,hz,s3.front⟩ ⟨b,f',Apx.of s2⟩
 ·rintro l' pre x a' W1 hl _ ⟨z,hz,s1⟩ ⟨b,f',hx⟩ hlen
  have s2 := hx.st s1
  have hH2 : ∀ r,W1.heap.size ≤ r → (if r = b then some (Obj.cells (cx x).toArray TX (0,0)) else H r) = none := fun r hr => s2.agr.lt hr
  have ht := s1.tailOf (B := W.heap.size) (hnz z) hB hH
  have s4 : St (fun c => if c = b then some (.cells (cx x).toArray TX (0,0)) else H c) w0 (rsB e size p T fx (v z) (k z) (xs z) (l z) ++ Sx.tailOf W.heap.size W1) W1 := by
   refine ⟨ht.ext,s2.agr,fun y hy => ?_,ht.apart⟩
   rcases List.mem_append.1 hy with h | h
   ·exact s2.own y h
   ·refine ⟨(ht.own y hy).1,fun c hc => ?_⟩
    rw [if_neg,(ht.own y hy).2 c hc]
    rintro rfl
    rcases mem_tailOf h with rfl | ⟨d,o,rfl,ho,hc2,_⟩
    ·cases hc
    ·obtain rfl : d = c := Option.some.inj hc
     rw [hx.blk] at ho
     cases ho
     cases hc2
  refine wpIn_mono (hbody l' pre x z _ b _ hz hlen (up_put hx.new) ⟨_,_,_,if_pos rfl,fun j u e => by simpa using e⟩ a' W1 f' s4) ?_
  intro e a2 W2 h
  cases e with
  | normal =>
   obtain ⟨z',hz',s2⟩ := h
   exact ⟨s2.keepsFrom,fun _ => s2.agr,z',hz',s2.front⟩
  | _ => exact h.elim
 ·rintro D ys W1 hD hS ⟨z,hz,s1⟩ hd
  refine hdone D ys z hS hz _ W1 ⟨f.size,by show _ :: _ = _;rw [f.defers],f.slot⟩ ⟨s1.ext,s1.agr,?_,.cons ?_ s1.apart⟩
  ·intro x hx
   rcases List.mem_cons.1 hx with rfl | hx
   ·exact ⟨⟨Nat.le_trans hB hD,hd⟩,fun b e => by obtain rfl : D = b := Option.some.inj e;exact hH D hD⟩
   ·exact s1.own x hx
  ·intro y hy b e e'
   obtain rfl : D = b := Option.some.inj e
   exact nobj_ne s1 (hnz z) hd rfl y hy e'
end
end Go.Sx
namespace Go.Proofs.YthhoebdlfjffkaaDoor
open Go.RowKit Go.Par Go.Sx
theorem Fx.call47 : callN Tryd.prog 47 = Bool.true := by kernel_rfl
theorem Fx.call68 : callN Tryd.prog 68 = Bool.true := by kernel_rfl
theorem Fx.call70 : callN Tryd.prog 70 = Bool.true := by kernel_rfl
theorem Fx.bld73_0_1_2 (x0 : Int) (x1 : ByteArray) (x2 : Int) : buildN Tryd.prog 73 [(0,.int .u8 x0),(1,.string x1),(2,.int .i64 x2)] = some [.int .u8 x0,.string x1,.int .i64 x2] := by kernel_rfl
theorem u8d (c k : UInt8) : decide (((c.toNat : Nat) : Int) = (k.toNat : Nat)) = decide (c = k) := by
 rw [Bool.eq_iff_iff,decide_eq_true_eq,decide_eq_true_eq]
 exact ⟨fun h => UInt8.toNat_inj.1 (by omega),fun h => by rw [h]⟩
set_option maxRecDepth 100000 in
theorem blank_any (c : UInt8) (w : World) : Calls Tryd.prog 68 #[byteV c] w fun r w' => r = .returned (.bool (blkB c)) ∧ Ext w w' := by
 refine Sx.enter (H := (fun _ => none)) Tryd.func68 rfl Tryd.ntmps68 rfl (fun _ _ e => by cases e) ?_
 refine .sr<|.a Z Z<|.ns<|.m Z Z<|.yv (.cast (.eql Z Z) (congrArg Value.bool (u8d c 32))) Z<|.m Z Z<|.b2 (fun h5 => ?_) (fun h5 => ?_)
 ·skip
  refine .gF Z Z Z Z<|.gF Z Z Z Z<|.yv (.pickT Z Z) Z<|.m Z Z<|.gF Z Z Z Z<|.gF Z Z Z Z<|.yv (.pickT Z Z) Z<|.m Z Z<|.gF Z Z Z Z<|.gF Z Z Z Z<|.yv (.pickT Z Z) Z<|.a Z Z<|.nt<|.rt<|?_
  refine Sx.ret1 (.inl rfl) rfl (.tmp rfl) fun W s => ⟨?_,s.ext⟩
  first
   | (unfold blkB;rw [h5];rfl)
   | (unfold blkB;rw [h5,h9];rfl)
   | (unfold blkB;rw [h5,h9,h13];rfl)
 skip
 refine .gd Z Z<|.yv (.move Z) Z<|.gd Z Z<|.yv (.cast (.eql Z Z) (congrArg Value.bool (u8d c 9))) Z<|.yv (.pickF Z Z) Z<|.m Z Z<|.b2 (fun h9 => ?_) (fun h9 => ?_)
 ·skip
  refine .gF Z Z Z Z<|.gF Z Z Z Z<|.yv (.pickT Z Z) Z<|.m Z Z<|.gF Z Z Z Z<|.gF Z Z Z Z<|.yv (.pickT Z Z) Z<|.a Z Z<|.nt<|.rt<|?_
  refine Sx.ret1 (.inl rfl) rfl (.tmp rfl) fun W s => ⟨?_,s.ext⟩
  first
   | (unfold blkB;rw [h5];rfl)
   | (unfold blkB;rw [h5,h9];rfl)
   | (unfold blkB;rw [h5,h9,h13];rfl)
 skip
 refine .gd Z Z<|.yv (.move Z) Z<|.gd Z Z<|.yv (.cast (.eql Z Z) (congrArg Value.bool (u8d c 10))) Z<|.yv (.pickF Z Z) Z<|.m Z Z<|.b2 (fun h13 => ?_) (fun h13 => ?_)
 ·skip
  refine .gF Z Z Z Z<|.gF Z Z Z Z<|.yv (.pickT Z Z) Z<|.a Z Z<|.nt<|.rt<|?_
  refine Sx.ret1 (.inl rfl) rfl (.tmp rfl) fun W s => ⟨?_,s.ext⟩
  first
   | (unfold blkB;rw [h5];rfl)
   | (unfold blkB;rw [h5,h9];rfl)
   | (unfold blkB;rw [h5,h9,h13];rfl)
 skip
 refine .gd Z Z<|.yv (.move Z) Z<|.gd Z Z<|.yv (.cast (.eql Z Z) (congrArg Value.bool (u8d c 13))) Z<|.yv (.pickF Z Z) Z<|.a Z Z<|.nt<|.rt<|?_
 refine Sx.ret1 (.inl rfl) rfl (.tmp rfl) fun W s => ⟨?_,s.ext⟩
 first
  | (unfold blkB;rw [h5];rfl)
  | (unfold blkB;rw [h5,h9];rfl)
  | (unfold blkB;rw [h5,h9,h13];rfl)
def notNl (c : UInt8) : Bool := !decide (c = 10)
theorem u8n (c k : UInt8) : decide (¬ ((c.toNat : Nat) : Int) = (k.toNat : Nat)) = !decide (c = k) := by rw [← u8d,decide_not]
set_option maxRecDepth 100000 in
theorem skip1_any (c : UInt8) (w : World) : Calls Tryd.prog 70 #[byteV c] w fun r w' => r = .returned (.bool (notNl c)) ∧ Ext w w' := by
 refine Sx.enter (H := (fun _ => none)) Tryd.func70 rfl Tryd.ntmps70 rfl (fun _ _ e => by cases e) ?_
 refine .sr<|.a Z Z<|.ns<|.m Z Z<|.yv (.cast (.neq Z Z) (congrArg Value.bool (u8n c 10))) Z<|.a Z Z<|.nt<|.rt<|?_
 exact Sx.ret1 (.inl rfl) rfl (.tmp rfl) fun W s => ⟨rfl,s.ext⟩
theorem pre_cons (q : UInt8 → Bool) (c : UInt8) (r : Str) : pre q (c :: r) = if q c then pre q r + 1 else 0 := by
 unfold pre
 rw [List.takeWhile_cons]
 split <;> simp
theorem skip_b : ∀ (m : Str),skipS false (m.drop (pre blkB m)) = skipS false m
 | [] => rfl
 | c :: r => by
  rw [pre_cons]
  split
  ·rename_i h
   rw [List.drop_succ_cons,skip_b r,skipS_blk h]
  ·rfl
theorem skip_c : ∀ (m : Str),skipS false (m.drop (pre notNl m)) = skipS true m
 | [] => by rw [List.drop_nil,skipS_nil,skipS_nil]
 | c :: r => by
  rw [pre_cons]
  split
  ·rename_i h
   unfold notNl at h
   rw [List.drop_succ_cons,skip_c r,skipS_com (by simpa using h)]
  ·rename_i h
   have e : c = 10 := by unfold notNl at h;simpa using h
   subst e
   rw [List.drop_zero,skipS_end]
theorem pre_hd (q : UInt8 → Bool) : ∀ (m : Str) (c : UInt8) (r : Str),m.drop (pre q m) = c :: r → q c = false
 | [],c,r,h => by cases h
 | x :: m,c,r,h => by
  rw [pre_cons] at h
  split at h
  ·exact pre_hd q m c r (by simpa using h)
  ·rename_i hx
   rw [List.drop_zero] at h
   injection h with h1 _
   subst h1
   simpa using hx
theorem skip_two {m : Str} (h : hasP m [47,47] = true) : skipS false (m.drop (pre notNl m)) = skipS false m ∧ 1 ≤ pre notNl m := by
 rw [hasP_pre] at h
 obtain ⟨r,rfl⟩ := List.isPrefixOf_iff_prefix.1 h
 refine ⟨?_,?_⟩
 ·rw [skip_c]
  exact (skipS_two r).symm
 ·show 1 ≤ pre notNl (47 :: 47 :: r)
  rw [pre_cons,if_pos (by decide)]
  omega
theorem skip_stop {m : Str} (h : hasP (m.drop (pre blkB m)) [47,47] = false) : skipS false m = m.drop (pre blkB m) := by
 rw [← skip_b]
 cases e : m.drop (pre blkB m) with
 | nil => rw [skipS_nil]
 | cons c r =>
  refine skipS_stop (pre_hd _ _ _ _ e) ?_
  rintro ⟨rfl,h2⟩
  rw [e] at h
  cases r with
  | nil => cases h2
  | cons d r =>
   obtain rfl : d = 47 := Option.some.inj h2
   rw [hasP_pre] at h
   rw [show ([47,47] : Str).isPrefixOf (47 :: 47 :: r) = true by simp [List.isPrefixOf]] at h
   cases h
theorem skipN_at {t : Str} {o : Nat} (ho : o ≤ t.length) (h : skipS false t = t.drop o) : skipN t = o := by
 unfold skipN
 rw [h,List.length_drop]
 omega
set_option maxRecDepth 100000 in
theorem lskip_any (t : Str) (hl : t.length ≤ 9223372036854775807) (w : World) : Calls Tryd.prog 47 #[strV t] w fun r w' => r = .returned (.int .i64 (skipN t : Nat)) ∧ Ext w w' := by
 refine Sx.enter (H := (fun _ => none)) Tryd.func47 rfl Tryd.ntmps47 rfl (fun _ _ e => by cases e) ?_
 refine .sr<|.a Z Z<|.ns<|.a Z Z<|.nt<|.bk<|.lp (X := Nat) [(0,_)] ⟨rfl,trivial⟩ [] (fun o => [(3,.int .i64 (o : Nat))]) (fun o => (fun _ => none)) (fun o => []) (fun o => o ≤ t.length ∧ skipS false (t.drop o) = skipS false t) (fun o => t.length - o) 0 (fun _ s => s) ⟨rfl,trivial⟩ ⟨Nat.zero_le _,rfl⟩ fun o hC => ?_
 obtain ⟨ho,hs⟩ := hC
 have hp1 := pre_le blkB (t.drop o)
 rw [List.length_drop] at hp1
 replace hp1 : (o + (pre blkB (t.drop o))) ≤ t.length := by omega
 refine .bk<|.sr<|.m Z Z<|.m Z Z<|.m Z Z<|.yv (.dropS Fx.str9 Z Z (lo := o) Z ho) Z<|.yv (.call Fx.call67 Z (fun W s => prefix_any 68 blkB Fx.call68 blank_any _ (by rw [List.length_drop];omega) W)) Z<|.yv (.add Z Z (c := (((o + (pre blkB (t.drop o))) : Nat) : Int)) ((w6 (by omega)).trans (by omega))) Z<|.a Z Z<|.nt<|.sq<|.sr<|.m Z Z<|.m Z Z<|.yv (.dropS Fx.str9 Z Z (lo := (o + (pre blkB (t.drop o)))) Z hp1) Z<|.yv (.call Fx.call69 Z (fun W s => hasPrefix_any _ [47,47] W)) Z<|.yv (.not Z) Z<|.nt<|.cd Z (fun h14 => ?_) (fun h14 => ?_)
 ·have hh : hasP (t.drop (o + (pre blkB (t.drop o)))) [47,47] = false := by simpa using h14
  refine .sr<|.m Z Z<|.a Z Z<|.nt<|.rt<|.tR<|.bR<|.tR<|.bR<|?_
  exact Sx.ret1 (.inl rfl) rfl (.tmp rfl) fun W s => ⟨by rw [skipN_at hp1 (by rw [← hs,← List.drop_drop];exact skip_stop (by rw [List.drop_drop];exact hh))],s.ext⟩
 have hh : hasP (t.drop (o + (pre blkB (t.drop o)))) [47,47] = true := by simpa using h14
 obtain ⟨hs2,hg2⟩ := skip_two hh
 have hp2 := pre_le notNl (t.drop (o + (pre blkB (t.drop o))))
 rw [List.length_drop] at hp2
 exact .sk<|.tN<|.rg<|.m Z Z<|.m Z Z<|.m Z Z<|.yv (.dropS Fx.str9 Z Z (lo := (o + (pre blkB (t.drop o)))) Z hp1) Z<|.yv (.call Fx.call67 Z (fun W s => prefix_any 70 notNl Fx.call70 skip1_any _ (by rw [List.length_drop];omega) W)) Z<|.yv (.add Z Z (c := (((o + (pre blkB (t.drop o))) + (pre notNl (t.drop (o + (pre blkB (t.drop o))))) : Nat) : Int)) ((w6 (by omega)).trans (by omega))) Z<|.a Z Z<|.nl<|.bN<|.tN<|.ag ((o + (pre blkB (t.drop o))) + (pre notNl (t.drop (o + (pre blkB (t.drop o)))))) ⟨rfl,trivial⟩ ⟨rfl,trivial⟩ (fun _ s => s) ⟨by omega,by rw [← List.drop_drop,hs2,← List.drop_drop,skip_b,hs]⟩ (by omega)
set_option maxRecDepth 100000 in
theorem lex_any (H : Hp) (t : Str) (w : World) (hA : Agr H w) : Calls Tryd.prog 25 #[strV t] w fun r w' => ∃ (b : Nat) (H' : Hp),MemAt H' b 0 [strV t] ∧ r = .returned (.func (.func 46) #[] #[.pointer (some ⟨b,0,none⟩)]) ∧ Grow H w H' w' := by
 refine Sx.enter (H := H) Tryd.func25 rfl Tryd.ntmps25 rfl hA ?_
 refine .sr<|.bx Z Z Z fun b1 => .a Z Z<|.ns<|.yv (.mkF Z Z) Z<|.a Z Z<|.nt<|.rt<|?_
 refine Sx.freezeBox fun H1 u1 m1 => ?_
 exact Sx.ret1 (.inl rfl) rfl (.tmp rfl) fun W s => ⟨b1,H1,m1,rfl,u1.grow s⟩
abbrev TkS := {x : Tk // x.t.length ≤ 1000000}
set_option maxRecDepth 100000 in
theorem lex_seq (H : Hp) (G : Gl H) (t : Str) (hl : t.length ≤ 1000000) (b : Nat) (hm : MemAt H b 0 [strV t]) (w : World) (hA : Agr H w) :
 SeqStopsK Fence.wide 8 Tryd.prog 46 #[.pointer (some ⟨b,0,none⟩)] (fun x : TkS => #[.agg (cTk .u8 x.1).toArray]) (KpH H) (fun xs => xs.map (·.1) = lexR t) (fun _ => True) (t.length + 1) w := by
 refine Sx.seqStops (lb := [.pointer (some ⟨b,0,none⟩)]) Tryd.func46 rfl Tryd.ntmps46 rfl (fun W hW => hA.ext hW) ?_
 intro l Jg Jx W hJs hJxs hY hJ0
 refine .sr<|.yv (.loadM Z Fx.agg9 hm (k := 0) Z Z) Z<|.yv (.call Fx.call47 Z (fun W s => lskip_any t (by omega) W)) Z<|.a Z Z<|.nt<|.bk<|.lj (X := Nat × List TkS) (fun z => [(0,.func (.yield l) #[] #[]),(1,.pointer (some ⟨b,0,none⟩)),(3,.int .i64 (z.1 : Nat))]) (fun z => Jg z.2) (fun z => z.1 ≤ t.length ∧ z.2.length ≤ z.1 ∧ z.2.map (·.1) ++ toks z.1 (t.drop z.1) = lexR t) (fun z => t.length - z.1) (skipN t,[]) ⟨skipN_le t,Nat.zero_le _,(lexR_toks t).symm⟩ ⟨rfl,rfl,rfl,trivial⟩ hJ0 fun z w1 hC hJ1 => ?_
 obtain ⟨o,pre1⟩ := z
 obtain ⟨ho,hpl,htk⟩ := hC
 dsimp only at ho hpl htk hJ1 ⊢
 refine .sq<|.sr<|.m Z Z<|.yv (.loadM Z Fx.agg9 hm (k := 0) Z Z) Z<|.yv (.lenS Fx.str9 Z) Z<|.yv (.lss Z Z) Z<|.nt<|.cd Z (fun h11 => ?_) (fun h11 => ?_)
 ·try simp only [dt] at h11
  have hlt : o < t.length := by omega
  have hm0 : t.drop o ≠ [] := by intro e;have := congrArg List.length e;rw [List.length_drop] at this;simp at this;omega
  have hrk := readK_bnd hm0
  rw [List.length_drop] at hrk
  have hx5 : ((t.drop o).take (readK (t.drop o)).2).length ≤ 1000000 := by rw [List.length_take];omega
  refine .sk<|.tN<|.sq<|.bk<|.sr<|.yv (.loadM Z Fx.agg9 hm (k := 0) Z Z) Z<|.m Z Z<|.yv (.dropS Fx.str9 Z Z (lo := o) Z (by omega)) Z<|.yv (.call Fx.call48 Z (fun W s => read_any H G (t.drop o) (by rw [List.length_drop];omega) hm0 W s.agr)) Z<|.m Z Z<|.yv (.extract Z Z) Z<|.yv (.extract Z Z) Z<|.a Z Z<|.a Z Z<|.nt<|.sq<|.sq<|.rgW 8<|.mI Z Z<|.mI Z Z<|.yvI (.loadM Z Fx.agg9 hm (k := 0) Z Z) Z<|.mI Z Z<|.mI Z Z<|.mI Z Z<|.yvI (.add Z Z (c := ((o + (readK (t.drop o)).2 : Nat) : Int)) ((w6 (by omega)).trans (by omega))) Z<|.yvI (.cast (.midS Fx.str9 Z Z Z (lo := o) (hi := o + (readK (t.drop o)).2) Z Z (by omega) (by omega)) (by rw [List.drop_take,Nat.add_sub_cancel_left])) Z<|.mI Z Z<|.yvI (.build Z (Fx.bld73_0_1_2 _ _ _)) Z<|.yd Z Z Z (fun W s => hY pre1 ⟨⟨(readK (t.drop o)).1,(t.drop o).take (readK (t.drop o)).2,o⟩,hx5⟩ W (hJs _ _ _ hJ1 s.ext) (by omega)) (fun w2 hj2 => ?_) (fun w2 hj2 => ?_)
  ·have hsd := skipN_le ((t.drop o).drop (readK (t.drop o)).2)
   rw [List.length_drop,List.length_drop] at hsd
   exact .yvI (.not Z) Z<|.nlI<|.tN<|.cF Z<|.sk<|.tN<|.rg<|.m Z Z<|.m Z Z<|.yv (.add Z Z (c := ((o + (readK (t.drop o)).2 : Nat) : Int)) ((w6 (by omega)).trans (by omega))) Z<|.a Z Z<|.nl<|.bN<|.tN<|.rg<|.m Z Z<|.yv (.loadM Z Fx.agg9 hm (k := 0) Z Z) Z<|.m Z Z<|.yv (.cast (.dropS Fx.str9 Z Z (lo := o + (readK (t.drop o)).2) Z (by omega)) (by rw [← List.drop_drop];rfl)) Z<|.yv (.call Fx.call47 Z (fun W s => lskip_any ((t.drop o).drop (readK (t.drop o)).2) (by rw [List.length_drop,List.length_drop];omega) W)) Z<|.yv (.add Z Z (c := ((o + (readK (t.drop o)).2 + skipN ((t.drop o).drop (readK (t.drop o)).2) : Nat) : Int)) ((w6 (by omega)).trans (by omega))) Z<|.a Z Z<|.nt<|.aj (x := (o,pre1)) (o + (readK (t.drop o)).2 + skipN ((t.drop o).drop (readK (t.drop o)).2),pre1 ++ [⟨⟨(readK (t.drop o)).1,(t.drop o).take (readK (t.drop o)).2,o⟩,hx5⟩]) ⟨by dsimp only;omega,by dsimp only;rw [List.length_append];simp;omega,by dsimp only;rw [← htk,List.map_append,List.append_assoc];congr 1;rw [toks_cons hm0,show (t.drop o).drop ((readK (t.drop o)).2 + skipN ((t.drop o).drop (readK (t.drop o)).2)) = t.drop (o + (readK (t.drop o)).2 + skipN ((t.drop o).drop (readK (t.drop o)).2)) by rw [Nat.add_assoc];exact List.drop_drop];rfl⟩ (by dsimp only;omega) hj2 ⟨rfl,rfl,rfl,trivial⟩
  refine .yvI (.not Z) Z<|.nlI<|.tN<|.cT Z<|.rt<|.tR<|.bR<|.tR<|.tR<|.bR<|?_
  refine Sx.retN (.inl rfl) rfl .nil rfl fun W s => ⟨⟨_,rfl⟩,.inr ⟨_,trivial,hJxs _ _ _ hj2 s.ext⟩⟩
 try simp only [df] at h11
 have hoe : o = t.length := by omega
 refine .ex<|.tE<|.tE<|.bE<|?_
 refine Sx.retN (.inr rfl) rfl .nil rfl fun W s => ⟨⟨_,rfl⟩,.inl ⟨pre1,?_,hJs _ _ _ hJ1 s.ext⟩⟩
 rw [← htk,hoe,List.drop_length,toks_nil,List.append_nil]
theorem Fx.agg53 : aggN Tryd.prog 53 = Option.some Option.none := by kernel_rfl
theorem Fx.call25 : callN Tryd.prog 25 = Bool.true := by kernel_rfl
theorem Fx.call46 : callN Tryd.prog 46 = Bool.true := by kernel_rfl
theorem Fx.row62 : rowN Tryd.prog 62 = Option.some (73,3,32) := by kernel_rfl
theorem Fx.size53 : sizeN Tryd.prog 53 = Option.some 1 := by kernel_rfl
theorem Fx.size62 : sizeN Tryd.prog 62 = Option.some 1 := by kernel_rfl
theorem Fx.zero53 : zeroN Tryd.prog 53 = Option.some [Go.Value.pointer Option.none] := by kernel_rfl
theorem Fx.bld64_2 (x2 : Int) : buildN Tryd.prog 64 [(2,.int .i64 x2)] = some [.slice none 0 0,.int .i64 0,.int .i64 x2,.string ⟨#[]⟩,.slice none 0 0,.slice none 0 0,.slice none 0 0,.int .i64 0,.int .i64 0] := by kernel_rfl
theorem Fx.bsl62_1 (x00 x01 x02 : Value) : bslN Tryd.prog 62 1 [(0,.agg [x00,x01,x02].toArray)] = some (73,[x00,x01,x02]) := by kernel_rfl
theorem repZ_one {H : Hp} {z : Nat} {d : D} {l : List Value} (h : RepZ H z [d] l) : Rep H d l := by
 unfold RepZ at h
 obtain ⟨x,y,rfl,_,h1,h2⟩ := h
 unfold RepZ at h2
 subst h2
 rw [List.append_nil]
 exact h1
theorem tok_row {H H' : Hp} {x : TkS} {l : List Value} (h : RepZ H 3 [dTk .u8 x.1] l) : RepZ H' 3 (List.map (dTk .u8) (List.map (·.1) [x])) l := by
 obtain ⟨rfl,_⟩ := tk_open (repZ_one h)
 exact .single (tk_shut x.2) Z
theorem pre_take (q : UInt8 → Bool) : ∀ (m : Str),pre q (m.take (pre q m)) = pre q m
 | [] => rfl
 | c :: r => by
  rw [pre_cons]
  cases h : q c with
  | false => rw [if_neg (by decide)];rfl
  | true => rw [if_pos rfl,List.take_succ_cons,pre_cons,h,if_pos rfl,pre_take q r]
theorem readK_dig {m : Str} (h : m ≠ []) (hk : (readK m).1 = 3) : pre digB (m.take (readK m).2) = (m.take (readK m).2).length := by
 have key : (readK m).2 = pre digB m := by
  match m,h with
  | c :: r,_ =>
   cases h1 : letB c with
   | true =>
    exfalso
    revert hk
    cases h4 : words.contains ((c :: r).take (pre insB (c :: r))) with
    | true => simp only [readK,List.headD_cons,h1,h4,if_true];decide
    | false =>
     by_cases h5 : pre insB (c :: r) ≤ 12
     ·simp only [readK,List.headD_cons,h1,h4,h5,if_true,Bool.false_eq_true,if_false];decide
     ·simp only [readK,List.headD_cons,h1,h4,h5,if_true,Bool.false_eq_true,if_false];decide
   | false =>
    cases h4 : digB c with
    | true =>
     by_cases h5 : pre digB (c :: r) = 1 ∨ c ≠ 48
     ·simp only [readK,List.headD_cons,h1,h4,h5,if_true,Bool.false_eq_true,if_false]
     ·exfalso;revert hk;simp only [readK,List.headD_cons,h1,h4,h5,if_true,Bool.false_eq_true,if_false];decide
    | false =>
     exfalso
     revert hk
     cases hx : symbols.find? (fun x => x.isPrefixOf (c :: r)) <;> simp only [readK,List.headD_cons,h1,h4,hx,Bool.false_eq_true,if_false] <;> decide
 rw [key,pre_take,List.length_take,Nat.min_eq_left (pre_le digB m)]
theorem tokF_num : ∀ (f o : Nat) (m : Str),∀ t ∈ tokF f o m,t.k = 3 → pre digB t.t = t.t.length
 | 0,_,_,t,h => by cases h
 | f + 1,o,m,t,h => by
  by_cases h0 : m = []
  ·rw [h0,tokF_nil] at h;cases h
  ·rw [tokF_step h0] at h
   rcases List.mem_cons.1 h with rfl | h
   ·exact fun hk => readK_dig h0 hk
   ·exact tokF_num f _ _ t h
theorem lexR_num (s : Str) : ∀ t ∈ lexR s,t.k = 3 → pre digB t.t = t.t.length := tokF_num _ _ _
theorem tokF_short : ∀ (f o : Nat) (m : Str),∀ t ∈ tokF f o m,t.t.length ≤ m.length
 | 0,_,_,t,h => by cases h
 | f + 1,o,m,t,h => by
  by_cases h0 : m = []
  ·rw [h0,tokF_nil] at h;cases h
  ·rw [tokF_step h0] at h
   rcases List.mem_cons.1 h with rfl | h
   ·show (m.take _).length ≤ _
    rw [List.length_take]
    omega
   ·have h1 := tokF_short f _ _ t h
    have h2 := skipS_len false (m.drop (readK m).2)
    rw [List.length_drop] at h2
    omega
theorem lexR_short (s : Str) : ∀ t ∈ lexR s,t.t.length ≤ s.length := fun t h => Nat.le_trans (tokF_short _ _ _ t h) (skipS_len false s)
set_option maxRecDepth 100000 in
theorem start_any (H : Hp) (G : Gl H) (t : Str) (ht : t.length ≤ 9223372036854775807) (w : World) (hA : Agr H w) :
 Calls Tryd.prog 17 #[strV t] w fun e W' => ∃ z : Nat × Hp × Option Addr × Nat,(Tkm z.2.1 (sg0 t).r z.2.2.1 z.2.2.2 ∧ HUp w H z.2.1) ∧ e = .returned (.pointer (some ⟨z.1,0,none⟩)) ∧ St z.2.1 w [.box z.1 [.slice z.2.2.1 ((sg0 t).r).length z.2.2.2,.int .i64 (posN ((sg0 t).r) (sg0 t) : Nat),.int .i64 (t.length : Nat),.string ⟨#[]⟩,.slice none 0 0,.slice none 0 0,.slice none 0 0,.int .i64 ((sg0 t).o : Nat),.int .i64 ((sg0 t).e : Nat)] 64] W' := by
 refine Sx.enterM (H := H) Tryd.func17 rfl Tryd.ntmps17 rfl hA ?_
 refine .sr<|.a Z Z<|.ns<|.m Z Z<|.yv (.lenS Fx.str9 Z) Z<|.yv (.build Z (Fx.bld64_2 _)) Z<|.bx Z Z Z fun b8 => .al Fx.zero53 Z fun b3 => .st .head Z Z Fx.size53 Z (nb Z) Z<|.nt<|.sq<|.sr<|.m Z Z<|.yv (.lenS Fx.str9 Z) Z<|.yv (.gtr Z Z) Z<|.nt<|.cd Z (fun h11 => ?_) (fun h11 => ?_)
 ·try simp only [dt] at h11
  have hbig : 20000 < t.length := by omega
  have e0 : sg0 t = ⟨[],3,0⟩ := by unfold sg0;rw [if_pos hbig]
  refine .sr<|.yv (.load Z Fx.agg53 (.head _) Z) Z<|.yv (.nilCheck Z) Z<|.yv (.fieldAddr Z Fx.field64_5) Z<|.st (.tail<|.head) Z Z Fx.size32 Z (nb Z) Z<|.ns<|.yv (.load Z Fx.agg53 (.head _) Z) Z<|.a Z Z<|.nt<|.rt<|.tR<|?_
  refine Sx.ret0M (.inl rfl) ?_
  refine Sx.ret1 (.inl rfl) rfl (.tmp rfl) fun W s => ⟨(b8,H,none,0),⟨by rw [e0];exact ⟨Rep.empty (Nat.zero_le _),fun _ h => (by cases h),fun _ h => (by cases h),fun _ h => (by cases h)⟩,.refl⟩,rfl,?_⟩
  rw [e0]
  exact s.pick [1] [_] rfl rfl
 try simp only [df] at h11
 have hl : t.length ≤ 20000 := by omega
 have e0 : sg0 t = ⟨lexR t,0,0⟩ := by unfold sg0;rw [if_neg (by omega)]
 refine .sk<|.tN<|.sq<|.sr<|.m Z Z<|.ct (X := Nat) Fx.call25 Z (fun W s => lex_any H t W s.agr) Z fun b1 H1 m1 u1 => .nt<|.bk<|?_
 refine Sx.row0 73 3 ?_
 refine At.pm [0,2,1] [_,_,_] rfl rfl ?_
 refine At.rfB (α := TkS) (Z := Value × Nat × List Value) (N := t.length + 1) (e := 73) (T := 64) (TX := 73) (size := 3) (p := b8) (fx := [.box b3 [.pointer (some ⟨b8,0,none⟩)] 53]) (enc := fun x : TkS => .agg (cTk .u8 x.1).toArray) (S := fun xs => xs.map (·.1) = lexR t)
  (fun pre z => z.2.1 = pre.length ∧ RepZ H1 3 ((pre.map (·.1)).map (dTk .u8)) z.2.2) (fun z => z.1) (fun z => z.2.1) (fun z => z.2.2) (fun _ => [.int .i64 0,.int .i64 (t.length : Nat),.string ⟨#[]⟩,.slice none 0 0,.slice none 0 0,.slice none 0 0,.int .i64 0,.int .i64 0]) (.slice none 0 0,0,[])
  (fun _ b => [(3,.pointer (some ⟨b3,0,none⟩)),(4,.pointer (some ⟨b,0,none⟩))]) (fun x => cTk .u8 x.1) rfl (fun _ _ => run_callFunc Fx.call46) rfl (fun w hA => lex_seq H1 (G.up u1.up) t (by omega) b1 m1 w hA) ⟨rfl,RepZ.nil⟩ rfl rfl ?_ ?_ ?_
 ·intro l x bs' K h
  exact .rgI<|.alI Fx.zero73 Z fun b => .sWI .head Z Z Fx.size73 (by simp [cTk,Value.oneCell',strV]) Z<|.nlI<|.tN<|fun a W f s => h b a W (f.sub ⟨rfl,rfl,trivial⟩) s
 ·intro l' pre x z tl b H2 hC hlen u2 m2
  obtain ⟨v,k,xs⟩ := z
  obtain ⟨hk,hz⟩ := hC
  dsimp only at hk hz ⊢
  change At [] _ _ H2 w (.row 73 3 v k xs :: .box b8 (v :: [.int .i64 0,.int .i64 (t.length : Nat),.string ⟨#[]⟩,.slice none 0 0,.slice none 0 0,.slice none 0 0,.int .i64 0,.int .i64 0]) 64 :: .box b3 [.pointer (some ⟨b8,0,none⟩)] 53 :: tl) _
  refine At.ra (.head _) fun pv cv ev => ?_
  subst ev
  refine .bkI<|.flI (trip := [(_,_,_),(_,_,_),(_,_,_),(_,_,_),(_,_,_),(_,_,_),(_,_,_),(_,_,_)]) 8 [(0,0),(1,0),(2,0),(3,0),(4,0),(5,0),(6,1),(7,3)] (by kernel_rfl) (by kernel_rfl) (by kernel_rfl) Z<|.yv (.load Z Fx.agg53 (.tail _<|.tail _<|.head _) Z) Z<|.yv (.load Z Fx.agg53 (.tail _<|.tail _<|.head _) Z) Z<|.yv (.nilCheck Z) Z<|.yv (.fieldAddr Z Fx.field64_0) Z<|.yv (.load Z Fx.agg62 (.tail _<|.head _) Z) Z<|.yv (.loadMW Z Fx.agg73 m2 Z) Z<|.blF Z (Fx.bsl62_1 _ _ _) Z fun b25 H3 u3 m3 => .apD Fx.row62 Z (fun _ _ => .head) Z (Rep.mk (n := 1) (c := 1) (ds := [dTk .u8 x.1]) m3 (.single (tk_shut x.2) Z) Z (Nat.le_refl _) (by decide)) (by simp [maxLen];omega) (by omega) Z (fun _ _ => (.done (by kernel_rfl)<|.done (by kernel_rfl)<|.done (by kernel_rfl)<|.done (by kernel_rfl)<|.done (by kernel_rfl)<|.yv (.load Z Fx.agg53 (.tail _<|.tail _<|.head _) Z)<|.nl)) fun xs26 p26 c26 hz26 => .fn (tl := [_,_,_]) Z<|.yv (.nilCheck Z) Z<|.yv (.fieldAddr Z Fx.field64_0) Z<|.st (.tail<|.head) Z Z Fx.size62 Z (nb Z) Z<|.nlQ<|.bN<|?_
  refine At.rE ((.slice p26 (k + 1) c26,k + 1,xs ++ xs26) : Value × Nat × List Value) (u2.trans u3.up) ?_ rfl
  exact ⟨by simp [hk],by rw [List.map_append,List.map_append];exact hz.app (tok_row hz26)⟩
 intro D ys z hS hC
 obtain ⟨v,k,xs⟩ := z
 obtain ⟨hk,hz⟩ := hC
 dsimp only at hk hz ⊢
 change At _ _ _ H1 w (.obj D (.deferred (some [])) :: .row 73 3 v k xs :: .box b8 (v :: [.int .i64 0,.int .i64 (t.length : Nat),.string ⟨#[]⟩,.slice none 0 0,.slice none 0 0,.slice none 0 0,.int .i64 0,.int .i64 0]) 64 :: .box b3 [.pointer (some ⟨b8,0,none⟩)] 53 :: []) _
 refine .bN<|.tN<|.sr<|.yv (.load Z Fx.agg53 (.tail _<|.tail _<|.tail _<|.head _) Z) Z<|.a Z Z<|.nt<|.rt<|?_
 refine At.pm [1,0,2,3] [_,_,_,_] rfl rfl ?_
 have hz2 : RepZ H1 3 ((lexR t).map (dTk .u8)) xs := by rw [← hS];exact hz
 have hlen : ((lexR t).map (dTk .u8)).length = k := by rw [List.length_map,← hS,List.length_map,hk]
 refine Sx.freezeSeq hlen hz2 fun H3 p3 c3 u3 e3 h3 => ?_
 subst e3
 refine Sx.retM (.inl rfl) .head ?_
 refine Sx.ret1 (.inl rfl) rfl (.tmp rfl) fun W s => ⟨(b8,H3,p3,c3),⟨by rw [e0];rw [List.length_map] at hlen;subst hlen;exact ⟨h3,lexR_good t,lexR_num t,fun x hx => Nat.le_trans (lexR_short t x hx) (by omega)⟩,u1.trans u3⟩,rfl,?_⟩
 rw [List.length_map] at hlen
 subst hlen
 rw [e0]
 have s2 := s.pick [1] [_] rfl rfl
 rw [show posN (lexR t) ⟨lexR t,0,0⟩ = 0 from Nat.sub_self _]
 exact s2
theorem Fx.call17 : callN Tryd.prog 17 = Bool.true := by kernel_rfl
theorem Fx.call19 : callN Tryd.prog 19 = Bool.true := by kernel_rfl
theorem Fx.bld31  : buildN Tryd.prog 31 [] = some [.int .u8 0,.string ⟨#[]⟩,.int .i64 0,.slice none 0 0] := by kernel_rfl
theorem hup_base {H H' : Hp} {w0 W : World} {bs : List Res} (u : HUp W H H') (s : St H w0 bs W) : HUp w0 H H' := ⟨u.up,fun b e hb => u.new b e (Nat.lt_of_lt_of_le hb s.ext.size)⟩
theorem start_c {H : Hp} (G : Gl H) {w0 W : World} {bs : List Res} (t : Str) (ht : t.length ≤ 9223372036854775807) (s : St H w0 bs W) :
 Calls Tryd.prog 17 #[strV t] W fun e W' => ∃ z : Nat × Hp × Option Addr × Nat,(Tkm z.2.1 (sg0 t).r z.2.2.1 z.2.2.2 ∧ HUp w0 H z.2.1) ∧ e = .returned (.pointer (some ⟨z.1,0,none⟩)) ∧ St z.2.1 w0 (.box z.1 [.slice z.2.2.1 ((sg0 t).r).length z.2.2.2,.int .i64 (posN ((sg0 t).r) (sg0 t) : Nat),.int .i64 (t.length : Nat),.string ⟨#[]⟩,.slice none 0 0,.slice none 0 0,.slice none 0 0,.int .i64 ((sg0 t).o : Nat),.int .i64 ((sg0 t).e : Nat)] 64 :: bs) W' :=
 (start_any H G t ht W s.agr).mono fun e W' ⟨z,⟨h1,h2⟩,h3,h4⟩ => ⟨z,⟨h1,hup_base h2 s⟩,h3,s.join h2 h4⟩
def exE (t : Str) (x : Ex) : Nat := if (sgZ (gX 0) t).e = 0 then checkE x else (sgZ (gX 0) t).e
def exO (t : Str) (x : Ex) : Nat := if (sgZ (gX 0) t).e = 0 ∧ checkE x = 0 then 0 else (sgZ (gX 0) t).o
def exR (t : Str) (x : Ex) (cs : List Value) : List Value := if (sgZ (gX 0) t).e = 0 ∧ checkE x = 0 then cs else [.int .u8 0,.string ⟨#[]⟩,.int .i64 0,.slice none 0 0]
set_option maxRecDepth 100000 in
theorem exprP_st {H : Hp} (G : Gl H) {w0 W : World} {bs : List Res} (t : Str) (ht : t.length ≤ 9223372036854775807) (s : St H w0 bs W) :
 Calls Tryd.prog 8 #[strV t] W fun e W' => ∃ z : Ex × List Value × Hp,(vl (gX 0) (sg0 t) z.1 ∧ HUp w0 H z.2.2 ∧ Rep z.2.2 (dEx .u8 z.1) z.2.1) ∧ e = .returned (.tuple #[.agg (exR t z.1 z.2.1).toArray,.int .i64 (exO t z.1 : Nat),.int .i64 (exE t z.1 : Nat)]) ∧ St z.2.2 w0 bs W' := by
 refine Sx.enterS Tryd.func8 rfl Tryd.ntmps8 rfl s ?_
 refine .sr<|.al Fx.zero31 Z fun b2 => .a Z Z<|.a Z Z<|.ns<|.m Z Z<|.cs (X := Nat × Hp × Option Addr × Nat) Fx.call17 Z (fun W s => start_c G t ht s) Z fun z0 hz0 => ?_
 obtain ⟨b,H0,tp,tc⟩ := z0
 obtain ⟨K0,u0⟩ := hz0
 dsimp only at K0 u0 ⊢
 refine .a Z Z<|.ns<|.m Z Z<|.cs (X := Ex × List Value × Hp) Fx.call18 Z (fun W s => expr_all K0 (List.suffix_refl _) (s.pickT (hd := [_,_]) (tl := bs) (hd' := [_,_]) [0,1] Z Z)) Z fun z1 hz1 => ?_
 obtain ⟨a1,c1,H1⟩ := z1
 obtain ⟨hv1,u1,r1⟩ := hz1
 dsimp only at hv1 u1 r1 ⊢
 obtain ⟨x1,x2,x3,x4,rfl⟩ := four (ex_len r1)
 have K1 := K0.up u1.up
 have u2 := u0.trans u1
 refine .al Fx.zero31 Z fun b6 => .sW .head Z Z Fx.size31 (Rep.one r1) Z<|.ns<|.m Z Z<|.cs (X := Unit) Fx.call19 Z (fun W s => close_st K1 ((Suf.ex 0).up (List.suffix_refl _))  (s.pickT (hd := [_,_,_]) (tl := bs) (hd' := [_,_,_]) [1,0,2] Z Z)) Z fun _ _ => .m Z Z<|.yv (.extract Z Z) Z<|.yv (.extract Z Z) Z<|.a Z Z<|.a Z Z<|.nt<|.sq<|.sr<|.m Z Z<|.yv (.eql Z Z) Z<|.nt<|.cd Z (fun h19 => ?_) (fun h19 => ?_)
 ·try simp only [dt] at h19
  have hZ : (sgZ (gX 0) t).e = 0 := by unfold sgZ;omega
  refine .rg<|.yv (.loadW Z Fx.agg31 (.tail _<|.head _) Z) Z<|.yv (.call Fx.call20 Z (fun W s => checkExpr_any H1 (G.up u2.up) a1 _ r1 (Nat.le_trans (vl_depth hv1 hZ) (by decide)) W s.agr)) Z<|.a Z Z<|.nt<|.sq<|.sr<|.m Z Z<|.yv (.neq Z Z) Z<|.nt<|.cd Z (fun h23 => ?_) (fun h23 => ?_)
  ·try simp only [dt] at h23
   have hck : ¬ checkE a1 = 0 := by omega
   refine .sr<|.yv (.build Z Fx.bld31) Z<|.m Z Z<|.m Z Z<|.sW (.tail<|.tail<|.head) Z Z Fx.size31 (by simp [Value.oneCell']) Z<|.a Z Z<|.a Z Z<|.nt<|.rt<|.tR<|?_
   refine Sx.retN (.inl rfl) rfl (.cons (.cell rfl Fx.agg31 (.tail _<|.tail _<|.head _) rfl) (.cons (.tmp rfl) (.cons (.tmp rfl) .nil))) rfl fun W s => ⟨(a1,[x1,x2,x3,x4],H1),⟨hv1,u2,r1⟩,?_,s.pickT (hd := [_,_,_]) (tl := bs) (hd' := []) [] rfl rfl⟩
   unfold exR exO exE
   simp only [hZ,hck,if_true,if_false]
   rfl
  try simp only [df] at h23
  have hck : checkE a1 = 0 := by omega
  refine .sk<|.tN<|.sr<|.yv (.loadW Z Fx.agg31 (.tail _<|.head _) Z) Z<|.sW (.tail<|.tail<|.head) Z Z Fx.size31 (Rep.one r1) Z<|.a Z Z<|.a Z Z<|.nt<|.rt<|?_
  refine Sx.retN (.inl rfl) rfl (.cons (.cell rfl Fx.agg31 (.tail _<|.tail _<|.head _) rfl) (.cons (.tmp rfl) (.cons (.tmp rfl) .nil))) rfl fun W s => ⟨(a1,[x1,x2,x3,x4],H1),⟨hv1,u2,r1⟩,?_,s.pickT (hd := [_,_,_]) (tl := bs) (hd' := []) [] rfl rfl⟩
  unfold exR exO exE
  simp only [hZ,hck,if_true]
  rfl
 try simp only [df] at h19
 have hZ : ¬ (sgZ (gX 0) t).e = 0 := by unfold sgZ;omega
 refine .sk<|.tN<|.sq<|.sr<|.m Z Z<|.yv (.neq Z Z) Z<|.nt<|.cd Z (fun h23 => ?_) (fun h23 => ?_)
 ·skip
  refine .sr<|.yv (.build Z Fx.bld31) Z<|.m Z Z<|.m Z Z<|.sW (.tail<|.tail<|.head) Z Z Fx.size31 (by simp [Value.oneCell']) Z<|.a Z Z<|.a Z Z<|.nt<|.rt<|.tR<|?_
  refine Sx.retN (.inl rfl) rfl (.cons (.cell rfl Fx.agg31 (.tail _<|.tail _<|.head _) rfl) (.cons (.tmp rfl) (.cons (.tmp rfl) .nil))) rfl fun W s => ⟨(a1,[x1,x2,x3,x4],H1),⟨hv1,u2,r1⟩,?_,s.pickT (hd := [_,_,_]) (tl := bs) (hd' := []) [] rfl rfl⟩
  unfold exR exO exE
  simp only [hZ,if_false]
  rfl
 exact absurd (show (sgZ (gX 0) t).e = 0 by unfold sgZ;have := Classical.not_not.1 (of_decide_eq_false h23);omega) hZ
theorem exprP_ok {H : Hp} (G : Gl H) {w0 W : World} {bs : List Res} {t : Str} {x : Ex} (ht : t.length ≤ 20000) (hx : gX 0 (lexR t) = .ok x []) (hc : checkE x = 0) (s : St H w0 bs W) :
 Calls Tryd.prog 8 #[strV t] W fun e W' => ∃ z : List Value × Hp,(HUp w0 H z.2 ∧ Rep z.2 (dEx .u8 x) z.1) ∧ e = .returned (.tuple #[.agg z.1.toArray,.int .i64 0,.int .i64 0]) ∧ St z.2 w0 bs W' := by
 refine (exprP_st G t (by omega) s).mono ?_
 rintro e W' ⟨z,⟨h1,h2,h3⟩,h4,h5⟩
 have h0 : sg0 t = ⟨lexR t,0,0⟩ := by unfold sg0;rw [if_neg (by omega)]
 have hz : (sgZ (gX 0) t).e = 0 := by
  have hu : up t.length (gX 0) (sg0 t) = ⟨[],0,0⟩ := by
   rw [h0]
   unfold up
   rw [if_pos rfl,hx]
  unfold sgZ
  rw [hu]
  rfl
 have e1 : z.1 = x := h1 (by rw [h0]) x [] (by rw [h0];exact hx)
 refine ⟨(z.2.1,z.2.2),⟨h2,e1 ▸ h3⟩,?_,h5⟩
 rw [h4,e1]
 unfold exR exO exE
 simp only [hz,hc,if_true]
 rfl
theorem exprP_bad {H : Hp} (G : Gl H) {w0 W : World} {bs : List Res} {t : Str} {c o : Nat} (ht : t.length ≤ 9223372036854775807) (hc : (sgZ (gX 0) t).e = c) (ho : (sgZ (gX 0) t).o = o) (h0 : c ≠ 0) (s : St H w0 bs W) :
 Calls Tryd.prog 8 #[strV t] W fun e W' => ∃ z : Hp,HUp w0 H z ∧ e = .returned (.tuple #[.agg ([.int .u8 0,.string ⟨#[]⟩,.int .i64 0,.slice none 0 0] : List Value).toArray,.int .i64 (o : Nat),.int .i64 (c : Nat)]) ∧ St z w0 bs W' := by
 subst hc ho
 refine (exprP_st G t ht s).mono ?_
 rintro e W' ⟨z,⟨h1,h2,h3⟩,h4,h5⟩
 refine ⟨z.2.2,h2,?_,h5⟩
 rw [h4]
 unfold exR exO exE
 simp only [h0,if_false,false_and]
end Go.Proofs.YthhoebdlfjffkaaDoor
namespace Go.Proofs.YthhoebdlfjffkaaDoor
theorem Suf.gex : Suf gEx := Suf.ex 0
theorem Suf.blk {b : Pz (List Sm)} (h : Suf b) : Suf (gBlk b) := .bind (.nd _) fun _ => .bind h fun _ => .bind (.nd _) fun _ => .pure _
theorem Suf.els {b : Pz (List Sm)} (h : Suf b) : Suf (gEls b) := .alt (.blk h) (.pure _)
theorem Suf.oth {b : Pz (List Sm)} (h : Suf b) : Suf (gOth b) := .alt (.blk h) (.bind (.nd _) fun _ => .pure _)
theorem Suf.list {α : Type} {p : Pz α} (h : Suf p) : Suf (gList p) := .bind (.nd _) fun _ => .alt (.pure _) (.bind h fun _ => .bind (.many h) fun _ => .bind (.nd _) fun _ => .pure _)
theorem Suf.st {b : Pz (List Sm)} (h : Suf b) : Suf (gSt b) :=
 .alt (.bind .gex fun _ => .bind (.blk h) fun _ => .bind (.els h) fun _ => .pure _)<|.alt (.bind .gex fun _ => .bind (.blk h) fun _ => .pure _)<|.alt (.bind .gex fun _ => .bind (.nd _) fun _ => .bind .gex fun _ => .bind (.oth h) fun _ => .pure _)<|.alt (.bind .nm fun _ => .bind (.nd _) fun _ => .bind .gex fun _ => .bind (.oth h) fun _ => .pure _)<|.alt (.bind .nm fun _ => .bind (.nd _) fun _ => .bind .nm fun _ => .bind (.list .gex) fun _ => .bind (.nd _) fun _ => .pure _)<|.alt (.bind .gex fun _ => .bind (.nd _) fun _ => .bind .nm fun _ => .bind (.list .gex) fun _ => .bind (.nd _) fun _ => .pure _)<|.alt (.bind (.nd _) fun _ => .pure _)<|.alt (.bind .nm fun _ => .bind (.nd _) fun _ => .bind .gex fun _ => .bind (.nd _) fun _ => .bind (.nd _) fun _ => .pure _)<|.bind .nm fun _ => .alt (.bind .gex fun _ => .bind (.nd _) fun _ => .bind (.nd _) fun _ => .bind .gex fun _ => .bind (.nd _) fun _ => .pure _)
  (.bind (.nd _) fun _ => .bind .gex fun _ => .bind (.nd _) fun _ => .pure _)
theorem Suf.bF : ∀ f,Suf (gBF f)
 | 0 => fun r => ⟨fun a r' e => (by unfold gBF at e;cases e),fun r' c e => (by unfold gBF at e;injection e with e _;subst e;exact List.suffix_refl _)⟩
 | f + 1 => fun r => by
  have h1 := Suf.st (Suf.bF f)
  have h2 := Suf.bF f
  refine ⟨fun a r' e => ?_,fun r' c e => ?_⟩
  ·unfold gBF at e
   split at e
   ·injection e with _ e;subst e;exact List.suffix_refl _
   ·obtain ⟨s,q,k1,k2⟩ := Rs.bind_ok e
    obtain ⟨l,q2,k3,k4⟩ := Rs.bind_ok k2
    injection k4 with _ k4;subst k4
    exact ((h2 _).1 _ _ k3).trans ((h1 _).1 _ _ k1)
  ·unfold gBF at e
   split at e
   ·cases e
   ·rcases Rs.bind_er e with e | ⟨s,q,k1,e⟩
    ·exact (h1 _).2 _ _ e
    ·rcases Rs.bind_er e with e | ⟨l,q2,k3,e⟩
     ·exact ((h2 _).2 _ _ e).trans ((h1 _).1 _ _ k1)
     ·cases e
theorem Suf.b : Suf gB := fun r => Suf.bF _ r
theorem Suf.tr : Suf gTr := .alt (.pure _) (.bind (.nd _) fun _ => .pure _)
theorem Suf.fg : Suf gFg := .bind .nm fun _ => .bind (.nd _) fun _ => .bind .tr fun _ => .bind (.nd _) fun _ => .pure _
theorem Suf.lk : Suf gLk := .bind .nm fun _ => .bind (.nd _) fun _ => .bind .nm fun _ => .bind (.nd _) fun _ => .bind .nu fun _ => .bind (.nd _) fun _ => .pure _
theorem Suf.int : Suf gInt := .alt (.bind .nu fun _ => .pure _) .nu
theorem Suf.vr : Suf gVr := .bind .nm fun _ => .bind (.nd _) fun _ => .alt (.bind (.nd _) fun _ => .bind .int fun _ => .bind (.nd _) fun _ => .pure _)<|.alt (.bind (.nd _) fun _ => .bind .tr fun _ => .bind (.nd _) fun _ => .pure _)<|.bind (.nd _) fun _ => .bind (.nd _) fun _ => .pure _
theorem Suf.hd : Suf gHd := .bind .nm fun _ => .bind (.list .nm) fun _ => .bind (.blk .b) fun _ => .pure _
theorem Suf.vs : Suf gVs := .many .hd
theorem Suf.vn (w : Str) : Suf (gVn w) := .bind (.nn _) fun _ => .bind (.nd _) fun _ => .bind .vs fun _ => .bind (.nd _) fun _ => .pure _
theorem Suf.vm : Suf gVm := .alt (.bind (.vn _) fun _ => .alt (.bind (.vn _) fun _ => .pure _) (.pure _)) (.pure _)
theorem Suf.cp : Suf gCp := .bind .nm fun _ => .bind (.nd _) fun _ => .bind (.many .vr) fun _ => .bind .vs fun _ => .bind .vm fun _ => .bind (.nd _) fun _ => .pure _
theorem Suf.ft : Suf gFt := .bind (.nd _) fun _ => .bind .nm fun _ => .bind (.nd _) fun _ => .bind (.many .fg) fun _ => .bind (.many .lk) fun _ => .bind (.many .cp) fun _ => .bind (.nd _) fun _ => .pure _
end Go.Proofs.YthhoebdlfjffkaaDoor
namespace Go.Proofs.YthhoebdlfjffkaaDoor
open Go.RowKit Go.Par Go.Sx
theorem Fx.call55 : callN Tryd.prog 55 = Bool.true := by kernel_rfl
theorem Fx.field64_3 : fieldN Tryd.prog 64 3 = Option.some 3 := by kernel_rfl
theorem Fx.field103_1 : fieldN Tryd.prog 103 1 = Option.some 1 := by kernel_rfl
theorem Fx.row45 : rowN Tryd.prog 45 = Option.some (103,2,24) := by kernel_rfl
theorem Fx.row46 : rowN Tryd.prog 46 = Option.some (105,3,40) := by kernel_rfl
theorem Fx.size4 : sizeN Tryd.prog 4 = Option.some 1 := by kernel_rfl
theorem Fx.size9 : sizeN Tryd.prog 9 = Option.some 1 := by kernel_rfl
theorem Fx.size45 : sizeN Tryd.prog 45 = Option.some 1 := by kernel_rfl
theorem Fx.size46 : sizeN Tryd.prog 46 = Option.some 1 := by kernel_rfl
theorem Fx.bsl45_1 (x00 x01 : Value) : bslN Tryd.prog 45 1 [(0,.agg [x00,x01].toArray)] = some (103,[x00,x01]) := by kernel_rfl
theorem Fx.bsl46_1 (x00 x01 x02 : Value) : bslN Tryd.prog 46 1 [(0,.agg [x00,x01,x02].toArray)] = some (105,[x00,x01,x02]) := by kernel_rfl
def ItemC (f : FuncId) {α : Type} (g : Pz α) (d : α → D) (T : TypeId) (size : Nat) (c0 c1 c2 c3 : Value → Value) (b n : Nat) (ts : List Tk) (tp : Option Addr) (tc : Nat) : Prop :=
 ∀ {H : Hp} {w0 W : World} {bs : List Res} {q : Sg} {v : Value} {k : Nat} {xs : List Value},Tkm H ts tp tc → q.r <:+ ts → k ≤ 1000000 → St H w0 (.row T size v k xs :: .box b [.slice tp ts.length tc,.int .i64 (posN ts q : Nat),.int .i64 (n : Nat),c0 v,c1 v,c2 v,c3 v,.int .i64 (q.o : Nat),.int .i64 (q.e : Nat)] 64 :: bs) W →
  Calls Tryd.prog f #[.pointer (some ⟨b,0,none⟩)] W fun e W' => ∃ z : α × Value × List Value × Hp,(vl g q z.1 ∧ HUp w0 H z.2.2.2 ∧ RepZ z.2.2.2 size [d z.1] z.2.2.1) ∧ e = .returned (.tuple #[]) ∧ St z.2.2.2 w0 (.row T size z.2.1 (k + 1) (xs ++ z.2.2.1) :: .box b [.slice tp ts.length tc,.int .i64 (posN ts (up n g q) : Nat),.int .i64 (n : Nat),c0 z.2.1,c1 z.2.1,c2 z.2.1,c3 z.2.1,.int .i64 ((up n g q).o : Nat),.int .i64 ((up n g q).e : Nat)] 64 :: bs) W'
set_option maxRecDepth 100000 in
theorem flag_st {b n : Nat} {ts : List Tk} {tp : Option Addr} {tc : Nat} {t0 t2 t3 : Value} : ItemC 40 gFg dFg 103 2 (fun _ => t0) (fun v => v) (fun _ => t2) (fun _ => t3) b n ts tp tc := by
 intro H w0 W bs q v k xs K hq hk s
 refine Sx.enterS Tryd.func40 rfl Tryd.ntmps40 rfl s ?_
 refine .sr<|.al Fx.zero103 Z fun b2 => .ns<|.m Z Z<|.cs (X := Str) Fx.call39 Z (fun W s => name_st K hq  (s.pickT (hd := [_,_,_]) (tl := bs) (hd' := [_,_,_]) [2,0,1] Z Z)) Z fun nm hnm => .yv (.fieldAddr Z Fx.field103_0) Z<|.st (.tail<|.head) Z Z Fx.size9 Z (nb Z) Z<|.ns<|.m Z Z<|.cs (X := Unit) Fx.call38 Z (fun W s => expect_nd K (Suf.nm.up hq) [61] (by decide +kernel) (s.pickT (hd := [_,_,_]) (tl := bs) (hd' := [_,_,_]) [0,1,2] Z Z)) Z fun _ _ => .ns<|.m Z Z<|.cs (X := Bool) Fx.call55 Z (fun W s => truth_st K ((Suf.nd _).up (Suf.nm.up hq))  (s.pickT (hd := [_,_,_]) (tl := bs) (hd' := [_,_,_]) [0,1,2] Z Z)) Z fun tb htb => .yv (.fieldAddr Z Fx.field103_1) Z<|.st (.tail<|.head) Z Z Fx.size4 Z (nb Z) Z<|.ns<|.m Z Z<|.cs (X := Unit) Fx.call38 Z (fun W s => expect_nd K (Suf.tr.up ((Suf.nd _).up (Suf.nm.up hq))) [59] (by decide +kernel) (s.pickT (hd := [_,_,_]) (tl := bs) (hd' := [_,_,_]) [0,1,2] Z Z)) Z fun _ _ => .nt<|.fl (trip := [(_,_,_),(_,_,_),(_,_,_),(_,_,_),(_,_,_),(_,_,_),(_,_,_),(_,_,_),(_,_,_)]) 9 [(0,0),(1,0),(2,0),(3,0),(4,0),(5,0),(6,0),(7,1),(8,3)] (by kernel_rfl) (by kernel_rfl) Z<|.m Z Z<|.m Z Z<|.yv (.nilCheck Z) Z<|.yv (.fieldAddr Z Fx.field64_3) Z<|.yv (.fieldAddr Z Fx.field49_1) Z<|.yv (.load Z Fx.agg45 (.head _) Z) Z<|.yv (.loadW Z Fx.agg103 (.tail _<|.head _) Z) Z<|.blF Z (Fx.bsl45_1 _ _) Z fun b25 H2 u2 m2 => .apD Fx.row45 Z (fun _ _ => (.tail<|.tail<|.head)) Z (Rep.mk (n := 1) (c := 1) (ds := [dFg ⟨nm,tb⟩]) m2 (.single (fg_shut (x := ⟨nm,tb⟩) hnm.2) Z) Z (Nat.le_refl _) (by decide)) (by simp [maxLen];omega) (by omega) Z (fun _ _ => (.done (by kernel_rfl)<|.done (by kernel_rfl)<|.done (by kernel_rfl)<|.done (by kernel_rfl)<|.done (by kernel_rfl)<|.done (by kernel_rfl)<|.yv (.move Z)<|.nl)) fun xs26 p26 c26 hz26 => .fn (tl := [_,_,_,_]) Z<|.yv (.nilCheck Z) Z<|.yv (.fieldAddr Z Fx.field64_3) Z<|.yv (.fieldAddr Z Fx.field49_1) Z<|.st .head Z Z Fx.size45 Z (nb Z) Z<|.nl<|?_
 refine Sx.retN (.inr rfl) rfl .nil rfl fun W s => ⟨(⟨nm,tb⟩,.slice p26 (k + 1) c26,xs26,H2),⟨vl_bind (n := n) hnm.1 (vl_bind (n := n) (x := ()) vl_unit (vl_bind (n := n) htb (vl_bind (n := n) (x := ()) vl_unit vl_pure))),u2,hz26⟩,rfl,?_⟩
 rw [show up n gFg q = (up n (gNd [59]) (up n gTr (up n (gNd [61]) (up n gNm q)))) by unfold gFg;rw [up_bind Cz.nm hnm.1,up_bind (x := ()) (Cz.nd _) vl_unit,up_bind Cz.tr htb,up_bind (x := ()) (Cz.nd _) vl_unit,up_pure]]
 exact s.pickT (hd := [_,_,_]) (tl := bs) (hd' := [_,_]) [2,0] rfl rfl
set_option maxRecDepth 100000 in
theorem link_st {b n : Nat} {ts : List Tk} {tp : Option Addr} {tc : Nat} {t0 t1 t3 : Value} : ItemC 41 gLk dLk 105 3 (fun _ => t0) (fun _ => t1) (fun v => v) (fun _ => t3) b n ts tp tc := by
 intro H w0 W bs q v k xs K hq hk s
 refine Sx.enterS Tryd.func41 rfl Tryd.ntmps41 rfl s ?_
 refine .sr<|.al Fx.zero105 Z fun b2 => .ns<|.m Z Z<|.cs (X := Str) Fx.call39 Z (fun W s => name_st K hq  (s.pickT (hd := [_,_,_]) (tl := bs) (hd' := [_,_,_]) [2,0,1] Z Z)) Z fun mx hmx => .yv (.fieldAddr Z Fx.field105_0) Z<|.st (.tail<|.head) Z Z Fx.size9 Z (nb Z) Z<|.ns<|.m Z Z<|.cs (X := Unit) Fx.call38 Z (fun W s => expect_nd K (Suf.nm.up hq) [45,62] (by decide +kernel) (s.pickT (hd := [_,_,_]) (tl := bs) (hd' := [_,_,_]) [0,1,2] Z Z)) Z fun _ _ => .ns<|.m Z Z<|.cs (X := Str) Fx.call39 Z (fun W s => name_st K ((Suf.nd _).up (Suf.nm.up hq))  (s.pickT (hd := [_,_,_]) (tl := bs) (hd' := [_,_,_]) [0,1,2] Z Z)) Z fun my hmy => .yv (.fieldAddr Z Fx.field105_1) Z<|.st (.tail<|.head) Z Z Fx.size9 Z (nb Z) Z<|.ns<|.m Z Z<|.cs (X := Unit) Fx.call38 Z (fun W s => expect_nd K (Suf.nm.up ((Suf.nd _).up (Suf.nm.up hq))) [108,97,116,101,110,99,121] (by decide +kernel) (s.pickT (hd := [_,_,_]) (tl := bs) (hd' := [_,_,_]) [0,1,2] Z Z)) Z fun _ _ => .ns<|.m Z Z<|.cs (X := Int64) Fx.call56 Z (fun W s => number_st K ((Suf.nd _).up (Suf.nm.up ((Suf.nd _).up (Suf.nm.up hq))))  (s.pickT (hd := [_,_,_]) (tl := bs) (hd' := [_,_,_]) [0,1,2] Z Z)) Z fun nu hnu => .yv (.fieldAddr Z Fx.field105_2) Z<|.st (.tail<|.head) Z Z Fx.size3 Z (nb Z) Z<|.ns<|.m Z Z<|.cs (X := Unit) Fx.call38 Z (fun W s => expect_nd K (Suf.nu.up ((Suf.nd _).up (Suf.nm.up ((Suf.nd _).up (Suf.nm.up hq))))) [59] (by decide +kernel) (s.pickT (hd := [_,_,_]) (tl := bs) (hd' := [_,_,_]) [0,1,2] Z Z)) Z fun _ _ => .nt<|.fl (trip := [(_,_,_),(_,_,_),(_,_,_),(_,_,_),(_,_,_),(_,_,_),(_,_,_),(_,_,_),(_,_,_)]) 9 [(0,0),(1,0),(2,0),(3,0),(4,0),(5,0),(6,0),(7,1),(8,3)] (by kernel_rfl) (by kernel_rfl) Z<|.m Z Z<|.m Z Z<|.yv (.nilCheck Z) Z<|.yv (.fieldAddr Z Fx.field64_3) Z<|.yv (.fieldAddr Z Fx.field49_2) Z<|.yv (.load Z Fx.agg46 (.head _) Z) Z<|.yv (.loadW Z Fx.agg105 (.tail _<|.head _) Z) Z<|.blF Z (Fx.bsl46_1 _ _ _) Z fun b25 H2 u2 m2 => .apD Fx.row46 Z (fun _ _ => (.tail<|.tail<|.head)) Z (Rep.mk (n := 1) (c := 1) (ds := [dLk ⟨mx,my,nu⟩]) m2 (.single (lk_shut (x := ⟨mx,my,nu⟩) hmx.2 hmy.2) Z) Z (Nat.le_refl _) (by decide)) (by simp [maxLen];omega) (by omega) Z (fun _ _ => (.done (by kernel_rfl)<|.done (by kernel_rfl)<|.done (by kernel_rfl)<|.done (by kernel_rfl)<|.done (by kernel_rfl)<|.done (by kernel_rfl)<|.yv (.move Z)<|.nl)) fun xs26 p26 c26 hz26 => .fn (tl := [_,_,_,_]) Z<|.yv (.nilCheck Z) Z<|.yv (.fieldAddr Z Fx.field64_3) Z<|.yv (.fieldAddr Z Fx.field49_2) Z<|.st .head Z Z Fx.size46 Z (nb Z) Z<|.nl<|?_
 refine Sx.retN (.inr rfl) rfl .nil rfl fun W s => ⟨(⟨mx,my,nu⟩,.slice p26 (k + 1) c26,xs26,H2),⟨vl_bind (n := n) hmx.1 (vl_bind (n := n) (x := ()) vl_unit (vl_bind (n := n) hmy.1 (vl_bind (n := n) (x := ()) vl_unit (vl_bind (n := n) hnu (vl_bind (n := n) (x := ()) vl_unit vl_pure))))),u2,hz26⟩,rfl,?_⟩
 rw [show up n gLk q = (up n (gNd [59]) (up n gNu (up n (gNd [108,97,116,101,110,99,121]) (up n gNm (up n (gNd [45,62]) (up n gNm q)))))) by unfold gLk;rw [up_bind Cz.nm hmx.1,up_bind (x := ()) (Cz.nd _) vl_unit,up_bind Cz.nm hmy.1,up_bind (x := ()) (Cz.nd _) vl_unit,up_bind Cz.nu hnu,up_bind (x := ()) (Cz.nd _) vl_unit,up_pure]]
 exact s.pickT (hd := [_,_,_]) (tl := bs) (hd' := [_,_]) [2,0] rfl rfl
structure MnI {α : Type} (n : Nat) (w : Str) (g : Pz α) (q : Sg) (l : List α) (q1 : Sg) : Prop where
 eq : up n (gMany w g) q1 = up n (gMany w g) q
 val : ∀ l',vl (gMany w g) q1 l' → vl (gMany w g) q (l ++ l')
 len : l.length + q1.mu ≤ q.mu
 er : q1.e = 0 → q.e = 0
theorem MnI.start {α : Type} {n : Nat} {w : Str} {g : Pz α} {q : Sg} : MnI n w g q [] q := ⟨rfl,fun _ h => h,by simp,id⟩
theorem MnI.step {α : Type} {n : Nat} {w : Str} {g : Pz α} {q q1 : Sg} {l : List α} {a : α} (h : MnI n w g q l q1) (hs : Shr g) (hz : Cz g) (hac : ac w q1 = true) (hv : vl g q1.tl a) : MnI n w g q (l ++ [a]) (up n g q1.tl) ∧ (up n g q1.tl).mu < q1.mu := by
 have h1 := mu_up (n := n) (s := q1.tl) hs hz
 have h2 := mu_tl hac
 refine ⟨⟨?_,fun l' hl' => ?_,by have := h.len;simp;omega,fun _ => h.er (ac_e hac).1⟩,by omega⟩
 ·rw [← h.eq,many_T (n := n) hs hz hac hv]
 ·rw [List.append_assoc]
  exact h.val _ (many_Tv (n := n) hs hac hv hl')
theorem MnI.stop {α : Type} {n : Nat} {w : Str} {g : Pz α} {q q1 : Sg} {l : List α} (h : MnI n w g q l q1) (hs : Shr g) (hac : ac w q1 = false) : up n (gMany w g) q = q1 ∧ vl (gMany w g) q l := by
 refine ⟨by rw [← h.eq,many_F hs hac],?_⟩
 have := h.val [] (many_Fv hs hac)
 rwa [List.append_nil] at this
set_option maxRecDepth 100000 in
theorem many_st {α : Type} {H : Hp} {w0 W : World} {bs : List Res} {b n : Nat} {ts : List Tk} {tp : Option Addr} {tc : Nat} {q : Sg} {c0 c1 c2 c3 : Value → Value} (K : Tkm H ts tp tc) (hq : q.r <:+ ts) (hmu : q.mu ≤ 1000000)
 (f : FuncId) (hcall : callN Tryd.prog f = true) (w : Str) (hw : w ∈ words ∨ w ∈ symbols) (g : Pz α) (d : α → D) (T : TypeId) (size : Nat) (hsh : Shr g) (hcz : Cz g) (hsu : Suf g) (hit : q.e = 0 → ItemC f g d T size c0 c1 c2 c3 b n ts tp tc) (bm : Nat) (hm : MemAt H bm 0 [.pointer (some ⟨b,0,none⟩)]) (v : Value)
 (s : St H w0 (.row T size v 0 [] :: .box b [.slice tp ts.length tc,.int .i64 (posN ts q : Nat),.int .i64 (n : Nat),c0 v,c1 v,c2 v,c3 v,.int .i64 (q.o : Nat),.int .i64 (q.e : Nat)] 64 :: bs) W) :
 Calls Tryd.prog 36 #[strV w,.func (.func f) #[.pointer (some ⟨b,0,none⟩)] #[],.pointer (some ⟨bm,0,none⟩)] W fun e W' => ∃ z : List α × Value × List Value × Hp,(vl (gMany w g) q z.1 ∧ HUp w0 H z.2.2.2 ∧ RepZ z.2.2.2 size (z.1.map d) z.2.2.1 ∧ z.1.length ≤ q.mu) ∧ e = .returned (.tuple #[]) ∧ St z.2.2.2 w0 (.row T size z.2.1 z.1.length z.2.2.1 :: .box b [.slice tp ts.length tc,.int .i64 (posN ts (up n (gMany w g) q) : Nat),.int .i64 (n : Nat),c0 z.2.1,c1 z.2.1,c2 z.2.1,c3 z.2.1,.int .i64 ((up n (gMany w g) q).o : Nat),.int .i64 ((up n (gMany w g) q).e : Nat)] 64 :: bs) W' := by
 refine Sx.enterS Tryd.func36 rfl Tryd.ntmps36 rfl s ?_
 refine .bk<|.lp (X := List α × Value × List Value × Hp × Sg) [(0,_),(1,_),(2,_)] ⟨rfl,rfl,rfl,trivial⟩ (bs) (fun z => []) (fun z => z.2.2.2.1) (fun z => [.row T size z.2.1 z.1.length z.2.2.1,.box b [.slice tp ts.length tc,.int .i64 (posN ts z.2.2.2.2 : Nat),.int .i64 (n : Nat),c0 z.2.1,c1 z.2.1,c2 z.2.1,c3 z.2.1,.int .i64 (z.2.2.2.2.o : Nat),.int .i64 (z.2.2.2.2.e : Nat)] 64]) (fun z => MnI n w g q z.1 z.2.2.2.2 ∧ HUp w0 H z.2.2.2.1 ∧ RepZ z.2.2.2.1 size (z.1.map d) z.2.2.1 ∧ z.2.2.2.2.r <:+ ts) (fun z => z.2.2.2.2.mu) ([],v,[],H,q) (fun _ s => s) trivial ⟨MnI.start,.refl,RepZ.nil,hq⟩ fun z hC => ?_
 obtain ⟨l,v1,xs1,H1,q1⟩ := z
 obtain ⟨hI,u1,hz1,hq1⟩ := hC
 dsimp only at hI u1 hz1 hq1 ⊢
 have K1 := K.up u1.up
 have hk1 : l.length ≤ 1000000 := by have := hI.len;omega
 refine .sq<|.sr<|.yv (.loadM Z Fx.agg53 (hm.up u1.up) (k := 0) Z Z) Z<|.m Z Z<|.cs (X := Unit) Fx.call37 Z (fun W s => accept_ac K1 hq1 w hw (s.pickT (hd := [_,_]) (tl := bs) (hd' := [_,_]) [1,0] Z Z)) Z fun _ _ => .nt<|.cd Z (fun h7 => ?_) (fun h7 => ?_)
 ·rw [acS_T h7]
  refine .sk<|.tN<|.bk<|.rg<|.m Z Z<|.sv (X := α × Value × List Value × Hp) (fi := [.pointer (some ⟨b,0,none⟩)]) (ca := []) Z hcall Z (fun W s => hit (hI.er (ac_e h7).1) K1 (Suf.tl hq1) hk1 (s.pickT (hd := [_,_]) (tl := bs) (hd' := [_,_]) [1,0] Z Z)) Z fun z2 hz2 => ?_
  obtain ⟨a2,v2,xs2,H2⟩ := z2
  obtain ⟨hv2,u2,hz2⟩ := hz2
  dsimp only at hv2 u2 hz2 ⊢
  exact .nl<|.bN<|.tN<|.ag (x := (l,v1,xs1,H1,q1)) (l ++ [a2],v2,xs1 ++ xs2,H2,up n g q1.tl) trivial ⟨rfl,rfl,rfl,trivial⟩ (fun _ s => by have s2 := s;simpa using s2) ⟨(hI.step hsh hcz h7 hv2).1,u1.trans u2,by dsimp only;rw [List.map_append];exact (hz1.up u2.up).app hz2,hsu.up (Suf.tl hq1)⟩ (hI.step hsh hcz h7 hv2).2
 rw [acS_F h7]
 obtain ⟨e1,hv⟩ := hI.stop hsh h7
 rw [e1]
 refine .ex<|.tE<|.tE<|.bE<|?_
 refine Sx.retN (.inr rfl) rfl .nil rfl fun W s => ⟨(l,v1,xs1,H1),⟨hv,u1,hz1,Nat.le_trans (Nat.le_add_right _ _) hI.len⟩,rfl,?_⟩
 exact s.pickT (hd := [_,_]) (tl := bs) (hd' := [_,_]) [1,0] rfl rfl
theorem Fx.call23 : callN Tryd.prog 23 = Bool.true := by kernel_rfl
theorem Fx.call36 : callN Tryd.prog 36 = Bool.true := by kernel_rfl
theorem Fx.call40 : callN Tryd.prog 40 = Bool.true := by kernel_rfl
theorem Fx.call41 : callN Tryd.prog 41 = Bool.true := by kernel_rfl
theorem Fx.call42 : callN Tryd.prog 42 = Bool.true := by kernel_rfl
theorem Fx.size49 : sizeN Tryd.prog 49 = Option.some 4 := by kernel_rfl
theorem Fx.zero49 : zeroN Tryd.prog 49 = Option.some
 [Go.Value.string { data := { toList := [] } },Go.Value.slice Option.none 0 0,Go.Value.slice Option.none 0 0,
  Go.Value.slice Option.none 0 0] := by kernel_rfl
theorem Fx.bld49  : buildN Tryd.prog 49 [] = some [.string ⟨#[]⟩,.slice none 0 0,.slice none 0 0,.slice none 0 0] := by kernel_rfl
set_option maxRecDepth 100000 in
theorem fleet_st {H : Hp} {w0 W : World} {bs : List Res} {b n : Nat} {ts : List Tk} {tp : Option Addr} {tc : Nat} {q : Sg} (K : Tkm H ts tp tc) (hq : q.r <:+ ts) (hmu : q.mu ≤ 1000000) (hcp : (up n (gMany [108,105,110,107] gLk) (up n (gMany [102,108,97,103] gFg) (up n (gNd [123]) (up n gNm (up n (gNd [102,108,101,101,116]) q))))).e = 0 → ∀ {t0 t1 t2 : Value},ItemC 42 gCp (dCp .u8) 110 3 (fun _ => t0) (fun _ => t1) (fun _ => t2) (fun v => v) b n ts tp tc) (s : St H w0 (.box b [.slice tp ts.length tc,.int .i64 (posN ts q : Nat),.int .i64 (n : Nat),.string ⟨#[]⟩,.slice none 0 0,.slice none 0 0,.slice none 0 0,.int .i64 (q.o : Nat),.int .i64 (q.e : Nat)] 64 :: bs) W) :
 Calls Tryd.prog 23 #[.pointer (some ⟨b,0,none⟩)] W fun e W' => ∃ z : Ft × (Value × Value × Value × Value) × Hp,(vl gFt q z.1 ∧ HUp w0 H z.2.2 ∧ Rep z.2.2 (dFt .u8 z.1) [z.2.1.1,z.2.1.2.1,z.2.1.2.2.1,z.2.1.2.2.2]) ∧ e = .returned (.tuple #[]) ∧ St z.2.2 w0 (.box b [.slice tp ts.length tc,.int .i64 (posN ts (up n gFt q) : Nat),.int .i64 (n : Nat),z.2.1.1,z.2.1.2.1,z.2.1.2.2.1,z.2.1.2.2.2,.int .i64 ((up n gFt q).o : Nat),.int .i64 ((up n gFt q).e : Nat)] 64 :: bs) W' := by
 refine Sx.enterS Tryd.func23 rfl Tryd.ntmps23 rfl s ?_
 refine .sr<|.bx Z Z Z fun b1 => ?_
 refine Sx.freezeBox fun H1 u1 m1 => ?_
 have K1 := K.up u1.up
 refine .ns<|.yv (.mkF Z Z) Z<|.a Z Z<|.ns<|.yv (.loadM Z Fx.agg53 m1 (k := 0) Z Z) Z<|.cs (X := Unit) Fx.call38 Z (fun W s => expect_nd K1 hq [102,108,101,101,116] (by decide +kernel) (s.pickT (hd := [_]) (tl := bs) (hd' := [_]) [0] Z Z)) Z fun _ _ => .nt<|.sq<|.fl (trip := [(_,_,_),(_,_,_),(_,_,_),(_,_,_),(_,_,_),(_,_,_)]) 6 [(0,0),(1,0),(2,3),(3,0),(4,0),(5,0)] (by kernel_rfl) (by kernel_rfl) Z<|.yv (.loadM Z Fx.agg53 m1 (k := 0) Z Z) Z<|.yv (.loadM Z Fx.agg53 m1 (k := 0) Z Z) Z<|.c3 (X := Str) Fx.call39 Z (fun W s => name_st K1 ((Suf.nd _).up hq)  (s.pickT (hd := [_]) (tl := bs) (hd' := [_]) [0] Z Z)) Z (fun _ _ => (.done (by kernel_rfl)<|.yv (.loadM Z Fx.agg53 m1 (k := 0) Z Z)<|.nl)) fun nm hnm => .yv (.nilCheck Z) Z<|.yv (.fieldAddr Z Fx.field64_3) Z<|.yv (.fieldAddr Z Fx.field49_0) Z<|.fn (tl := [_]) Z<|.st .head Z Z Fx.size9 Z (nb Z) Z<|.ns<|.yv (.loadM Z Fx.agg53 m1 (k := 0) Z Z) Z<|.cs (X := Unit) Fx.call38 Z (fun W s => expect_nd K1 (Suf.nm.up ((Suf.nd _).up hq)) [123] (by decide +kernel) (s.pickT (hd := [_]) (tl := bs) (hd' := [_]) [0] Z Z)) Z fun _ _ => ?_
 have hq3 : (up n (gNd [123]) (up n gNm (up n (gNd [102,108,101,101,116]) q))).r <:+ ts := (Suf.nd _).up (Suf.nm.up ((Suf.nd _).up hq))
 have hm3 : (up n (gNd [123]) (up n gNm (up n (gNd [102,108,101,101,116]) q))).mu ≤ 1000000 := Nat.le_trans (mu_up (Shs.nd _).le (Cz.nd _)) (Nat.le_trans (mu_up Shs.nm.le Cz.nm) (Nat.le_trans (mu_up (Shs.nd _).le (Cz.nd _)) hmu))
 refine Sx.row0 110 3 ?_
 refine Sx.row0 105 3 ?_
 refine Sx.row0 103 2 ?_
 refine .ns<|.m Z Z<|.yv (.loadM Z Fx.agg53 m1 (k := 0) Z Z) Z<|.yv (.mkF Z Z) Z<|.sv (X := List Fg × Value × List Value × Hp) (fi := []) (ca := [.pointer (some ⟨b1,0,none⟩)]) Z Fx.call36 Z (fun W s => many_st K1 hq3 hm3 40 Fx.call40 [102,108,97,103] (by decide +kernel) gFg dFg 103 2 Shs.fg.le Cz.fg Suf.fg (fun _ => flag_st) b1 m1 _ (s.pickT (hd := [_,_,_,_]) (tl := bs) (hd' := [_,_,_,_]) [0,3,1,2] Z Z)) Z fun z2 hz2 => ?_
 obtain ⟨fs,v1,xs1,H2⟩ := z2
 obtain ⟨hv1,u2,hz1,_⟩ := hz2
 dsimp only at hv1 u2 hz1 ⊢
 have K2 := K1.up u2.up
 have hq4 : (up n (gMany [102,108,97,103] gFg) (up n (gNd [123]) (up n gNm (up n (gNd [102,108,101,101,116]) q)))).r <:+ ts := (Suf.many Suf.fg).up hq3
 have hm4 : (up n (gMany [102,108,97,103] gFg) (up n (gNd [123]) (up n gNm (up n (gNd [102,108,101,101,116]) q)))).mu ≤ 1000000 := Nat.le_trans (mu_up (Shr.many Shs.fg.le) (Cz.many Cz.fg)) hm3
 refine .ns<|.m Z Z<|.yv (.loadM Z Fx.agg53 (m1.up u2.up) (k := 0) Z Z) Z<|.yv (.mkF Z Z) Z<|.sv (X := List Lk × Value × List Value × Hp) (fi := []) (ca := [.pointer (some ⟨b1,0,none⟩)]) Z Fx.call36 Z (fun W s => many_st K2 hq4 hm4 41 Fx.call41 [108,105,110,107] (by decide +kernel) gLk dLk 105 3 Shs.lk.le Cz.lk Suf.lk (fun _ => link_st) b1 (m1.up u2.up) _ (s.pickT (hd := [_,_,_,_]) (tl := bs) (hd' := [_,_,_,_]) [2,1,0,3] Z Z)) Z fun z2 hz2 => ?_
 obtain ⟨ls,v2,xs2,H3⟩ := z2
 obtain ⟨hv2,u3,hz2,_⟩ := hz2
 dsimp only at hv2 u3 hz2 ⊢
 have K3 := K2.up u3.up
 have hq5 : (up n (gMany [108,105,110,107] gLk) (up n (gMany [102,108,97,103] gFg) (up n (gNd [123]) (up n gNm (up n (gNd [102,108,101,101,116]) q))))).r <:+ ts := (Suf.many Suf.lk).up hq4
 have hm5 : (up n (gMany [108,105,110,107] gLk) (up n (gMany [102,108,97,103] gFg) (up n (gNd [123]) (up n gNm (up n (gNd [102,108,101,101,116]) q))))).mu ≤ 1000000 := Nat.le_trans (mu_up (Shr.many Shs.lk.le) (Cz.many Cz.lk)) hm4
 refine .ns<|.m Z Z<|.yv (.loadM Z Fx.agg53 (m1.up (u2.trans u3).up) (k := 0) Z Z) Z<|.yv (.mkF Z Z) Z<|.sv (X := List Cp × Value × List Value × Hp) (fi := []) (ca := [.pointer (some ⟨b1,0,none⟩)]) Z Fx.call36 Z (fun W s => many_st K3 hq5 hm5 42 Fx.call42 [99,111,109,112,111,110,101,110,116] (by decide +kernel) gCp (dCp .u8) 110 3 Shs.cp.le Cz.cp Suf.cp (fun h => hcp h) b1 (m1.up (u2.trans u3).up) _ (s.pickT (hd := [_,_,_,_]) (tl := bs) (hd' := [_,_,_,_]) [3,1,0,2] Z Z)) Z fun z2 hz2 => ?_
 obtain ⟨cs,v3,xs3,H4⟩ := z2
 obtain ⟨hv3,u4,hz3,_⟩ := hz2
 dsimp only at hv3 u4 hz3 ⊢
 have K4 := K3.up u4.up
 have hq6 : (up n (gMany [99,111,109,112,111,110,101,110,116] gCp) (up n (gMany [108,105,110,107] gLk) (up n (gMany [102,108,97,103] gFg) (up n (gNd [123]) (up n gNm (up n (gNd [102,108,101,101,116]) q)))))).r <:+ ts := (Suf.many Suf.cp).up hq5
 refine .nt<|.rg<|.yv (.loadM Z Fx.agg53 (m1.up (u2.trans (u3.trans u4)).up) (k := 0) Z Z) Z<|.cs (X := Unit) Fx.call38 Z (fun W s => expect_nd K4 hq6 [125] (by decide +kernel) (s.pickT (hd := [_,_,_,_]) (tl := bs) (hd' := [_,_,_,_]) [1,0,2,3] Z Z)) Z fun _ _ => .nl<|?_
 refine Sx.reSt (fun W s => s.pickT (hd := [_,_,_,_]) (tl := bs) (hd' := [_,_,_,_]) [3,2,1,0] rfl rfl) ?_
 refine Sx.freezeSeq (ds := fs.map dFg) (by simp) (hz1.up (u3.trans u4).up) fun H5 p5 c5 u5 e5 h5 => ?_
 refine Sx.freezeSeq (ds := ls.map dLk) (by simp) (hz2.up (u4.trans u5).up) fun H6 p6 c6 u6 e6 h6 => ?_
 refine Sx.freezeSeq (ds := cs.map (dCp .u8)) (by simp) (hz3.up (u5.trans u6).up) fun H7 p7 c7 u7 e7 h7 => ?_
 refine Sx.retN (.inr rfl) rfl .nil rfl fun W s => ⟨(⟨nm,fs,ls,cs⟩,(strV nm,v1,v2,v3),H7),⟨vl_bind (n := n) (x := ()) vl_unit (vl_bind (n := n) hnm.1 (vl_bind (n := n) (x := ()) vl_unit (vl_bind (n := n) hv1 (vl_bind (n := n) hv2 (vl_bind (n := n) hv3 (vl_bind (n := n) (x := ()) vl_unit vl_pure)))))),u1.trans (u2.trans (u3.trans (u4.trans (u5.trans (u6.trans u7))))),ft_shut (x := ⟨nm,fs,ls,cs⟩) hnm.2 (h5.up (u6.trans u7).up) (h6.up u7.up) h7⟩,rfl,?_⟩
 rw [show up n gFt q = (up n (gNd [125]) (up n (gMany [99,111,109,112,111,110,101,110,116] gCp) (up n (gMany [108,105,110,107] gLk) (up n (gMany [102,108,97,103] gFg) (up n (gNd [123]) (up n gNm (up n (gNd [102,108,101,101,116]) q))))))) by unfold gFt;rw [up_bind (x := ()) (Cz.nd _) vl_unit,up_bind Cz.nm hnm.1,up_bind (x := ()) (Cz.nd _) vl_unit,up_bind (Cz.many Cz.fg) hv1,up_bind (Cz.many Cz.lk) hv2,up_bind (Cz.many Cz.cp) hv3,up_bind (x := ()) (Cz.nd _) vl_unit,up_pure]]
 exact s
theorem sg0_mu (t : Str) : (sg0 t).mu ≤ 1000000 := by
 unfold sg0
 split
 ·rw [Sg.mu_er (by decide)];omega
 ·have := lexR_len t
  unfold Sg.mu
  simp only [if_true]
  omega
def pzE (t : Str) (x : Ft) : Nat := if (sgZ gFt t).e = 0 then checkF x else (sgZ gFt t).e
def pzO (t : Str) (x : Ft) : Nat := if (sgZ gFt t).e = 0 ∧ checkF x = 0 then 0 else (sgZ gFt t).o
def pzR (t : Str) (x : Ft) (cs : List Value) : List Value := if (sgZ gFt t).e = 0 ∧ checkF x = 0 then cs else [.string ⟨#[]⟩,.slice none 0 0,.slice none 0 0,.slice none 0 0]
set_option maxRecDepth 100000 in
theorem parse_st {H : Hp} (G : Gl H) {w0 W : World} {bs : List Res} (t : Str) (ht : t.length ≤ 9223372036854775807) (hok : ∀ f,vl gFt (sg0 t) f → (sgZ gFt t).e = 0 → evH okH f = true)
 (hcp : (up t.length (gMany [108,105,110,107] gLk) (up t.length (gMany [102,108,97,103] gFg) (up t.length (gNd [123]) (up t.length gNm (up t.length (gNd [102,108,101,101,116]) (sg0 t)))))).e = 0 → ∀ {b : Nat} {tp : Option Addr} {tc : Nat} {t0 t1 t2 : Value},ItemC 42 gCp (dCp .u8) 110 3 (fun _ => t0) (fun _ => t1) (fun _ => t2) (fun v => v) b t.length (sg0 t).r tp tc) (s : St H w0 bs W) :
 Calls Tryd.prog 15 #[strV t] W fun e W' => ∃ z : Ft × List Value × Hp,(vl gFt (sg0 t) z.1 ∧ HUp w0 H z.2.2 ∧ Rep z.2.2 (dFt .u8 z.1) z.2.1) ∧ e = .returned (.tuple #[.agg (pzR t z.1 z.2.1).toArray,.int .i64 (pzO t z.1 : Nat),.int .i64 (pzE t z.1 : Nat)]) ∧ St z.2.2 w0 bs W' := by
 refine Sx.enterS Tryd.func15 rfl Tryd.ntmps15 rfl s ?_
 refine .sr<|.al Fx.zero49 Z fun b2 => .a Z Z<|.a Z Z<|.ns<|.m Z Z<|.cs (X := Nat × Hp × Option Addr × Nat) Fx.call17 Z (fun W s => start_c G t ht s) Z fun z0 hz0 => ?_
 obtain ⟨b,H0,tp,tc⟩ := z0
 obtain ⟨K0,u0⟩ := hz0
 dsimp only at K0 u0 ⊢
 refine .a Z Z<|.ns<|.m Z Z<|.cs (X := Ft × (Value × Value × Value × Value) × Hp) Fx.call23 Z (fun W s => fleet_st K0 (List.suffix_refl _) (sg0_mu t) (fun h => hcp h) (s.pickT (hd := [_,_]) (tl := bs) (hd' := [_,_]) [0,1] Z Z)) Z fun z1 hz1 => ?_
 obtain ⟨a1,⟨x1,x2,x3,x4⟩,H1⟩ := z1
 obtain ⟨hv1,u1,r1⟩ := hz1
 dsimp only at hv1 u1 r1 ⊢
 have K1 := K0.up u1.up
 have u2 := u0.trans u1
 refine .ns<|.m Z Z<|.cs (X := Unit) Fx.call19 Z (fun W s => close_st K1 (Suf.ft.up (List.suffix_refl _))  (s.pickT (hd := [_,_]) (tl := bs) (hd' := [_,_]) [0,1] Z Z)) Z fun _ _ => .m Z Z<|.yv (.extract Z Z) Z<|.yv (.extract Z Z) Z<|.a Z Z<|.a Z Z<|.nt<|.sq<|.sr<|.m Z Z<|.yv (.eql Z Z) Z<|.nt<|.cd Z (fun h18 => ?_) (fun h18 => ?_)
 ·try simp only [dt] at h18
  have hZ : (sgZ gFt t).e = 0 := by unfold sgZ;omega
  refine .rg<|.m Z Z<|.yv (.nilCheck Z) Z<|.yv (.fieldAddr Z Fx.field64_3) Z<|.yv (.loadS (vs := [_,_,_,_]) Z Fx.agg49 (.head _) Z (subL Z)) Z<|.yv (.call Fx.call24 Z (fun W s => check_any H1 (G.up u2.up) a1 _ r1 (hok a1 hv1 hZ) W s.agr)) Z<|.a Z Z<|.nt<|.sq<|.sr<|.m Z Z<|.yv (.neq Z Z) Z<|.nt<|.cd Z (fun h25 => ?_) (fun h25 => ?_)
  ·try simp only [dt] at h25
   have hck : ¬ checkF a1 = 0 := by omega
   refine .sr<|.yv (.build Z Fx.bld49) Z<|.m Z Z<|.m Z Z<|.sW (.tail<|.head) Z Z Fx.size49 (by simp [Value.oneCell']) Z<|.a Z Z<|.a Z Z<|.nt<|.rt<|.tR<|?_
   refine Sx.retN (.inl rfl) rfl (.cons (.cell rfl Fx.agg49 (.tail _<|.head _) rfl) (.cons (.tmp rfl) (.cons (.tmp rfl) .nil))) rfl fun W s => ⟨(a1,[x1,x2,x3,x4],H1),⟨hv1,u2,r1⟩,?_,s.pickT (hd := [_,_]) (tl := bs) (hd' := []) [] rfl rfl⟩
   unfold pzR pzO pzE
   simp only [hZ,hck,if_true,if_false]
   rfl
  try simp only [df] at h25
  have hck : checkF a1 = 0 := by omega
  refine .sk<|.tN<|.sr<|.m Z Z<|.yv (.nilCheck Z) Z<|.yv (.fieldAddr Z Fx.field64_3) Z<|.yv (.loadS (vs := [_,_,_,_]) Z Fx.agg49 (.head _) Z (subL Z)) Z<|.sW (.tail<|.head) Z Z Fx.size49 (Rep.one r1) Z<|.a Z Z<|.a Z Z<|.nt<|.rt<|?_
  refine Sx.retN (.inl rfl) rfl (.cons (.cell rfl Fx.agg49 (.tail _<|.head _) rfl) (.cons (.tmp rfl) (.cons (.tmp rfl) .nil))) rfl fun W s => ⟨(a1,[x1,x2,x3,x4],H1),⟨hv1,u2,r1⟩,?_,s.pickT (hd := [_,_]) (tl := bs) (hd' := []) [] rfl rfl⟩
  unfold pzR pzO pzE
  simp only [hZ,hck,if_true]
  rfl
 try simp only [df] at h18
 have hZ : ¬ (sgZ gFt t).e = 0 := by unfold sgZ;omega
 refine .sk<|.tN<|.sq<|.sr<|.m Z Z<|.yv (.neq Z Z) Z<|.nt<|.cd Z (fun h25 => ?_) (fun h25 => ?_)
 ·skip
  refine .sr<|.yv (.build Z Fx.bld49) Z<|.m Z Z<|.m Z Z<|.sW (.tail<|.head) Z Z Fx.size49 (by simp [Value.oneCell']) Z<|.a Z Z<|.a Z Z<|.nt<|.rt<|.tR<|?_
  refine Sx.retN (.inl rfl) rfl (.cons (.cell rfl Fx.agg49 (.tail _<|.head _) rfl) (.cons (.tmp rfl) (.cons (.tmp rfl) .nil))) rfl fun W s => ⟨(a1,[x1,x2,x3,x4],H1),⟨hv1,u2,r1⟩,?_,s.pickT (hd := [_,_]) (tl := bs) (hd' := []) [] rfl rfl⟩
  unfold pzR pzO pzE
  simp only [hZ,if_false]
  rfl
 exact absurd (show (sgZ gFt t).e = 0 by unfold sgZ;have := Classical.not_not.1 (of_decide_eq_false h25);omega) hZ
end Go.Proofs.YthhoebdlfjffkaaDoor
namespace Go.Proofs.YthhoebdlfjffkaaDoor
section
variable {α β : Type}
def En (p : Pz α) : Prop := p [] = .er [] 8 ∨ ∃ b,p [] = .ok b []
def Pf (N : Nat) (p : Pz α) : Prop := ∀ r a q,r.length ≤ N → p r = .ok a q → ∃ u,r = u ++ q ∧ (∀ v w,u = v ++ w → p v = .er [] 8 ∨ ∃ b,p v = .ok b []) ∧ (∀ v,v ≠ [] → v.head? = q.head? → p (u ++ v) = .ok a v)
theorem Pf.le {N M : Nat} {p : Pz α} (h : Pf N p) (k : M ≤ N) : Pf M p := fun r a q hr e => h r a q (Nat.le_trans hr k) e
theorem Pf.zero {p : Pz α} (h : Shr p) : Pf 0 p := fun r a q hr e => by
 obtain rfl : r = [] := List.eq_nil_of_length_eq_zero (by omega)
 have := h _ _ _ e
 obtain rfl : q = [] := List.eq_nil_of_length_eq_zero (by simpa using this)
 refine ⟨[],rfl,fun v w h => ?_,fun v hv h => ?_⟩
 ·obtain rfl := (List.append_eq_nil_iff.1 h.symm).1
  exact .inr ⟨a,e⟩
 ·cases v with
  | nil => exact absurd rfl hv
  | cons x v => cases h
theorem En.pure (a : α) : En (gPure a) := .inr ⟨a,rfl⟩
theorem En.bind {p : Pz α} {f : α → Pz β} (h : En p) (k : ∀ a,En (f a)) : En (gBind p f) := by
 rcases h with h | ⟨b,h⟩
 ·exact .inl (by unfold gBind;rw [h];rfl)
 ·have e : gBind p f [] = f b [] := by unfold gBind;rw [h];rfl
  rcases k b with k | ⟨c,k⟩
  ·exact .inl (e.trans k)
  ·exact .inr ⟨c,e.trans k⟩
theorem En.nd (w : Str) : En (gNd w) := .inl rfl
theorem En.nm : En gNm := .inl rfl
theorem En.nu : En gNu := .inl rfl
theorem En.alt {w : Str} {p q : Pz α} (h : En q) : En (gAlt w p q) := h
theorem En.many {w : Str} {p : Pz α} : En (gMany w p) := .inr ⟨[],rfl⟩
theorem Pf.pure {N : Nat} (a : α) : Pf N (gPure a) := fun r b q _ e => by
 injection e with e1 e2
 subst e1;subst e2
 refine ⟨[],rfl,fun v w h => ?_,fun v _ _ => rfl⟩
 obtain rfl := (List.append_eq_nil_iff.1 h.symm).1
 exact .inr ⟨a,rfl⟩
theorem Pf.bindS {N M : Nat} {p : Pz α} {f : α → Pz β} (hp : Pf N p) (hM : ∀ r a q,r.length ≤ N → p r = .ok a q → q.length ≤ M) (hf : ∀ a,Pf M (f a)) (he : ∀ a,En (f a)) : Pf N (gBind p f) := by
 intro r b q' hr e
 obtain ⟨a,q,h1,h2⟩ := Rs.bind_ok e
 obtain ⟨u1,rfl,A1,B1⟩ := hp _ _ _ hr h1
 obtain ⟨u2,rfl,A2,B2⟩ := hf a _ _ _ (hM _ _ _ hr h1) h2
 have go : ∀ x c y,p x = .ok c y → gBind p f x = f c y := fun x c y h => by unfold gBind;rw [h];rfl
 have fst : ∀ v w,u1 = v ++ w → gBind p f v = .er [] 8 ∨ ∃ b,gBind p f v = .ok b [] := fun v w h => by
  rcases A1 v w h with h3 | ⟨b',h3⟩
  ·exact .inl (by unfold gBind;rw [h3];rfl)
  ·rw [go _ _ _ h3]
   exact he b'
 have hd : ∀ (x y z : List Tk),(y.head? = z.head?) → (x ++ y).head? = (x ++ z).head? := fun x y z h => by
  cases x with
  | nil => exact h
  | cons t x => rfl
 refine ⟨u1 ++ u2,(List.append_assoc ..).symm,fun v w h => ?_,fun v hv h => ?_⟩
 ·rcases List.append_eq_append_iff.1 h with ⟨a',rfl,rfl⟩ | ⟨c,rfl,rfl⟩
  ·cases a' with
   | nil =>
    rw [List.append_nil]
    exact fst u1 [] (List.append_nil _).symm
   | cons t a' =>
    rw [go _ _ _ (B1 (t :: a') (by simp) rfl)]
    exact A2 (t :: a') w rfl
  ·exact fst v c rfl
 ·rw [List.append_assoc,go _ _ _ (B1 (u2 ++ v) (fun k => hv (List.append_eq_nil_iff.1 k).2) (hd _ _ _ h))]
  exact B2 v hv h
theorem Pf.bind {N : Nat} {p : Pz α} {f : α → Pz β} (hp : Pf N p) (hf : ∀ a,Pf N (f a)) (he : ∀ a,En (f a)) : Pf N (gBind p f) := .bindS hp (fun r a q hr e => by
 obtain ⟨u,rfl,_⟩ := hp r a q hr e
 rw [List.length_append] at hr
 omega) hf he
theorem Pf.one {N : Nat} {p : Pz α} (h0 : p [] = .er [] 8) (h1 : ∀ t,(∃ a,∀ r,p (t :: r) = .ok a r) ∨ ∀ r,∃ r' c,p (t :: r) = .er r' c) : Pf N p := by
 intro r a q _ e
 cases r with
 | nil => rw [h0] at e;cases e
 | cons t r =>
  rcases h1 t with ⟨b,h⟩ | h
  ·rw [h] at e
   injection e with e1 e2
   subst e1;subst e2
   refine ⟨[t],rfl,fun v w hv => ?_,fun v _ _ => h v⟩
   cases v with
   | nil => exact .inl h0
   | cons x v =>
    injection hv with hx hv
    subst hx
    obtain rfl := (List.append_eq_nil_iff.1 hv.symm).1
    exact .inr ⟨b,h []⟩
  ·obtain ⟨r',c,h⟩ := h r
   rw [h] at e
   cases e
theorem Pf.nd {N : Nat} (w : Str) : Pf N (gNd w) := .one rfl fun t => by
 cases e : isT w [t] with
 | true => exact .inl ⟨(),fun r => by show (if isT w [t] = true then _ else _) = _;rw [if_pos e];rfl⟩
 | false => exact .inr fun r => ⟨_,_,by show (if isT w [t] = true then _ else _) = _;rw [if_neg (by rw [e];decide)]⟩
theorem Pf.nm {N : Nat} : Pf N gNm := .one rfl fun t => by
 by_cases e : t.k = 1
 ·exact .inl ⟨t.t,fun r => by unfold gNm;simp only [e,if_true]⟩
 ·exact .inr fun r => ⟨t :: r,8,by unfold gNm;simp only [e,if_false]⟩
theorem Pf.nu {N : Nat} : Pf N gNu := .one rfl fun t => by
 by_cases e : t.k = 3
 ·by_cases e2 : numV t.t ≤ 9223372036854775807
  ·exact .inl ⟨Int64.ofNat (numV t.t),fun r => by unfold gNu;simp only [e,e2,if_true]⟩
  ·exact .inr fun r => ⟨t :: r,2,by unfold gNu;simp only [e,e2,if_true,if_false]⟩
 ·exact .inr fun r => ⟨t :: r,8,by unfold gNu;simp only [e,if_false]⟩
theorem Pf.choice {N : Nat} {c : List Tk → Bool} {p : Tk → Pz α} {q g : Pz α} (hc0 : c [] = false) (hc : ∀ t r r',c (t :: r) = c (t :: r')) (hT : ∀ t r,c (t :: r) = true → g (t :: r) = p t r) (hF : ∀ r,c r = false → g r = q r)
 (hp : ∀ t M,M + 1 ≤ N → Pf M (p t)) (hq : Pf N q) (he : En q) : Pf N g := by
 intro r a z hr e
 cases h : c r with
 | true =>
  cases r with
  | nil => rw [hc0] at h;cases h
  | cons t r =>
   rw [hT _ _ h] at e
   obtain ⟨u,rfl,A,B⟩ := hp t r.length (by simpa using hr) _ _ _ (Nat.le_refl _) e
   refine ⟨t :: u,rfl,fun v w hv => ?_,fun v hn hv => ?_⟩
   ·cases v with
    | nil => rw [hF _ hc0];exact he
    | cons x v =>
     injection hv with hx hv
     subst hx
     rw [hT _ _ ((hc ..).trans h)]
     exact A v w hv
   ·show g (t :: (u ++ v)) = _
    rw [hT _ _ ((hc ..).trans h)]
    exact B v hn hv
 | false =>
  rw [hF _ h] at e
  obtain ⟨u,rfl,A,B⟩ := hq _ _ _ hr e
  have pre : ∀ v,(v = [] ∨ v.head? = (u ++ z).head?) → c v = false := fun v hv => by
   cases v with
   | nil => exact hc0
   | cons x v =>
    rcases hv with hv | hv
    ·cases hv
    ·cases k : u ++ z with
     | nil => rw [k] at hv;cases hv
     | cons y s =>
      rw [k] at hv h
      injection hv with hv
      subst hv
      exact (hc x v s).trans h
  refine ⟨u,rfl,fun v w hv => ?_,fun v hn hv => ?_⟩
  ·rw [hF _ (pre v (by rw [hv];cases v <;> simp))]
   exact A v w hv
  ·rw [hF _ (pre (u ++ v) (.inr (by cases u <;> first | exact hv | rfl)))]
   exact B v hn hv
theorem Pf.look {N : Nat} {c : List Tk → Bool} {p q g : Pz α} (hc0 : c [] = false) (hc : ∀ t r r',c (t :: r) = c (t :: r')) (hT : ∀ r,c r = true → g r = p r) (hF : ∀ r,c r = false → g r = q r)
 (hp : Pf N p) (hq : Pf N q) (he : En q) : Pf N g := by
 intro r a z hr e
 have pre : ∀ (x : Bool) (v : List Tk),v ≠ [] → v.head? = r.head? → c r = x → c v = x := fun x v hn h2 h3 => by
  cases v with
  | nil => exact absurd rfl hn
  | cons y v =>
   cases r with
   | nil => cases h2
   | cons t r =>
    injection h2 with h2
    subst h2
    exact (hc ..).trans h3
 have h1 : ∀ (u v w : List Tk),r = u ++ z → u = v ++ w → v ≠ [] → v.head? = r.head? := fun u v w h2 h3 hn => by
  cases v with
  | nil => exact absurd rfl hn
  | cons y v => rw [h2,h3];rfl
 have h2 : ∀ (u v : List Tk),r = u ++ z → v.head? = z.head? → (u ++ v).head? = r.head? := fun u v h3 h4 => by
  rw [h3]
  cases u with
  | nil => exact h4
  | cons y u => rfl
 cases h : c r with
 | true =>
  rw [hT _ h] at e
  obtain ⟨u,hu,A,B⟩ := hp _ _ _ hr e
  refine ⟨u,hu,fun v w hv => ?_,fun v hn hv => ?_⟩
  ·by_cases hn : v = []
   ·subst hn;rw [hF _ hc0];exact he
   ·rw [hT _ (pre _ v hn (h1 u v w hu hv hn) h)]
    exact A v w hv
  ·rw [hT _ (pre _ (u ++ v) (fun k => hn (List.append_eq_nil_iff.1 k).2) (h2 u v hu hv) h)]
   exact B v hn hv
 | false =>
  rw [hF _ h] at e
  obtain ⟨u,hu,A,B⟩ := hq _ _ _ hr e
  refine ⟨u,hu,fun v w hv => ?_,fun v hn hv => ?_⟩
  ·by_cases hn : v = []
   ·subst hn;rw [hF _ hc0];exact he
   ·rw [hF _ (pre _ v hn (h1 u v w hu hv hn) h)]
    exact A v w hv
  ·rw [hF _ (pre _ (u ++ v) (fun k => hn (List.append_eq_nil_iff.1 k).2) (h2 u v hu hv) h)]
   exact B v hn hv
theorem Pf.alt {N : Nat} {w : Str} {p q : Pz α} (hp : ∀ M,M + 1 ≤ N → Pf M p) (hq : Pf N q) (he : En q) : Pf N (gAlt w p q) :=
 .choice (c := isT w) (p := fun _ => p) rfl (fun _ _ _ => rfl) (fun t r h => by unfold gAlt;rw [if_pos h];rfl) (fun r h => by unfold gAlt;rw [if_neg (by rw [h];decide)]) (fun _ => hp) hq he
theorem Pf.many {w : Str} {p : Pz α} (hs : Shr p) : ∀ (N : Nat),(∀ M,M + 1 ≤ N → Pf M p) → Pf N (gMany w p)
 | 0,_ => .zero (.many hs)
 | N + 1,h => by
  rw [gMany_eq hs]
  refine .alt (fun M hM => ?_) (.pure _) (.pure _)
  exact .bind (h M hM) (fun a => .bind ((Pf.many hs N fun M hM => h M (by omega)).le (by omega)) (fun _ => .pure _) (fun _ => .pure _)) (fun a => .bind .many fun _ => .pure _)
end
section
variable {α β : Type}
structure PE (N : Nat) (p : Pz α) : Prop where
 pf : Pf N p
 en : En p
theorem PE.le {N M : Nat} {p : Pz α} (h : PE N p) (k : M ≤ N) : PE M p := ⟨h.pf.le k,h.en⟩
theorem PE.pure {N : Nat} (a : α) : PE N (gPure a) := ⟨.pure a,.pure a⟩
theorem PE.bind {N : Nat} {p : Pz α} {f : α → Pz β} (hp : PE N p) (hf : ∀ a,PE N (f a)) : PE N (gBind p f) := ⟨.bind hp.pf (fun a => (hf a).pf) (fun a => (hf a).en),.bind hp.en fun a => (hf a).en⟩
theorem PE.nd {N : Nat} (w : Str) : PE N (gNd w) := ⟨.nd w,.nd w⟩
theorem PE.nm {N : Nat} : PE N gNm := ⟨.nm,.nm⟩
theorem PE.nu {N : Nat} : PE N gNu := ⟨.nu,.nu⟩
theorem PE.alt {N : Nat} {w : Str} {p q : Pz α} (hp : ∀ M,M + 1 ≤ N → PE M p) (hq : PE N q) : PE N (gAlt w p q) := ⟨.alt (fun M h => (hp M h).pf) hq.pf hq.en,.alt hq.en⟩
theorem PE.many {N : Nat} {w : Str} {p : Pz α} (hs : Shr p) (hp : ∀ M,M + 1 ≤ N → PE M p) : PE N (gMany w p) := ⟨.many hs N fun M h => (hp M h).pf,.many⟩
theorem PE.list {N : Nat} {p : Pz α} (hs : Shr p) (hp : ∀ M,M ≤ N → PE M p) : PE N (gList p) := .bind (.nd _) fun _ => .alt (fun M _ => .pure _) (.bind (hp N (Nat.le_refl _)) fun _ => .bind (.many hs fun M h => hp M (by omega)) fun _ => .bind (.nd _) fun _ => .pure _)
end
theorem opAt_nil (lv : Nat) : opAt lv [] = none := by
 have h : (opsL lv).find? (fun x => isT x.1 []) = none := List.find?_eq_none.2 (fun x _ => Bool.false_ne_true)
 unfold opAt
 rw [h]
 rfl
theorem En.l (lv : Nat) (a : Ex) : En (gL lv a) := .inr ⟨a,pL_none (opAt_nil lv)⟩
theorem En.nam : En gNam := .bind .nm fun _ => .alt (.pure _)
theorem En.prim : En gPrim := .alt<|.alt<|.alt<|.alt<|.alt<|.alt En.nam
theorem En.x : ∀ (d lv : Nat),lv + d = 5 → En (gX lv)
 | 0,lv,h => by
  obtain rfl : lv = 5 := by omega
  rw [gX_un,prim_eq]
  exact .alt (.alt En.prim)
 | d + 1,lv,h => by
  rw [gX_low (by omega)]
  exact .bind (En.x d (lv + 1) (by omega)) fun a => En.l lv a
theorem Shr.l (lv : Nat) (a : Ex) : Shr (gL lv a) := fun r b r' e => (pE_len _).2 _ _ _ _ _ e
theorem Pf.xl : ∀ (N : Nat),(∀ lv,lv ≤ 5 → Pf N (gX lv)) ∧ (∀ lv,lv ≤ 4 → ∀ a,Pf N (gL lv a))
 | 0 => ⟨fun lv _ => .zero (Shs.gx lv).le,fun lv _ a => .zero (Shr.l lv a)⟩
 | N + 1 => by
  obtain ⟨ih1,ih2⟩ := Pf.xl N
  have x : ∀ lv,lv ≤ 5 → ∀ M,M + 1 ≤ N + 1 → PE M (gX lv) := fun lv h M hM => ⟨(ih1 lv h).le (by omega),En.x (5 - lv) lv (by omega)⟩
  have hk : ∀ lv op a b,lv ≤ 4 → ∀ M,M + 1 ≤ N + 1 → PE M (gK lv op a b) := fun lv op a b h M hM => by
   unfold gK
   split
   ·exact .pure _
   ·exact ⟨(ih2 lv h _).le (by omega),En.l lv _⟩
  have hl : ∀ lv,lv ≤ 4 → ∀ a,Pf (N + 1) (gL lv a) := fun lv h a => by
   refine .choice (c := fun r => (opAt lv r).isSome) (p := fun t => match opAt lv [t] with | some op => gBind (gX (lv + 1)) (gK lv op a) | none => gPure a) (q := gPure a) ?_ (fun _ _ _ => rfl) ?_ ?_ ?_ (.pure _) (.pure _)
   ·show (opAt lv []).isSome = false
    rw [opAt_nil]
    rfl
   ·intro t r e
    obtain ⟨op,e⟩ := Option.isSome_iff_exists.1 e
    have e2 : opAt lv [t] = some op := e
    simp only [e2]
    show pL lv a (t :: r) = _
    rw [pL_some h e]
    refine Rs.bind_congr rfl fun b q _ => ?_
    unfold gK
    split <;> rfl
   ·intro r e
    have e2 : opAt lv r = none := by
     cases k : opAt lv r with
     | none => rfl
     | some op => rw [k] at e;cases e
    exact pL_none e2
   ·intro t M hM
    show Pf M (match opAt lv [t] with | some op => gBind (gX (lv + 1)) (gK lv op a) | none => gPure a)
    cases opAt lv [t] with
    | none => exact .pure _
    | some op => exact (PE.bind (x (lv + 1) (by omega) M hM) fun b => hk lv op a b h M hM).pf
  have key : ∀ op nm M,M + 1 ≤ N + 1 → PE M (gKey op nm) := fun op nm M hM => .bind (x 0 (by omega) M hM) fun _ => .bind (.nd _) fun _ => .pure _
  have nam : PE (N + 1) gNam := .bind .nm fun s => .alt (fun M hM => key 6 s M hM) (.pure _)
  have last : PE (N + 1) gLast := ⟨.look (c := isNum) (p := gNum) (q := gNam) rfl (fun _ _ _ => rfl) (fun r h => by unfold gLast;rw [if_pos h]) (fun r h => by unfold gLast;rw [if_neg (by rw [h];decide)]) (PE.bind .nu fun _ => .pure _).pf nam.pf nam.en,nam.en⟩
  have prim : PE (N + 1) gPrim := .alt (fun _ _ => .pure _)<|.alt (fun _ _ => .pure _)<|.alt (fun _ _ => .pure _)<|.alt (fun _ _ => .bind .nm fun _ => .pure _)<|.alt (fun M hM => .bind .nm fun s => .bind (.nd _) fun _ => key 7 s M hM)<|.alt (fun M hM => .bind (x 0 (by omega) M hM) fun _ => .bind (.nd _) fun _ => .pure _) last
  have h5 : PE (N + 1) (gX 5) := by
   rw [gX_un,prim_eq]
   exact .alt (fun M hM => .bind (x 5 (by omega) M hM) fun _ => .pure _)<|.alt (fun M hM => .bind (x 5 (by omega) M hM) fun _ => .pure _) prim
  have all : ∀ d lv,lv + d = 5 → PE (N + 1) (gX lv) := fun d => by
   induction d with
   | zero =>
    intro lv h
    obtain rfl : lv = 5 := by omega
    exact h5
   | succ d ih =>
    intro lv h
    rw [gX_low (by omega)]
    exact .bind (ih (lv + 1) (by omega)) fun a => ⟨hl lv (by omega) a,En.l lv a⟩
  exact ⟨fun lv h => (all (5 - lv) lv (by omega)).pf,hl⟩
theorem PE.ex {N : Nat} : PE N gEx := ⟨(Pf.xl N).1 0 (by omega),En.x 5 0 rfl⟩
theorem PE.st {N : Nat} {b : Pz (List Sm)} (hb : ∀ M,M + 1 ≤ N → PE M b) : PE N (gSt b) := by
 have blk : ∀ M,M + 1 ≤ N → PE M (gBlk b) := fun M h => .bind (.nd _) fun _ => .bind (hb M h) fun _ => .bind (.nd _) fun _ => .pure _
 have els : ∀ M,M + 1 ≤ N → PE M (gEls b) := fun M h => .alt (fun M' h' => blk M' (by omega)) (.pure _)
 have oth : ∀ M,M + 1 ≤ N → PE M (gOth b) := fun M h => .alt (fun M' h' => blk M' (by omega)) (.bind (.nd _) fun _ => .pure _)
 have lst : ∀ M,PE M (gList gEx) := fun M => .list Shs.ex.le fun _ _ => .ex
 exact .alt (fun M h => .bind .ex fun _ => .bind (blk M h) fun _ => .bind (els M h) fun _ => .pure _)<|.alt (fun M h => .bind .ex fun _ => .bind (blk M h) fun _ => .pure _)<|.alt (fun M h => .bind .ex fun _ => .bind (.nd _) fun _ => .bind .ex fun _ => .bind (oth M h) fun _ => .pure _)<|.alt (fun M h => .bind .nm fun _ => .bind (.nd _) fun _ => .bind .ex fun _ => .bind (oth M h) fun _ => .pure _)<|.alt (fun M h => .bind .nm fun _ => .bind (.nd _) fun _ => .bind .nm fun _ => .bind (lst M) fun _ => .bind (.nd _) fun _ => .pure _)<|.alt (fun M h => .bind .ex fun _ => .bind (.nd _) fun _ => .bind .nm fun _ => .bind (lst M) fun _ => .bind (.nd _) fun _ => .pure _)<|.alt (fun M h => .bind (.nd _) fun _ => .pure _)<|.alt (fun M h => .bind .nm fun _ => .bind (.nd _) fun _ => .bind .ex fun _ => .bind (.nd _) fun _ => .bind (.nd _) fun _ => .pure _)<|.bind .nm fun _ => .alt (fun M h => .bind .ex fun _ => .bind (.nd _) fun _ => .bind (.nd _) fun _ => .bind .ex fun _ => .bind (.nd _) fun _ => .pure _)
  (.bind (.nd _) fun _ => .bind .ex fun _ => .bind (.nd _) fun _ => .pure _)
theorem En.b : En gB := .inl (by rw [gB_eq];rfl)
theorem PE.b : ∀ N,PE N gB
 | 0 => ⟨.zero Shr.b,En.b⟩
 | N + 1 => by
  have st : PE (N + 1) (gSt gB) := .st fun M h => (PE.b N).le (by omega)
  have rest : ∀ a : Sm,PE N (gBind gB fun l => gPure (a :: l)) := fun a => .bind (PE.b N) fun _ => .pure _
  refine ⟨.look (c := isT [125]) (p := gPure []) (q := gBind (gSt gB) fun s => gBind gB fun l => gPure (s :: l)) rfl (fun _ _ _ => rfl) (fun r h => ?_) (fun r h => ?_) (.pure _)
   (.bindS st.pf (fun r a q hr e => ?_) (fun a => (rest a).pf) (fun a => (rest a).en)) (.bind st.en fun a => (rest a).en),En.b⟩
  ·rw [gB_eq,if_pos h]
   rfl
  ·rw [gB_eq,if_neg (by rw [h];decide)]
   rfl
  ·have := Shs.st Shr.b _ _ _ e
   omega
theorem PE.blk {N : Nat} : PE N (gBlk gB) := .bind (.nd _) fun _ => .bind (.b N) fun _ => .bind (.nd _) fun _ => .pure _
theorem PE.int {N : Nat} : PE N gInt := .alt (fun _ _ => .bind .nu fun _ => .pure _) .nu
theorem PE.hd {N : Nat} : PE N gHd := .bind .nm fun _ => .bind (.list Shs.nm.le fun _ _ => .nm) fun _ => .bind .blk fun _ => .pure _
structure Xf {α : Type} (p : Pz α) : Prop where
 no : p [] = .er [] 8
 go : ∀ r a q w,p r = .ok a q → p (r ++ w) = .ok a (q ++ w)
theorem Xf.nd (w : Str) : Xf (gNd w) := ⟨rfl,fun r a q z e => by
 cases r with
 | nil => cases e
 | cons t r =>
  unfold gNd at e
  split at e
  ·rename_i h
   injection e with _ e
   subst e
   show (if isT w (t :: (r ++ z)) = true then _ else _) = _
   have h2 : isT w (t :: (r ++ z)) = true := h
   rw [if_pos h2]
   rfl
  ·cases e⟩
theorem Xf.pure {α β : Type} {p : Pz α} {f : α → β} (h : Xf p) : Xf (gBind p fun a => gPure (f a)) := ⟨by unfold gBind;rw [h.no];rfl,fun r b q w e => by
 obtain ⟨a,q1,h1,h2⟩ := Rs.bind_ok e
 injection h2 with h2 h3
 subst h2;subst h3
 unfold gBind
 rw [h.go r a q1 w h1]
 rfl⟩
theorem Xf.bind {α β : Type} {p : Pz α} {f : α → Pz β} (hp : ∀ N,PE N p) (hf : ∀ a,Xf (f a)) : Xf (gBind p f) := ⟨by
 unfold gBind
 rcases (hp 0).en with h | ⟨b,h⟩
 ·rw [h];rfl
 ·rw [h]
  exact (hf b).no,fun r b q' w e => by
 obtain ⟨a,q,h1,h2⟩ := Rs.bind_ok e
 have hq : q ≠ [] := fun k => by
  subst k
  rw [(hf a).no] at h2
  cases h2
 obtain ⟨u,rfl,_,B⟩ := (hp r.length).pf _ _ _ (Nat.le_refl _) h1
 have h3 := B (q ++ w) (fun k => hq (List.append_eq_nil_iff.1 k).1) (by cases q with | nil => exact absurd rfl hq | cons t q => rfl)
 unfold gBind
 rw [List.append_assoc,h3]
 exact (hf a).go q b q' w h2⟩
def exB : Nat → Ex → Ex → Bool
 | 0,_,_ => false
 | f + 1,.mk o n v l,.mk o' n' v' l' => decide (o = o') && decide (n = n') && decide (v = v') && (decide (l.length = l'.length) && (l.zip l').all fun p => exB f p.1 p.2)
theorem zip_eq {α : Type} {r : α → α → Bool} (h : ∀ a b,r a b = true → a = b) : ∀ (l m : List α),l.length = m.length → ((l.zip m).all fun p => r p.1 p.2) = true → l = m
 | [],[],_,_ => rfl
 | [],_ :: _,e,_ => by cases e
 | _ :: _,[],e,_ => by cases e
 | a :: l,b :: m,e,k => by
  rw [List.zip_cons_cons,List.all_cons,Bool.and_eq_true] at k
  rw [h a b k.1,zip_eq h l m (by simpa using e) k.2]
theorem exB_eq : ∀ (f : Nat) (a b : Ex),exB f a b = true → a = b
 | 0,_,_,h => by cases h
 | f + 1,.mk o n v l,.mk o' n' v' l',h => by
  unfold exB at h
  simp only [Bool.and_eq_true,decide_eq_true_eq] at h
  obtain ⟨⟨⟨rfl,rfl⟩,rfl⟩,h1,h2⟩ := h
  rw [zip_eq (r := exB f) (exB_eq f) l l' h1 h2]
def nmE (c : UInt8) : Ex := .mk 5 [c] 0 []
def txA : Str := [110,111,116,32,97,32,61,61,32,98]
def txB : Str := [97,32,60,32,98,32,60,32,99]
def txC : Str := [102,108,101,101,116] ++ [32,102,32,123,32] ++ [108,105,110,107] ++ [32,97,32,45,62,32,98,32] ++ [108,97,116,101,110,99,121] ++ [32] ++ [57,50,50,51,51,55,50,48,51,54,56,53,52,55,55,53,56,48,56] ++ [59,32,125]
def txD : Str := [40,97]
def okB (x : Rs Ex) (a : Ex) : Bool := match x with | .ok b r => r.isEmpty && exB 5 b a | .er _ _ => false
theorem okB_eq {x : Rs Ex} {a : Ex} (h : okB x a = true) : x = .ok a [] := by
 unfold okB at h
 cases x with
 | er r c => cases h
 | ok b r =>
  simp only [Bool.and_eq_true,List.isEmpty_iff] at h
  rw [h.1,exB_eq 5 _ _ h.2]
theorem awA : gX 0 (lexR txA) = .ok (opE 16 [opE 10 [nmE 97],nmE 98]) [] := okB_eq (by decide +kernel)
theorem awB : (sgZ (gX 0) txB).e = 8 ∧ (sgZ (gX 0) txB).o = 6 := by decide +kernel
theorem awC : (sgZ gFt txC).e = 2 ∧ (sgZ gFt txC).o = 30 := by decide +kernel
theorem awD : (sgZ (gX 0) txD).e = 8 ∧ (sgZ (gX 0) txD).o = 2 := by decide +kernel
end Go.Proofs.YthhoebdlfjffkaaDoor
