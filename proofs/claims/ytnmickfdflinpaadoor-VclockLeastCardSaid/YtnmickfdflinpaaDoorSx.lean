/- A walk by rules over a described state, over any program: slots as a list of what is known, own blocks as a list of resources, unchanging memory as a partial heap. -/
import Derived.Test.YtnmickfdflinpaaDoorPar
import Derived.Laws.IdiomCopy
import Derived.Laws.AppendOwn
import Derived.Laws.Rows
import Derived.Deep.LoopGhost
namespace Go.Sx
open Go.RowKit Go.Par

abbrev Sl := List (Nat × Value)
/-- The value that a slot is known to hold. -/
def look : Sl → Nat → Option Value
  | [], _ => none
  | (k, v) :: r, t => bif Nat.beq k t then some v else look r t
def ev (L : Sl) : Operand → Option Value
  | .tmp t => look L t
  | .const v => some v
  | .global g => some (.pointer (some ⟨g, 0, none⟩))
  | .func f => some (.func (.func f) #[] #[])
/-- The frame has n slots, nothing is deferred, and the slots hold what is known of them. -/
structure Fr (n : Nat) (L : Sl) (a : Act) : Prop where
  size : a.tmps.size = n
  defers : a.defers = []
  slot : ∀ t v, look L t = some v → a.tmps.getD t undef = v
theorem Fr.ev {n : Nat} {L : Sl} {a : Act} (h : Fr n L a) {x : Operand} {v : Value} (e : ev L x = some v) : a.eval x = v := by
  cases x with
  | tmp t => exact h.slot t v e
  | const u => exact Option.some.inj e
  | global g => exact Option.some.inj e
  | func f => exact Option.some.inj e
theorem Fr.put {n : Nat} {L : Sl} {a : Act} (h : Fr n L a) {t : Nat} (ht : Nat.blt t n = true) (v : Value) : Fr n ((t, v) :: L) (a.put (some t) v) := by
  have ht' : t < n := by simpa [Nat.blt_eq] using ht
  refine ⟨by simp [Act.put, h.size], h.defers, ?_⟩
  intro s u e
  unfold look at e
  by_cases hs : t = s
  · subst hs
    simp only [Nat.beq_refl, cond_true, Option.some.injEq] at e
    subst e
    simp [Act.put, h.size, ht']
  · have hb : Nat.beq t s = false := by
      cases hb : Nat.beq t s
      · rfl
      · exact absurd (Nat.eq_of_beq_eq_true hb) hs
    rw [hb, cond_false] at e
    have := h.slot s u e
    simp only [Act.put, Array.getD_eq_getD_getElem?] at this ⊢
    rw [Array.getElem?_setIfInBounds_ne hs]
    exact this
theorem Fr.putNone {n : Nat} {L : Sl} {a : Act} (h : Fr n L a) (v : Value) : Fr n L (a.put none v) := h
/-- What is known of the slots, made less. -/
def Sub (L : Sl) : Sl → Prop
  | [] => True
  | (t, v) :: r => look L t = some v ∧ Sub L r
theorem Sub.at {L : Sl} : ∀ {M : Sl}, Sub L M → ∀ t v, look M t = some v → look L t = some v
  | [], _, t, v, e => by cases e
  | (k, u) :: r, h, t, v, e => by
    unfold look at e
    cases hb : Nat.beq k t
    · rw [hb, cond_false] at e
      exact Sub.at h.2 t v e
    · rw [hb, cond_true] at e
      rw [← Nat.eq_of_beq_eq_true hb, ← Option.some.inj e]
      exact h.1
theorem Fr.sub {n : Nat} {L M : Sl} {a : Act} (h : Fr n L a) (s : Sub L M) : Fr n M a := ⟨h.size, h.defers, fun t v e => h.slot t v (s.at t v e)⟩

abbrev Hp := Nat → Option Obj
def Agr (H : Hp) (W : World) : Prop := ∀ b o, H b = some o → W.heap[b]? = some o
theorem Agr.ext {H : Hp} {W W' : World} (h : Agr H W) (x : Ext W W') : Agr H W' := fun b o e => block_ext x (h b o e)
inductive Res where
  | box (b : Nat) (l : List Value) (t : TypeId)
  | row (e : TypeId) (size : Nat) (v : Value) (n : Nat) (xs : List Value)
def Res.blk : Res → Option Nat
  | .box b _ _ => some b
  | .row _ _ v _ _ => v.ownBlock
def Res.ok (base : Nat) (W : World) : Res → Prop
  | .box b l t => base ≤ b ∧ W.heap[b]? = some (.cells l.toArray t (0, 0))
  | .row e size v n xs => W.ownsRow base e size v n xs
def Res.apart (x y : Res) : Prop := ∀ b, x.blk = some b → y.blk ≠ some b
theorem Res.apart.symm {x y : Res} (h : x.apart y) : y.apart x := fun b e f => h b f e
structure St (H : Hp) (w0 : World) (bs : List Res) (W : World) : Prop where
  ext : Ext w0 W
  agr : Agr H W
  own : ∀ x ∈ bs, x.ok w0.heap.size W ∧ ∀ b, x.blk = some b → H b = none
  apart : bs.Pairwise Res.apart
theorem Res.ok.lt {base : Nat} {W : World} {x : Res} (h : x.ok base W) {b : Nat} (e : x.blk = some b) : base ≤ b ∧ b < W.heap.size := by
  cases x with
  | box c l t =>
    obtain rfl : c = b := Option.some.inj e
    exact ⟨h.1, block_lt h.2⟩
  | row et size v n xs =>
    obtain ⟨_, ⟨rfl, _⟩ | ⟨g, cap, cur, rfl, hg, hc, _⟩⟩ := h
    · cases e
    · obtain rfl : g = b := Option.some.inj e
      exact ⟨hg, block_lt hc⟩
/-- A resource keeps if its block keeps. -/
theorem Res.ok.keep {base : Nat} {W W' : World} {x : Res} (h : x.ok base W) (k : ∀ b, x.blk = some b → W'.heap[b]? = W.heap[b]?) : x.ok base W' := by
  cases x with
  | box c l t => exact ⟨h.1, (k c rfl).trans h.2⟩
  | row et size v n xs =>
    obtain ⟨hl, ⟨rfl, h0⟩ | ⟨g, cap, cur, rfl, hg, hc, hr⟩⟩ := h
    · exact ⟨hl, .inl ⟨rfl, h0⟩⟩
    · exact ⟨hl, .inr ⟨g, cap, cur, rfl, hg, (k g rfl).trans hc, hr⟩⟩
theorem ext_block {W W' : World} (x : Ext W W') {b : Nat} (h : b < W.heap.size) : W'.heap[b]? = W.heap[b]? := by
  cases e : W.heap[b]? with
  | some o => exact block_ext x e
  | none =>
    have := Array.getElem?_eq_none_iff.1 e
    omega
theorem Res.ok.ext {base : Nat} {W W' : World} {x : Res} (h : x.ok base W) (e : Ext W W') : x.ok base W' :=
  h.keep fun _ hb => ext_block e (h.lt hb).2
/-- The world has grown, and so has the unchanging memory, by what is new. -/
structure Grow (H : Hp) (W : World) (H' : Hp) (W' : World) : Prop where
  ext : Ext W W'
  up : ∀ b o, H b = some o → H' b = some o
  new : ∀ b, H b = none → b < W.heap.size → H' b = none
  agr : Agr H' W'
theorem Grow.pure {H : Hp} {W W' : World} (h : Agr H W) (x : Ext W W') : Grow H W H W' := ⟨x, fun _ _ e => e, fun _ e _ => e, h.ext x⟩
theorem St.grow {H H' : Hp} {w0 W W' : World} {bs : List Res} (h : St H w0 bs W) (g : Grow H W H' W') : St H' w0 bs W' :=
  ⟨h.ext.trans g.ext, g.agr, fun x hx => ⟨(h.own x hx).1.ext g.ext, fun b e => g.new b ((h.own x hx).2 b e) ((h.own x hx).1.lt e).2⟩, h.apart⟩
theorem St.more {H : Hp} {w0 W W' : World} {bs : List Res} (h : St H w0 bs W) (x : Ext W W') : St H w0 bs W' := h.grow (.pure h.agr x)
theorem St.start {H : Hp} {w : World} (h : Agr H w) : St H w [] w := ⟨Ext.refl w, h, (fun _ hx => by cases hx), List.Pairwise.nil⟩
theorem Agr.lt {H : Hp} {W : World} (h : Agr H W) {b : Nat} (hb : W.heap.size ≤ b) : H b = none := by
  cases e : H b with
  | none => rfl
  | some o => have := block_lt (h b o e); omega
/-- A new block. -/
theorem St.alloc {H : Hp} {w0 W : World} {bs : List Res} (h : St H w0 bs W) (l : List Value) (t : TypeId) :
    St H w0 (.box W.heap.size l t :: bs) (W.alloc (.cells l.toArray t)) := by
  have hx : Ext W (W.alloc (.cells l.toArray t)) := (Ext.refl W).alloc _
  have k := h.more hx
  refine ⟨k.ext, k.agr, ?_, .cons ?_ h.apart⟩
  · intro x hm
    rcases List.mem_cons.1 hm with rfl | hm
    · refine ⟨⟨h.ext.size, ?_⟩, fun b e => ?_⟩
      · show (W.heap.push _)[W.heap.size]? = _
        simp
      · obtain rfl : W.heap.size = b := Option.some.inj e
        exact h.agr.lt (Nat.le_refl _)
    · exact k.own x hm
  · intro y hy b e e'
    obtain rfl : W.heap.size = b := Option.some.inj e
    have := ((h.own y hy).1.lt e').2
    omega
/-- One resource is put in another one's place. -/
inductive Upd : List Res → Res → Res → List Res → Prop where
  | head {x y : Res} {r : List Res} : Upd (x :: r) x y (y :: r)
  | tail {x y z : Res} {r r' : List Res} : Upd r x y r' → Upd (z :: r) x y (z :: r')
theorem Upd.mem {bs bs' : List Res} {x y : Res} (h : Upd bs x y bs') : x ∈ bs := by
  induction h with
  | head => exact .head _
  | tail _ ih => exact .tail _ ih
theorem Upd.from {bs bs' : List Res} {x y : Res} (h : Upd bs x y bs') : ∀ z ∈ bs', z = y ∨ z ∈ bs := by
  induction h with
  | head =>
    intro z hz
    rcases List.mem_cons.1 hz with rfl | hz
    · exact .inl rfl
    · exact .inr (.tail _ hz)
  | tail _ ih =>
    intro z hz
    rcases List.mem_cons.1 hz with rfl | hz
    · exact .inr (.head _)
    · exact (ih z hz).imp id (.tail _)
/-- The others of the list lie apart from the one that is replaced; the new list is apart if the new one is apart from them. -/
theorem Upd.apart {bs bs' : List Res} {x y : Res} (h : Upd bs x y bs') (ap : bs.Pairwise Res.apart) : ∃ o : List Res, (∀ z ∈ o, z ∈ bs ∧ x.apart z) ∧ (∀ z ∈ bs', z = y ∨ z ∈ o) ∧ ((∀ z ∈ o, y.apart z) → bs'.Pairwise Res.apart) := by
  induction h with
  | @head x y r =>
    cases ap with
    | cons h1 h2 => exact ⟨r, fun z hz => ⟨.tail _ hz, h1 z hz⟩, fun z hz => List.mem_cons.1 hz, fun k => .cons k h2⟩
  | @tail x y z r r' hu ih =>
    cases ap with
    | cons h1 h2 =>
      obtain ⟨o, p1, p2, p3⟩ := ih h2
      refine ⟨z :: o, ?_, ?_, ?_⟩
      · intro u hu'
        rcases List.mem_cons.1 hu' with rfl | hm
        · exact ⟨.head _, (h1 x hu.mem).symm⟩
        · exact ⟨.tail _ (p1 u hm).1, (p1 u hm).2⟩
      · intro u hu'
        rcases List.mem_cons.1 hu' with rfl | hm
        · exact .inr (.head _)
        · exact (p2 u hm).imp id (.tail _)
      · intro k
        refine .cons ?_ (p3 fun u hm => k u (.tail _ hm))
        intro u hm
        rcases p2 u hm with rfl | hm
        · exact (k z (.head _)).symm
        · exact h1 u (p1 u hm).1 |> fun q => q
/-- Only the block of the resource x changes, or new ones come. -/
theorem St.upd {H : Hp} {w0 W W' : World} {bs bs' : List Res} {x y : Res} (h : St H w0 bs W) (u : Upd bs x y bs') (hx : Ext w0 W') (_ : W.heap.size ≤ W'.heap.size)
    (hk : ∀ b, b < W.heap.size → x.blk ≠ some b → W'.heap[b]? = W.heap[b]?) (hy : y.ok w0.heap.size W')
    (hb : ∀ b, y.blk = some b → x.blk = some b ∨ W.heap.size ≤ b) : St H w0 bs' W' := by
  obtain ⟨o, p1, p2, p3⟩ := u.apart h.apart
  have keep : ∀ z ∈ o, ∀ b, z.blk = some b → W'.heap[b]? = W.heap[b]? := fun z hz b e =>
    hk b ((h.own z (p1 z hz).1).1.lt e).2 (fun e' => (p1 z hz).2 b e' e)
  refine ⟨hx, ?_, ?_, ?_⟩
  · intro b ob e
    have hb := h.agr b ob e
    rw [hk b (block_lt hb) (fun e' => by
      have := (h.own x u.mem).2 b e'
      rw [this] at e; cases e)]
    exact hb
  · intro z hz
    rcases p2 z hz with rfl | hz
    · refine ⟨hy, fun b e => ?_⟩
      rcases hb b e with e' | e'
      · exact (h.own x u.mem).2 b e'
      · exact h.agr.lt e'
    · exact ⟨(h.own z (p1 z hz).1).1.keep (keep z hz), (h.own z (p1 z hz).1).2⟩
  · refine p3 fun z hz b e e' => ?_
    rcases hb b e with e2 | e2
    · exact (p1 z hz).2 b e2 e'
    · have := ((h.own z (p1 z hz).1).1.lt e').2
      omega
theorem setCell_heap (W : World) (b off : Nat) (v : Value) (c : Nat) : (W.setCell ⟨b, off, none⟩ v).heap[c]? = if c = b then (W.heap[c]?).map (fun | .cells cs e f => .cells (cs.setIfInBounds off v) e f | o => o) else W.heap[c]? := by
  unfold World.setCell
  rw [Array.getElem?_modify]
  by_cases h : b = c
  · subst h
    simp only [if_true]
    congr 1
  · rw [if_neg h, if_neg (Ne.symm h)]
theorem St.set {H : Hp} {w0 W : World} {bs bs' : List Res} {b off : Nat} {l l' : List Value} {t : TypeId} {v : Value} (h : St H w0 bs W) (u : Upd bs (.box b l t) (.box b l' t) bs') (hl : l.set off v = l') :
    St H w0 bs' (W.setCell ⟨b, off, none⟩ v) := by
  have hm := h.own _ u.mem
  have hW : W.heap[b]? = some (.cells l.toArray t (0, 0)) := hm.1.2
  have hz : (W.setCell ⟨b, off, none⟩ v).heap.size = W.heap.size := by simp [World.setCell]
  refine h.upd u (h.ext.setCell hm.1.1 v) (by omega) ?_ ⟨hm.1.1, ?_⟩ (fun c e => .inl e)
  · intro c _ hn
    rw [setCell_heap, if_neg (fun e => hn (by rw [e]; rfl))]
  · rw [setCell_heap, if_pos rfl, hW]
    simp [← hl]
theorem St.cell {H : Hp} {w0 W : World} {bs : List Res} {b off : Nat} {l : List Value} {t : TypeId} {v : Value} (h : St H w0 bs W) (hm : Res.box b l t ∈ bs) (hv : l[off]? = some v) :
    W.cell? ⟨b, off, none⟩ = some v ∧ W.frozen? ⟨b, off, none⟩ = false := by
  have hW : W.heap[b]? = some (.cells l.toArray t (0, 0)) := (h.own _ hm).1.2
  exact ⟨by rw [box_cell hW]; simpa using hv, box_free hW off⟩
theorem Upd.mid {bs bs' : List Res} {x z : Res} (h : Upd bs x z bs') (y : Res) : ∃ bs1, Upd bs x y bs1 ∧ Upd bs1 y z bs' := by
  induction h with
  | head => exact ⟨_, .head, .head⟩
  | tail _ ih => obtain ⟨b1, h1, h2⟩ := ih; exact ⟨_, .tail h1, .tail h2⟩
def setsL (l : List Value) : Nat → List Value → List Value
  | _, [] => l
  | off, v :: r => setsL (l.set off v) (off + 1) r
theorem St.sets {H : Hp} {w0 : World} {b : Nat} {t : TypeId} : ∀ (vs : List Value) (off : Nat) (l : List Value) (W : World) (bs bs' : List Res), St H w0 bs W → Upd bs (.box b l t) (.box b (setsL l off vs) t) bs' → St H w0 bs' (W.setCells b off vs)
  | [], off, l, W, bs, bs', h, u => by
    have : bs' = bs := by
      have h2 : ∀ {bs bs' : List Res} {x y : Res}, Upd bs x y bs' → x = y → bs' = bs := fun u => by
        induction u with
        | head => intro e; rw [e]
        | tail _ ih => intro e; rw [ih e]
      exact h2 u rfl
    rw [this]
    exact h
  | v :: r, off, l, W, bs, bs', h, u => by
    obtain ⟨b1, u1, u2⟩ := u.mid (.box b (l.set off v) t)
    exact St.sets r (off + 1) (l.set off v) _ b1 bs' (h.set u1 rfl) u2
theorem setsL_all : ∀ (vs p l : List Value), l.length = vs.length → setsL (p ++ l) p.length vs = p ++ vs
  | [], p, l, h => by obtain rfl : l = [] := List.eq_nil_of_length_eq_zero h; rfl
  | v :: r, p, l, h => by
    match l, h with
    | x :: l, h =>
      unfold setsL
      rw [List.set_append_right _ _ (Nat.le_refl _), Nat.sub_self, List.set_cons_zero]
      have := setsL_all r (p ++ [v]) l (by simpa using h)
      simpa using this
theorem Agr.cell {H : Hp} {W : World} (h : Agr H W) {b off : Nat} {cs : Array Value} {t : TypeId} {m : Nat × Nat} {v : Value} (hb : H b = some (.cells cs t m)) (hv : cs[off]? = some v) :
    W.cell? ⟨b, off, none⟩ = some v := by
  rw [cell_of_row W b off cs t m (h b _ hb)]
  exact hv

/-- Whatever frame and world fit the description. -/
def At (n : Nat) (L : Sl) (H : Hp) (w0 : World) (bs : List Res) (G : Act → World → Prop) : Prop := ∀ a W, Fr n L a → St H w0 bs W → G a W

section
variable {P : Program} {n : Nat} {L : Sl} {H : Hp} {w0 : World} {bs : List Res} {Q : Exit → Act → World → Prop} {ops : Array Oper} {rest : List Oper}

def slots : Nat → List Value → Sl
  | _, [] => []
  | k, v :: r => (k, v) :: slots (k + 1) r
theorem slots_low : ∀ (l : List Value) (k t : Nat), t < k → look (slots k l) t = none
  | [], _, _, _ => rfl
  | v :: r, k, t, h => by
    unfold slots look
    have hb : Nat.beq k t = false := by
      cases hb : Nat.beq k t
      · rfl
      · have := Nat.eq_of_beq_eq_true hb; omega
    rw [hb, cond_false]
    exact slots_low r (k + 1) t (by omega)
theorem slots_at : ∀ (l : List Value) (k t : Nat) (v : Value), look (slots k l) t = some v → k ≤ t ∧ l[t - k]? = some v
  | [], _, _, _, e => by cases e
  | u :: r, k, t, v, e => by
    unfold slots look at e
    cases hb : Nat.beq k t
    · rw [hb, cond_false] at e
      obtain ⟨h1, h2⟩ := slots_at r (k + 1) t v e
      refine ⟨by omega, ?_⟩
      rw [show t - k = (t - (k + 1)) + 1 by omega]
      simpa using h2
    · rw [hb, cond_true] at e
      have := Nat.eq_of_beq_eq_true hb
      subst this
      simpa using e
theorem enter {f : FuncId} {fn : Func} {c : Code} {args : List Value} {w : World} {R : Ending → World → Prop} (hf : P.funcs[f]? = some fn) (hb : fn.body = some c) (hn : fn.ntmps = n) (hl : Nat.ble args.length n = true) (hA : Agr H w)
    (h : At n (slots 0 args) H w [] (c.wp P (bodyPost P fn R))) : Calls P f args.toArray w R := by
  refine calls_of_wp hf hb (h _ _ ⟨?_, rfl, ?_⟩ (.start hA))
  · have : args.length ≤ n := Nat.le_of_ble_eq_true hl
    simp [hn]; omega
  · intro t v e
    obtain ⟨_, h2⟩ := slots_at args 0 t v e
    rw [Nat.sub_zero] at h2
    have hlt : t < args.length := (List.getElem?_eq_some_iff.1 h2).1
    rw [Array.getD_eq_getD_getElem?]
    rw [Array.getElem?_append_left (by simpa using hlt)]
    simp [h2]

theorem seq {x y : Code} (h : At n L H w0 bs (x.wp P (Exit.then (y.wp P Q) Q))) : At n L H w0 bs ((Code.seq x y).wp P Q) := fun a W f s => wp_seq (h a W f s)
theorem cut {x y : Code} (M : Act → World → Prop) (h : At n L H w0 bs (x.wp P (Exit.then M Q))) (k : ∀ a W, M a W → y.wp P Q a W) : At n L H w0 bs ((Code.seq x y).wp P Q) :=
  fun a W f s => wp_seq (wp_mono (h a W f s) fun e a' W' q => by cases e <;> first | exact q | exact k _ _ q)
theorem blk {id : Nat} {c : Code} (h : At n L H w0 bs (c.wp P (Exit.inBlock id Q))) : At n L H w0 bs ((Code.block id c).wp P Q) := fun a W f s => wp_block (h a W f s)
theorem skip (h : At n L H w0 bs (Q .normal)) : At n L H w0 bs (Code.skip.wp P Q) := fun a W f s => wp_skip (h a W f s)
theorem ret (h : At n L H w0 bs (Q .ret)) : At n L H w0 bs (Code.ret.wp P Q) := fun a W f s => wp_ret (h a W f s)
theorem exit {id : Nat} (h : At n L H w0 bs (Q (.exit id))) : At n L H w0 bs ((Code.exit id).wp P Q) := fun a W f s => wp_exit (h a W f s)
theorem cond {c : Operand} {x y : Code} {t : Bool} (hc : ev L c = some (.bool t)) (h1 : t = true → At n L H w0 bs (x.wp P Q)) (h2 : t = false → At n L H w0 bs (y.wp P Q)) : At n L H w0 bs ((Code.cond c x y).wp P Q) :=
  fun a W f s => wp_cond_split (f.ev hc) (fun e => h1 e a W f s) (fun e => h2 e a W f s)
theorem condT {c : Operand} {x y : Code} (hc : ev L c = some (.bool true)) (h : At n L H w0 bs (x.wp P Q)) : At n L H w0 bs ((Code.cond c x y).wp P Q) := cond hc (fun _ => h) (fun e => by cases e)
theorem condF {c : Operand} {x y : Code} (hc : ev L c = some (.bool false)) (h : At n L H w0 bs (y.wp P Q)) : At n L H w0 bs ((Code.cond c x y).wp P Q) := cond hc (fun e => by cases e) (fun _ => h)
theorem region {id : Nat} {l : List Oper} (h : At n L H w0 bs (wpList P l.toArray Q l)) : At n L H w0 bs ((Code.region id l.toArray false).wp P Q) := fun a W f s => wp_region_lit (h a W f s)
theorem nil (h : At n L H w0 bs (Q .normal)) : At n L H w0 bs (wpList P ops Q []) := fun a W f s => wpList_nil (h a W f s)
theorem thenN {K : Act → World → Prop} (h : At n L H w0 bs K) : At n L H w0 bs (Exit.then K Q .normal) := h
theorem thenR {K : Act → World → Prop} (h : At n L H w0 bs (Q .ret)) : At n L H w0 bs (Exit.then K Q .ret) := h
theorem thenE {K : Act → World → Prop} {id : Nat} (h : At n L H w0 bs (Q (.exit id))) : At n L H w0 bs (Exit.then K Q (.exit id)) := h
theorem blkN {id : Nat} (h : At n L H w0 bs (Q .normal)) : At n L H w0 bs (Exit.inBlock id Q .normal) := h
theorem blkR {id : Nat} (h : At n L H w0 bs (Q .ret)) : At n L H w0 bs (Exit.inBlock id Q .ret) := h
theorem blkE {id : Nat} (h : At n L H w0 bs (Q .normal)) : At n L H w0 bs (Exit.inBlock id Q (.exit id)) := fun a W f s => by simp only [Exit.inBlock, if_true]; exact h a W f s
theorem blkO {id id' : Nat} (hne : Nat.beq id' id = false) (h : At n L H w0 bs (Q (.exit id'))) : At n L H w0 bs (Exit.inBlock id Q (.exit id')) := fun a W f s => by
  have : id' ≠ id := fun e => by subst e; simp at hne
  simp only [Exit.inBlock, if_neg this]; exact h a W f s
/-- The loop: at every round's head the state is described by an x of X. -/
theorem loop {c : Code} {X : Type} (L' : X → Sl) (H' : X → Hp) (bs' : X → List Res) (C : X → Prop) (μ : X → Nat) (x0 : X) (hC : C x0) (hL : Sub L (L' x0)) (hB : ∀ W, St H w0 bs W → St (H' x0) w0 (bs' x0) W)
    (round : ∀ x, C x → At n (L' x) (H' x) w0 (bs' x) (c.wp P (Exit.then (fun a W => ∃ y, (C y ∧ μ y < μ x) ∧ Fr n (L' y) a ∧ St (H' y) w0 (bs' y) W) Q))) :
    At n L H w0 bs ((Code.loop c).wp P Q) := by
  intro a W f s
  refine wp_loop_ghost (fun m a W => ∃ x, μ x = m ∧ C x ∧ Fr n (L' x) a ∧ St (H' x) w0 (bs' x) W) _ ⟨x0, rfl, hC, f.sub hL, hB W s⟩ ?_
  rintro m a W ⟨x, rfl, hx, f, s⟩
  refine wp_mono (round x hx a W f s) fun e a' W' q => ?_
  cases e <;> first | exact q | skip
  obtain ⟨y, ⟨hy, hlt⟩, fy, sy⟩ := q
  exact ⟨_, hlt, y, rfl, hy, fy, sy⟩
end
end Go.Sx
