/- Entering with a described state; bits, shifts and quotients; made rows. -/
import Derived.Test.YtnmickfdflinpaaDoorSw
import Derived.Laws.MakeOwn
namespace Go.Sx
open Go.RowKit Go.Par
section
variable {P : Program} {n : Nat} {L : Sl} {H : Hp} {w0 : World} {bs : List Res} {Q : Exit → Act → World → Prop} {ops : Array Oper} {K : Act → World → Prop}
variable {d : Option Tmp} {ty : TypeId} {pos : String} {aft : Array Edge} {g : Option (Nat × Bool)} {v : Value} {t : Tmp} {op : Op} {x y z : Operand} {T T' : TypeId}
theorem enterS {f : FuncId} {fn : Func} {c : Code} {args : List Value} {W : World} {R : Ending → World → Prop} (hf : P.funcs[f]? = some fn) (hb : fn.body = some c) (hn : fn.ntmps = n) (hl : Nat.ble args.length n = true) (s : St H w0 bs W)
    (h : At n (slots 0 args) H w0 bs (c.wp P (bodyPost P fn R))) : Calls P f args.toArray W R := by
  refine calls_of_wp hf hb (h _ _ ⟨?_, rfl, ?_⟩ s)
  · have : args.length ≤ n := Nat.le_of_ble_eq_true hl
    simp [hn]; omega
  · intro t v e
    obtain ⟨_, h2⟩ := slots_at args 0 t v e
    rw [Nat.sub_zero] at h2
    have hlt : t < args.length := (List.getElem?_eq_some_iff.1 h2).1
    rw [Array.getD_eq_getD_getElem?]
    rw [Array.getElem?_append_left (by simpa using hlt)]
    simp [h2]
theorem St.sublist {bs' : List Res} {W : World} (h : St H w0 bs W) (hs : bs'.Sublist bs) : St H w0 bs' W :=
  ⟨h.ext, h.agr, fun x hx => h.own x (hs.subset hx), h.apart.sublist hs⟩
/-- The same state, told from a later world on: what lies above it is owned from there. -/
theorem St.swap {a b : Res} {W : World} (h : St H w0 (a :: b :: bs) W) : St H w0 (b :: a :: bs) W :=
  ⟨h.ext, h.agr, fun x hx => h.own x (by simp at hx ⊢; rcases hx with h | h | h <;> simp [h]), by
    have h1 := h.apart
    simp only [List.pairwise_cons] at h1 ⊢
    obtain ⟨h2, h3, h4⟩ := h1
    refine ⟨fun c hc => ?_, fun c hc => h2 c (by simp [hc]), h4⟩
    rcases List.mem_cons.1 hc with rfl | hc
    · exact (h2 b (by simp)).symm
    · exact h3 c hc⟩
section ints
variable {k k' : IntKind} {i j c : Int}
theorem Yl.quo (hx : ev L x = some (.int k i)) (hy : ev L y = some (.int k j)) (h0 : j ≠ 0) (hw : k.wrap (i.tdiv j) = c) : Yl P L H w0 bs ⟨d, .binOp .quo T x y T', ty, pos, aft, g⟩ (.int k c) := .of_run fun a W f _ => by
  unfold execOp; simp [f x _ hx, f y _ hy, eqGuard, binOp, Op.intDiv, hw, h0]
theorem Yl.rem (hx : ev L x = some (.int k i)) (hy : ev L y = some (.int k j)) (h0 : j ≠ 0) (hw : i.tmod j = c) : Yl P L H w0 bs ⟨d, .binOp .rem T x y T', ty, pos, aft, g⟩ (.int k c) := .of_run fun a W f _ => by
  unfold execOp; simp [f x _ hx, f y _ hy, eqGuard, binOp, Op.intDiv, hw, h0]
theorem Yl.andI (hx : ev L x = some (.int k i)) (hy : ev L y = some (.int k j)) (hw : k.wrap ((BitVec.ofInt k.bits i &&& BitVec.ofInt k.bits j).toNat) = c) : Yl P L H w0 bs ⟨d, .binOp .and T x y T', ty, pos, aft, g⟩ (.int k c) := .of_run fun a W f _ => by
  subst hw
  unfold execOp; simp [f x _ hx, f y _ hy, eqGuard, binOp, Op.intBits]
theorem Yl.orI (hx : ev L x = some (.int k i)) (hy : ev L y = some (.int k j)) (hw : k.wrap ((BitVec.ofInt k.bits i ||| BitVec.ofInt k.bits j).toNat) = c) : Yl P L H w0 bs ⟨d, .binOp .or T x y T', ty, pos, aft, g⟩ (.int k c) := .of_run fun a W f _ => by
  subst hw
  unfold execOp; simp [f x _ hx, f y _ hy, eqGuard, binOp, Op.intBits]
theorem Yl.shl {m : Nat} (hx : ev L x = some (.int k i)) (hy : ev L y = some (.int k' j)) (hj : j = (m : Int)) (hm : m ≤ k.bits) (hw : k.wrap (i * 2 ^ m) = c) : Yl P L H w0 bs ⟨d, .binOp .shl T x y T', ty, pos, aft, g⟩ (.int k c) := .of_run fun a W f _ => by
  subst hj
  have h0 : ¬ ((m : Int) < 0) := by omega
  unfold execOp; simp [f x _ hx, f y _ hy, eqGuard, binOp, Op.shift, h0, Nat.min_eq_left hm, hw]
theorem Yl.shr {m : Nat} (hx : ev L x = some (.int k i)) (hy : ev L y = some (.int k' j)) (hj : j = (m : Int)) (hm : m ≤ k.bits) (hw : i.fdiv (2 ^ m) = c) : Yl P L H w0 bs ⟨d, .binOp .shr T x y T', ty, pos, aft, g⟩ (.int k c) := .of_run fun a W f _ => by
  subst hj
  have h0 : ¬ ((m : Int) < 0) := by omega
  unfold execOp; simp [f x _ hx, f y _ hy, eqGuard, binOp, Op.shift, h0, Nat.min_eq_left hm, hw]
end ints
/-- A load of a cell that some source holds. -/
theorem Yl.loadSrc {b off : Nat} (hp : ev L x = some (.pointer (some ⟨b, off, none⟩))) (hT : aggN P T = some none) (hs : Src H bs b off [v]) : Yl P L H w0 bs ⟨d, .load T x, ty, pos, aft, g⟩ v := .of_run fun a W f s => by
  have h1 := hs.cell s 0 v rfl
  rw [Addr.add_lit, Nat.add_zero] at h1
  unfold execOp
  simp only [f x _ hp, Instr.loadAt, Instr.sureAddr, loadVar, Sem.run_bind, Sem.run_pure, Result.andThen, run_isAgg_no hT, Bool.false_eq_true, if_false]
  rw [show (Go.load ⟨b, off, none⟩).run P W = .ok v W from by simp [Go.load, Sem.run, h1]]
theorem Src.at {b off j : Nat} {news : List Value} {u : Value} (h : Src H bs b off news) (hj : news[j]? = some u) : Src H bs b (off + j) [u] := by
  have key : ∀ {i : Nat} {w : Value}, [u][i]? = some w → news[j + i]? = some w := fun {i w} e => by
    cases i with
    | zero => simp at e; subst e; simpa using hj
    | succ i => simp at e
  cases h with
  | box hm hv => exact .box hm fun i w e => by rw [Nat.add_assoc]; exact hv _ _ (key e)
  | mem hm hv => exact .mem hm fun i w e => by rw [Nat.add_assoc]; exact hv _ _ (key e)
  | row hm hv => exact .row hm fun i w e => by rw [Nat.add_assoc]; exact hv _ _ (key e)
theorem Src.drop {b off : Nat} {news : List Value} (h : Src H bs b off news) (j : Nat) : Src H bs b (off + j) (news.drop j) := by
  have key : ∀ {i : Nat} {w : Value}, (news.drop j)[i]? = some w → news[j + i]? = some w := fun {i w} e => by rwa [List.getElem?_drop] at e
  cases h with
  | box hm hv => exact .box hm fun i w e => by rw [Nat.add_assoc]; exact hv _ _ (key e)
  | mem hm hv => exact .mem hm fun i w e => by rw [Nat.add_assoc]; exact hv _ _ (key e)
  | row hm hv => exact .row hm fun i w e => by rw [Nat.add_assoc]; exact hv _ _ (key e)
theorem Src.take {b off : Nat} {news : List Value} (h : Src H bs b off news) (j : Nat) : Src H bs b off (news.take j) := by
  have key : ∀ {i : Nat} {w : Value}, (news.take j)[i]? = some w → news[i]? = some w := fun {i w} e => by
    have hi : i < j := by
      have := (List.getElem?_eq_some_iff.1 e).1
      rw [List.length_take] at this; omega
    rwa [List.getElem?_take_of_lt hi] at e
  cases h with
  | box hm hv => exact .box hm fun i w e => hv _ _ (key e)
  | mem hm hv => exact .mem hm fun i w e => hv _ _ (key e)
  | row hm hv => exact .row hm fun i w e => hv _ _ (key e)
theorem Src.more {b off : Nat} {news : List Value} (h : Src H bs b off news) {bs' : List Res} (hs : ∀ r ∈ bs, r ∈ bs') : Src H bs' b off news := by
  cases h with
  | box hm hv => exact .box (hs _ hm) hv
  | mem hm hv => exact .mem hm hv
  | row hm hv => exact .row (hs _ hm) hv
theorem reSt {H' : Hp} {bs' : List Res} {G : Act → World → Prop} (hB : ∀ W, St H w0 bs W → St H' w0 bs' W) (h : At n L H' w0 bs' G) : At n L H w0 bs G := fun a W f s => h a W f (hB W s)
/-- An own row that is not empty has a block. -/
theorem rowCase {e : TypeId} {size k : Nat} {r : Value} {xs : List Value} {G : Act → World → Prop} (hm : Res.row e size r k xs ∈ bs) (hk : 0 < k) (h : ∀ b c, r = .slice (some ⟨b, 0, none⟩) k c → k ≤ c → At n L H w0 bs G) : At n L H w0 bs G := fun a W f s => by
  have ho : W.ownsRow w0.heap.size e size r k xs := (s.own _ hm).1
  rcases ho.2 with ⟨_, h0⟩ | ⟨g, cap, cur, hr, _, _, hn, _⟩
  · omega
  · exact h g cap hr hn a W f s
theorem yield_undef {a : Act} {j : Nat} {u : Tmp} (f : Fr n L a) (hd : (ops[j]?).bind (·.dst) = some u) (hs : look L u = some undef) : yielded ops a.tmps j = none := by
  have := f.slot u _ hs
  unfold yielded
  rw [hd]
  simp only [Option.bind_some]
  rw [Array.getD_eq_getD_getElem?] at this
  cases e : a.tmps[u]? with
  | none => rfl
  | some x => rw [e] at this; simp at this; subst this; rfl
theorem guardU {j : Nat} {b : Bool} {u : Tmp} (hd : (ops[j]?).bind (·.dst) = some u) (hs : look L u = some undef) (ht : Nat.blt t n = true) (h : At n ((t, undef) :: L) H w0 bs K) :
    At n L H w0 bs (one P ops Q ⟨some t, op, ty, pos, aft, some (j, b)⟩ K) := by
  intro a W f s
  unfold one
  rw [if_neg (by simp [Region.wanted, yield_undef f hd hs])]
  exact h _ _ (f.put ht _) s
theorem rSkipU {nn k : Nat} {fl : List Nat} {rest : List Oper} {j : Nat} {b : Bool} {u : Tmp} (hd : (ops[j]?).bind (·.dst) = some u) (hs : look L u = some undef) (ht : Nat.blt t n = true) (h : AtR n ((t, undef) :: L) H w0 bs P ops nn fl Q (k + 1) rest) :
    AtR n L H w0 bs P ops nn fl Q k (⟨some t, op, ty, pos, aft, some (j, b)⟩ :: rest) := fun a W f s =>
  Go.Par.step_skip (by simp [Region.wanted, yield_undef f hd hs]) (fun K hK => hK _ (h _ W (f.put ht _) s))
/-- make([]T, 0, c). -/
theorem make0 {e : TypeId} {size bytes c : Nat} {kl kc : IntKind} {j : Int} (hT : rowN P T = some (e, size, bytes)) (hx : ev L x = some (.int kl 0)) (hy : ev L y = some (.int kc j)) (hj : j = (c : Int)) (hc : c ≤ maxLen) (hb : bytes * c ≤ 281474976710656) (ht : Nat.blt t n = true)
    (h : ∀ b, At n ((t, .slice (some ⟨b, 0, none⟩) 0 c) :: L) H w0 (.row e size (.slice (some ⟨b, 0, none⟩) 0 c) 0 [] :: bs) K) : At n L H w0 bs (one P ops Q ⟨some t, .makeSlice T x y, ty, pos, aft, none⟩ K) := by
  subst hj
  obtain ⟨hu, i, z, hi, hz, hsz, hby, hzs, h0⟩ := rowN_spec hT
  intro a W f s
  refine one_plain rfl ?_
  obtain ⟨W', hr, ho, hg⟩ := run_make_own (P := P) W w0.heap.size T e i z size hu hi hz hsz kl kc c (by rw [hby]; exact hb) hc s.ext.size
  unfold Oper.wp execOp
  simp only [Sem.run_bind, Sem.run_pure, Result.andThen_ok, f.ev hx, f.ev hy, hr]
  refine h _ _ _ (f.put ht _) ?_
  have hx : Ext W W' := Ext.of_below ⟨hg.os, hg.tape, hg.output, hg.size, fun q hq => hg.block q hq (by simp)⟩
  have k := s.more hx
  refine ⟨k.ext, k.agr, fun q hq => ?_, .cons (fun q hq b e e' => ?_) s.apart⟩
  · rcases List.mem_cons.1 hq with rfl | hq
    · exact ⟨ho, fun b e => by
        obtain rfl : W.heap.size = b := Option.some.inj e
        exact s.agr.lt (Nat.le_refl _)⟩
    · exact k.own q hq
  · obtain rfl : W.heap.size = b := Option.some.inj e
    have := ((s.own q hq).1.lt e').2
    omega
end
end Go.Sx
