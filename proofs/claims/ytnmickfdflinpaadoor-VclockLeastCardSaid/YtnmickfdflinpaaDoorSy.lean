/- The operations of the walk by rules. -/
import Derived.Test.YtnmickfdflinpaaDoorSx
import Derived.WalkLawsBesides
import Derived.IntWalk
import Derived.ChangeKeysEq
namespace Go.Sx
open Go.RowKit Go.Par

def aggN (P : Program) (t : TypeId) : Option (Option Nat) :=
  match P.underlying t with
  | some (.struct _) | some (.array _ _) => (P.info? t).map (fun i => some i.size)
  | some _ => some none
  | none => none
def sizeN (P : Program) (t : TypeId) : Option Nat := (P.info? t).map (·.size)
def zeroN (P : Program) (t : TypeId) : Option (List Value) := (P.info? t).bind fun i => i.zero.map (·.cells.toList)
def fieldN (P : Program) (s : TypeId) (k : Nat) : Option Nat :=
  match P.underlying s with
  | some (.struct fs) => (fs[k]?).bind fun f => (sizeN P f.type).bind fun z => if z = 0 then none else some f.offset
  | _ => none
def arrN (P : Program) (t : TypeId) : Option (Nat × Nat) :=
  match P.underlying t with
  | some (.array len e) => (sizeN P e).map fun z => (len, z)
  | _ => none
def slN (P : Program) (t : TypeId) : Option Nat :=
  match P.underlying t with
  | some (.slice e) => sizeN P e
  | _ => none
def isStr (P : Program) (t : TypeId) : Bool := match P.underlying t with | some .string => true | _ => false
def intN (P : Program) (t : TypeId) : Option IntKind := match P.underlying t with | some (.int k) => some k | _ => none
def callN (P : Program) (f : FuncId) : Bool := match P.funcs[f]? with | some fn => fn.body.isSome && !(fn.name == "runtime.NumGoroutine") | none => false

section
variable {P : Program} {W : World}
theorem run_isAgg_no {t : TypeId} (h : aggN P t = some none) : (isAgg t).run P W = .ok false W := by
  unfold aggN at h
  unfold isAgg
  simp only [Sem.run_bind, underlying]
  cases hu : P.underlying t with
  | none => rw [hu] at h; cases h
  | some d =>
    rw [hu] at h
    cases d <;> simp_all [program, Sem.run, Result.andThen]
theorem run_isAgg_yes {t : TypeId} {m : Nat} (h : aggN P t = some (some m)) : (isAgg t).run P W = .ok true W ∧ (Go.sizeOf t).run P W = .ok m W := by
  unfold aggN at h
  unfold isAgg Go.sizeOf typeInfo
  simp only [Sem.run_bind, underlying]
  cases hu : P.underlying t with
  | none => rw [hu] at h; cases h
  | some d =>
    rw [hu] at h
    cases d <;> simp_all [program, Sem.run, Result.andThen] <;> (obtain ⟨i, hi, rfl⟩ := h; simp [hi])
theorem run_sizeOf {t : TypeId} {m : Nat} (h : sizeN P t = some m) : (Go.sizeOf t).run P W = .ok m W := by
  unfold sizeN at h
  unfold Go.sizeOf typeInfo
  simp only [Sem.run_bind]
  obtain ⟨i, hi, rfl⟩ := Option.map_eq_some_iff.1 h
  simp [program, Sem.run, Result.andThen, hi]
theorem run_zeroValue {t : TypeId} {l : List Value} (h : zeroN P t = some l) : ∃ z, (zeroValue t).run P W = .ok z W ∧ z.cells.toList = l := by
  unfold zeroN at h
  obtain ⟨i, hi, h2⟩ := Option.bind_eq_some_iff.1 h
  obtain ⟨z, hz, rfl⟩ := Option.map_eq_some_iff.1 h2
  refine ⟨z, ?_, rfl⟩
  unfold zeroValue typeInfo
  simp [Sem.run_bind, program, Sem.run, Result.andThen, hi, hz]
end

section
variable {P : Program} {n : Nat} {L : Sl} {H : Hp} {w0 : World} {bs : List Res} {Q : Exit → Act → World → Prop} {ops : Array Oper} {K : Act → World → Prop}
variable {d : Option Tmp} {ty : TypeId} {pos : String} {aft : Array Edge} {g : Option (Nat × Bool)} {v : Value} {t : Tmp} {op : Op}

/-- One operation, and what comes behind it. -/
def one (P : Program) (ops : Array Oper) (Q : Exit → Act → World → Prop) (o : Oper) (K : Act → World → Prop) (a : Act) (w : World) : Prop :=
  if Region.wanted o (yielded ops a.tmps) then o.wp P a w K Q ∨ (o.asks P a w ∧ LetsOut Q) else K (a.put o.dst undef) w
theorem one_plain {o : Oper} {a : Act} {w : World} (hg : o.guard = none) (h : o.wp P a w K Q) : one P ops Q o K a w := by
  unfold one
  rw [if_pos (by simp [Region.wanted, hg])]
  exact .inl h
theorem cons {o : Oper} {rest : List Oper} (h : At n L H w0 bs (one P ops Q o (wpList P ops Q rest))) : At n L H w0 bs (wpList P ops Q (o :: rest)) := h
/-- The operation yields v, and the world at most grows. -/
def Yl (P : Program) (L : Sl) (H : Hp) (w0 : World) (bs : List Res) (o : Oper) (v : Value) : Prop :=
  ∀ (a : Act) W, (∀ x u, ev L x = some u → a.eval x = u) → St H w0 bs W → Oper.quietUpon P (Ext W) W v ((execOp a.eval o).run P W)
theorem Yl.of_run {o : Oper} (h : ∀ (a : Act) W, (∀ x u, ev L x = some u → a.eval x = u) → St H w0 bs W → (execOp a.eval o).run P W = .ok (.value v) W) : Yl P L H w0 bs o v :=
  fun a W f s => by rw [h a W f s]; exact ⟨rfl, rfl⟩

theorem yl (hy : Yl P L H w0 bs ⟨some t, op, ty, pos, aft, none⟩ v) (ht : Nat.blt t n = true) (h : At n ((t, v) :: L) H w0 bs K) :
    At n L H w0 bs (one P ops Q ⟨some t, op, ty, pos, aft, none⟩ K) := by
  intro a W f s
  refine one_plain rfl ?_
  have h3 := hy a W (fun x u e => f.ev e) s
  unfold Oper.wp
  generalize (execOp a.eval ⟨some t, op, ty, pos, aft, none⟩).run P W = r at *
  cases r with
  | ok x w' =>
    cases x <;> simp only [Oper.quietUpon] at h3 <;> simp only [Oper.upon]
    case value u =>
      obtain ⟨e1, e2⟩ := h3
      subst e1 e2
      exact (h _ _ (f.put ht _) s)
    case skip =>
      obtain ⟨e1, e2⟩ := h3
      subst e1 e2
      exact (h _ _ (f.put ht _) s)
    case enter fi args =>
      obtain ⟨e1, hc⟩ := h3
      subst e1
      exact hc.mono fun e w'' ⟨he, hw''⟩ => by subst he; exact (h _ _ (f.put ht _) (s.more hw''))
  | halt x w' => simp only [Oper.quietUpon] at h3

theorem guardT {j : Nat} {b : Bool} {u : Tmp} (hd : (ops[j]?).bind (·.dst) = some u) (hs : look L u = some (.bool b)) (h : At n L H w0 bs (one P ops Q ⟨d, op, ty, pos, aft, none⟩ K)) :
    At n L H w0 bs (one P ops Q ⟨d, op, ty, pos, aft, some (j, b)⟩ K) := by
  intro a W f s
  have hq := h a W f s
  have hy : yielded ops a.tmps j = some b := by
    have := f.slot u _ hs
    unfold yielded
    rw [hd]
    simp only [Option.bind_some]
    rw [Array.getD_eq_getD_getElem?] at this
    cases e : a.tmps[u]? with
    | none => rw [e] at this; simp [undef] at this
    | some x => rw [e] at this; simp at this; subst this; rfl
  unfold one at hq ⊢
  rw [if_pos (by simp [Region.wanted])] at hq
  rw [if_pos (by simp [Region.wanted, hy])]
  exact hq
theorem guardF {j : Nat} {b c : Bool} {u : Tmp} (hd : (ops[j]?).bind (·.dst) = some u) (hs : look L u = some (.bool c)) (hne : (c == b) = false) (ht : Nat.blt t n = true) (h : At n ((t, undef) :: L) H w0 bs K) :
    At n L H w0 bs (one P ops Q ⟨some t, op, ty, pos, aft, some (j, b)⟩ K) := by
  intro a W f s
  have hy : yielded ops a.tmps j = some c := by
    have := f.slot u _ hs
    unfold yielded
    rw [hd]
    simp only [Option.bind_some]
    rw [Array.getD_eq_getD_getElem?] at this
    cases e : a.tmps[u]? with
    | none => rw [e] at this; simp [undef] at this
    | some x => rw [e] at this; simp at this; subst this; rfl
  unfold one
  rw [if_neg (by simp only [Region.wanted, hy]; simp; intro e; subst e; simp at hne)]
  exact h _ _ (f.put ht _) s
theorem bool {p : Bool} {G : Act → World → Prop} (h1 : p = true → At n ((t, .bool true) :: L) H w0 bs G) (h2 : p = false → At n ((t, .bool false) :: L) H w0 bs G) : At n ((t, .bool p) :: L) H w0 bs G := by
  cases p
  · exact h2 rfl
  · exact h1 rfl

theorem Yl.move {x : Operand} (hx : ev L x = some v) : Yl P L H w0 bs ⟨d, .move x, ty, pos, aft, g⟩ v := .of_run fun a W f _ => by unfold execOp; simp [f x _ hx]
theorem Yl.assign {x : Operand} (hx : ev L x = some v) : Yl P L H w0 bs ⟨d, .assign x, ty, pos, aft, g⟩ v := .of_run fun a W f _ => by unfold execOp; simp [f x _ hx]
theorem Yl.pickT {c x y : Operand} (hc : ev L c = some (.bool true)) (hx : ev L x = some v) : Yl P L H w0 bs ⟨d, .pick c x y, ty, pos, aft, g⟩ v := .of_run fun a W f _ => by unfold execOp; simp [f x _ hx, f c _ hc, asBool]
theorem Yl.pickF {c x y : Operand} (hc : ev L c = some (.bool false)) (hy : ev L y = some v) : Yl P L H w0 bs ⟨d, .pick c x y, ty, pos, aft, g⟩ v := .of_run fun a W f _ => by unfold execOp; simp [f y _ hy, f c _ hc, asBool]
theorem Yl.pick {c x y : Operand} {p q r : Bool} (hc : ev L c = some (.bool p)) (hx : ev L x = some (.bool q)) (hy : ev L y = some (.bool r)) : Yl P L H w0 bs ⟨d, .pick c x y, ty, pos, aft, g⟩ (.bool (if p then q else r)) := .of_run fun a W f _ => by
  unfold execOp; simp [f y _ hy, f c _ hc, f x _ hx, asBool]

section ints
variable {x y : Operand} {k : IntKind} {i j c : Int} {T T' : TypeId}
theorem Yl.lss (hx : ev L x = some (.int k i)) (hy : ev L y = some (.int k j)) : Yl P L H w0 bs ⟨d, .binOp .lss T x y T', ty, pos, aft, g⟩ (.bool (decide (i < j))) := .of_run fun a W f _ => by
  unfold execOp; simp [f x _ hx, f y _ hy, eqGuard, binOp, Op.intCmp]
theorem Yl.leq (hx : ev L x = some (.int k i)) (hy : ev L y = some (.int k j)) : Yl P L H w0 bs ⟨d, .binOp .leq T x y T', ty, pos, aft, g⟩ (.bool (decide (i ≤ j))) := .of_run fun a W f _ => by
  unfold execOp; simp [f x _ hx, f y _ hy, eqGuard, binOp, Op.intCmp]
theorem Yl.gtr (hx : ev L x = some (.int k i)) (hy : ev L y = some (.int k j)) : Yl P L H w0 bs ⟨d, .binOp .gtr T x y T', ty, pos, aft, g⟩ (.bool (decide (j < i))) := .of_run fun a W f _ => by
  unfold execOp; simp [f x _ hx, f y _ hy, eqGuard, binOp, Op.intCmp]
theorem Yl.geq (hx : ev L x = some (.int k i)) (hy : ev L y = some (.int k j)) : Yl P L H w0 bs ⟨d, .binOp .geq T x y T', ty, pos, aft, g⟩ (.bool (decide (j ≤ i))) := .of_run fun a W f _ => by
  unfold execOp; simp [f x _ hx, f y _ hy, eqGuard, binOp, Op.intCmp]
theorem Yl.eql (hx : ev L x = some (.int k i)) (hy : ev L y = some (.int k j)) : Yl P L H w0 bs ⟨d, .binOp .eql T x y T', ty, pos, aft, g⟩ (.bool (decide (i = j))) := .of_run fun a W f _ => by
  unfold execOp; simp [f x _ hx, f y _ hy, eqGuard, binOp, Op.intCmp]; rfl
theorem Yl.neq (hx : ev L x = some (.int k i)) (hy : ev L y = some (.int k j)) : Yl P L H w0 bs ⟨d, .binOp .neq T x y T', ty, pos, aft, g⟩ (.bool (decide (¬ i = j))) := .of_run fun a W f _ => by
  unfold execOp; simp [f x _ hx, f y _ hy, eqGuard, binOp, Op.intCmp, bne]; rfl
theorem Yl.add (hx : ev L x = some (.int k i)) (hy : ev L y = some (.int k j)) (hw : k.wrap (i + j) = c) : Yl P L H w0 bs ⟨d, .binOp .add T x y T', ty, pos, aft, g⟩ (.int k c) := .of_run fun a W f _ => by
  unfold execOp; simp [f x _ hx, f y _ hy, eqGuard, binOp, Op.intArith, hw]
theorem Yl.sub (hx : ev L x = some (.int k i)) (hy : ev L y = some (.int k j)) (hw : k.wrap (i - j) = c) : Yl P L H w0 bs ⟨d, .binOp .sub T x y T', ty, pos, aft, g⟩ (.int k c) := .of_run fun a W f _ => by
  unfold execOp; simp [f x _ hx, f y _ hy, eqGuard, binOp, Op.intArith, hw]
theorem Yl.mul (hx : ev L x = some (.int k i)) (hy : ev L y = some (.int k j)) (hw : k.wrap (i * j) = c) : Yl P L H w0 bs ⟨d, .binOp .mul T x y T', ty, pos, aft, g⟩ (.int k c) := .of_run fun a W f _ => by
  unfold execOp; simp [f x _ hx, f y _ hy, eqGuard, binOp, Op.intArith, hw]
theorem Yl.conv {k' : IntKind} (hx : ev L x = some (.int k i)) (hT : intN P T = some k) (hT' : intN P T' = some k') (hw : k'.wrap i = c) : Yl P L H w0 bs ⟨d, .convert T T' x, ty, pos, aft, g⟩ (.int k' c) := .of_run fun a W f _ => by
  have h1 : P.underlying T = some (.int k) := by
    unfold intN at hT
    cases hu : P.underlying T with
    | none => rw [hu] at hT; cases hT
    | some e => rw [hu] at hT; cases e <;> simp_all
  have h2 : P.underlying T' = some (.int k') := by
    unfold intN at hT'
    cases hu : P.underlying T' with
    | none => rw [hu] at hT'; cases hT'
    | some e => rw [hu] at hT'; cases e <;> simp_all
  unfold execOp; simp [f x _ hx, convert, underlying, program, Sem.run, h1, h2, Conv.intToInt, hw]
end ints
theorem Yl.not {x : Operand} {T : TypeId} {p : Bool} (hx : ev L x = some (.bool p)) : Yl P L H w0 bs ⟨d, .unOp .not T x, ty, pos, aft, g⟩ (.bool (!p)) := .of_run fun a W f _ => by
  unfold execOp; simp [f x _ hx, Op.unary]

section mem
variable {x y : Operand} {b off m : Nat} {l : List Value} {T t' : TypeId}
theorem loadCells_box {W : World} {vs : List Value} (hW : W.heap[b]? = some (.cells l.toArray t' (0, 0))) (hv : ∀ j u, vs[j]? = some u → l[off + j]? = some u) : (loadCells ⟨b, off, none⟩ vs.length).run P W = .ok vs.toArray W :=
  run_loadCells_list W _ vs fun j u e => by
    rw [Addr.add_lit, box_cell hW]
    simpa using hv j u e
theorem Yl.load (hp : ev L x = some (.pointer (some ⟨b, off, none⟩))) (hT : aggN P T = some none) (hm : Res.box b l t' ∈ bs) (hv : l[off]? = some v) : Yl P L H w0 bs ⟨d, .load T x, ty, pos, aft, g⟩ v := .of_run fun a W f s => by
  unfold execOp
  simp only [f x _ hp, Instr.loadAt, Instr.sureAddr, loadVar, Sem.run_bind, Sem.run_pure, Result.andThen, run_isAgg_no hT, Bool.false_eq_true, if_false]
  rw [show (Go.load ⟨b, off, none⟩).run P W = .ok v W from by simp [Go.load, Sem.run, (s.cell hm hv).1]]
theorem Yl.loadH {cs : Array Value} {mk : Nat × Nat} (hp : ev L x = some (.pointer (some ⟨b, off, none⟩))) (hT : aggN P T = some none) (hm : H b = some (.cells cs t' mk)) (hv : cs[off]? = some v) : Yl P L H w0 bs ⟨d, .load T x, ty, pos, aft, g⟩ v := .of_run fun a W f s => by
  unfold execOp
  simp only [f x _ hp, Instr.loadAt, Instr.sureAddr, loadVar, Sem.run_bind, Sem.run_pure, Result.andThen, run_isAgg_no hT, Bool.false_eq_true, if_false]
  rw [show (Go.load ⟨b, off, none⟩).run P W = .ok v W from by simp [Go.load, Sem.run, s.agr.cell hm hv]]
theorem Yl.loadS {vs : List Value} (hp : ev L x = some (.pointer (some ⟨b, off, none⟩))) (hT : aggN P T = some (some m)) (hm : Res.box b l t' ∈ bs) (hl : vs.length = m) (hv : ∀ j u, vs[j]? = some u → l[off + j]? = some u) : Yl P L H w0 bs ⟨d, .load T x, ty, pos, aft, g⟩ (.agg vs.toArray) := .of_run fun a W f s => by
  have hW : W.heap[b]? = some (.cells l.toArray t' (0, 0)) := (s.own _ hm).1.2
  obtain ⟨h1, h2⟩ := run_isAgg_yes (W := W) hT
  subst hl
  unfold execOp
  simp only [f x _ hp, Instr.loadAt, Instr.sureAddr, loadVar, Sem.run_bind, Sem.run_pure, Result.andThen, h1, h2, if_true, loadCells_box hW hv]
/-- The whole box. -/
theorem Yl.loadW (hp : ev L x = some (.pointer (some ⟨b, 0, none⟩))) (hT : aggN P T = some (some m)) (hm : Res.box b l t' ∈ bs) (hl : l.length = m) : Yl P L H w0 bs ⟨d, .load T x, ty, pos, aft, g⟩ (.agg l.toArray) :=
  .loadS hp hT hm hl fun j u e => by rw [Nat.zero_add]; exact e
theorem Yl.fieldAddr {o i : Nat} (hp : ev L x = some (.pointer (some ⟨b, off, none⟩))) (hF : fieldN P T i = some o) : Yl P L H w0 bs ⟨d, .fieldAddr T x i, ty, pos, aft, g⟩ (.pointer (some ⟨b, off + o, none⟩)) := .of_run fun a W f s => by
  unfold fieldN at hF
  cases hu : P.underlying T with
  | none => rw [hu] at hF; cases hF
  | some e =>
    rw [hu] at hF
    cases e <;> simp only [reduceCtorEq] at hF
    rename_i fs
    obtain ⟨fl, hf, h2⟩ := Option.bind_eq_some_iff.1 hF
    obtain ⟨z, hz, h3⟩ := Option.bind_eq_some_iff.1 h2
    split at h3
    · cases h3
    · rename_i hz0
      obtain rfl := Option.some.inj h3
      unfold execOp
      simp [f x _ hp, Instr.fieldAt, underlying, program, Sem.run, Result.andThen, hu, hf, fieldPlace, Instr.sureAddr, run_sizeOf hz, hz0, Addr.add_lit]
theorem Yl.indexArr {k : IntKind} {i len z q : Nat} {ii : Int} (hT : arrN P T = some (len, z)) (hp : ev L x = some (.pointer (some ⟨b, off, none⟩))) (hi : ev L y = some (.int k ii)) (e : ii = (i : Int)) (h : i < len) (hq : off + i * z = q) :
    Yl P L H w0 bs ⟨d, .indexAddr T x y, ty, pos, aft, g⟩ (.pointer (some ⟨b, q, none⟩)) := .of_run fun a W f s => by
  subst hq e
  unfold arrN at hT
  cases hu : P.underlying T with
  | none => rw [hu] at hT; cases hT
  | some e =>
    rw [hu] at hT
    cases e <;> simp only [reduceCtorEq] at hT
    rename_i len' el
    obtain ⟨z', hz, h3⟩ := Option.map_eq_some_iff.1 hT
    obtain ⟨rfl, rfl⟩ := Prod.mk.inj h3
    unfold execOp
    simp [f x _ hp, f y _ hi, Instr.indexAt, asIntOf, underlying, program, Sem.run, Result.andThen, hu, Instr.sureAddr, run_sizeOf hz, h, Addr.add_lit]
theorem Yl.indexSl {k : IntKind} {i len c z q : Nat} {ii : Int} (hT : slN P T = some z) (hp : ev L x = some (.slice (some ⟨b, off, none⟩) len c)) (hi : ev L y = some (.int k ii)) (e : ii = (i : Int)) (h : i < len) (hq : off + i * z = q) :
    Yl P L H w0 bs ⟨d, .indexAddr T x y, ty, pos, aft, g⟩ (.pointer (some ⟨b, q, none⟩)) := .of_run fun a W f s => by
  subst hq e
  unfold slN at hT
  cases hu : P.underlying T with
  | none => rw [hu] at hT; cases hT
  | some e =>
    rw [hu] at hT
    cases e <;> simp only [reduceCtorEq] at hT
    rename_i el
    unfold execOp
    simp [f x _ hp, f y _ hi, Instr.indexAt, asIntOf, underlying, program, Sem.run, Result.andThen, hu, run_sizeOf hT, h, Addr.add_lit]
theorem Yl.lenSl {p : Option Addr} {len c z : Nat} (hT : slN P T = some z) (hp : ev L x = some (.slice p len c)) : Yl P L H w0 bs ⟨d, .call ⟨.builtin .len, #[x], #[T]⟩, ty, pos, aft, g⟩ (.int .i64 len) := .of_run fun a W f s => by
  unfold slN at hT
  cases hu : P.underlying T with
  | none => rw [hu] at hT; cases hT
  | some e =>
    rw [hu] at hT
    cases e <;> simp only [reduceCtorEq] at hT
    unfold execOp
    simp [f x _ hp, resolve, invoke, builtin, Builtin.len_, underlying, program, Sem.run, Result.andThen, hu, goInt]
theorem Yl.lenStr {s : ByteArray} (hT : isStr P T = true) (hp : ev L x = some (.string s)) : Yl P L H w0 bs ⟨d, .call ⟨.builtin .len, #[x], #[T]⟩, ty, pos, aft, g⟩ (.int .i64 s.size) := .of_run fun a W f _ => by
  unfold isStr at hT
  cases hu : P.underlying T with
  | none => rw [hu] at hT; cases hT
  | some e =>
    rw [hu] at hT
    cases e <;> simp only [Bool.false_eq_true] at hT
    unfold execOp
    simp [f x _ hp, resolve, invoke, builtin, Builtin.len_, underlying, program, Sem.run, Result.andThen, hu, goInt]
theorem Yl.extract {vs : List Value} {i : Nat} (hx : ev L x = some (.tuple vs.toArray)) (hv : vs[i]? = some v) : Yl P L H w0 bs ⟨d, .extract x i, ty, pos, aft, g⟩ v := .of_run fun a W f s => by
  unfold execOp
  simp [f x _ hx, Instr.extract, hv]
end mem

def evs (L : Sl) : List Operand → Option (List Value)
  | [] => some []
  | x :: r => (ev L x).bind fun v => (evs L r).map (v :: ·)
theorem evs_map {a : Act} (f : ∀ x u, ev L x = some u → a.eval x = u) : ∀ {xs : List Operand} {vs : List Value}, evs L xs = some vs → xs.map a.eval = vs
  | [], vs, e => by cases e; rfl
  | x :: r, vs, e => by
    unfold evs at e
    obtain ⟨v, hv, h2⟩ := Option.bind_eq_some_iff.1 e
    obtain ⟨us, hu, rfl⟩ := Option.map_eq_some_iff.1 h2
    rw [List.map_cons, f x v hv, evs_map f hu]
theorem run_callFunc {f : FuncId} {args : Array Value} {W : World} (h : callN P f = true) : (callFunc f args).run P W = .ok (.enter f args) W := by
  unfold callN at h
  cases hf : P.funcs[f]? with
  | none => rw [hf] at h; cases h
  | some fn =>
    rw [hf] at h
    simp only [Bool.and_eq_true, Bool.not_eq_true'] at h
    obtain ⟨h1, h2⟩ := h
    have h3 : fn.body.isNone = false := by cases e : fn.body <;> simp_all
    unfold callFunc
    simp only [program, Sem.run_bind, Sem.run, Result.andThen, hf, h2, h3, Bool.false_eq_true, if_false]
    rfl
theorem exec_call {f : FuncId} {xs : List Operand} {vs : List Value} {ats : Array TypeId} {a : Act} {W : World} (hc : callN P f = true) (f0 : ∀ x u, ev L x = some u → a.eval x = u) (hv : evs L xs = some vs) :
    (execOp a.eval ⟨d, .call ⟨.value (.func f), xs.toArray, ats⟩, ty, pos, aft, g⟩).run P W = .ok (.enter f vs.toArray) W := by
  unfold execOp
  have : (#[] : Array Value) = [].toArray := rfl
  simp [resolve, Deferred.ofValue, Act.eval, invoke, evs_map f0 hv, run_callFunc hc]
/-- A call whose contract tells its value. -/
theorem Yl.call {f : FuncId} {xs : List Operand} {vs : List Value} {ats : Array TypeId} (hf : callN P f = true) (hv : evs L xs = some vs) (hc : ∀ W, St H w0 bs W → Calls P f vs.toArray W fun e W' => e = .returned v ∧ Ext W W') :
    Yl P L H w0 bs ⟨d, .call ⟨.value (.func f), xs.toArray, ats⟩, ty, pos, aft, g⟩ v := fun a W f0 s => by
  rw [exec_call hf f0 hv]
  exact ⟨rfl, hc W s⟩
/-- A call whose value is one of many, with memory of its own. -/
theorem callG {X : Type} {f : FuncId} {xs : List Operand} {vs : List Value} {ats : Array TypeId} {C : X → Hp → Prop} {val : X → Value} (hf : callN P f = true) (hv : evs L xs = some vs)
    (hc : ∀ W, St H w0 bs W → Calls P f vs.toArray W fun e W' => ∃ x H', C x H' ∧ e = .returned (val x) ∧ Grow H W H' W') (ht : Nat.blt t n = true)
    (h : ∀ x H', C x H' → (∀ b o, H b = some o → H' b = some o) → At n ((t, val x) :: L) H' w0 bs K) :
    At n L H w0 bs (one P ops Q ⟨some t, .call ⟨.value (.func f), xs.toArray, ats⟩, ty, pos, aft, none⟩ K) := by
  intro a W f0 s
  refine one_plain rfl ?_
  unfold Oper.wp
  rw [exec_call hf (fun x u e => f0.ev e) hv]
  refine (hc W s).mono ?_
  rintro e W' ⟨x, H', hx, rfl, hg⟩
  exact (h x H' hx hg.up _ _ (f0.put ht _) (s.grow hg))

theorem alloc {l : List Value} {T : TypeId} (hz : zeroN P T = some l) (ht : Nat.blt t n = true) (h : ∀ b, At n ((t, .pointer (some ⟨b, 0, none⟩)) :: L) H w0 (.box b l T :: bs) K) :
    At n L H w0 bs (one P ops Q ⟨some t, .alloc T, ty, pos, aft, none⟩ K) := by
  intro a W f s
  refine one_plain rfl ?_
  obtain ⟨z, h1, h2⟩ := run_zeroValue (W := W) hz
  have e : (execOp a.eval ⟨some t, .alloc T, ty, pos, aft, none⟩).run P W = .ok (.value (.pointer (some ⟨W.heap.size, 0, none⟩))) (W.alloc (.cells z.cells T)) := by
    unfold execOp
    simp [Instr.alloc, Sem.run_bind, Result.andThen, h1, newVar, newRow, newObj, Sem.run]
  unfold Oper.wp
  rw [e]
  have e2 : z.cells = l.toArray := by rw [← h2]
  rw [e2]
  exact (h _ _ _ (f.put ht _) (s.alloc l T))
theorem box {x : Operand} {v : Value} {l : List Value} {T : TypeId} (hx : ev L x = some v) (hl : v.cells.toList = l) (ht : Nat.blt t n = true) (h : ∀ b, At n ((t, .pointer (some ⟨b, 0, none⟩)) :: L) H w0 (.box b l T :: bs) K) :
    At n L H w0 bs (one P ops Q ⟨some t, .box T x, ty, pos, aft, none⟩ K) := by
  intro a W f s
  refine one_plain rfl ?_
  have e : (execOp a.eval ⟨some t, .box T x, ty, pos, aft, none⟩).run P W = .ok (.value (.pointer (some ⟨W.heap.size, 0, none⟩))) (W.alloc (.cells v.cells T)) := by
    unfold execOp
    simp [Instr.box, f.ev hx, Result.andThen, newVar, newRow, newObj, Sem.run]
  unfold Oper.wp
  rw [e]
  have e2 : v.cells = l.toArray := by rw [← hl]
  rw [e2]
  exact (h _ _ _ (f.put ht _) (s.alloc l T))
theorem stores {x y : Operand} {b off : Nat} {l vs : List Value} {T t' : TypeId} {v : Value} {bs' : List Res} (hp : ev L x = some (.pointer (some ⟨b, off, none⟩))) (hv : ev L y = some v) (hT : sizeN P T = some vs.length) (hc : v.cells = vs.toArray) (h1 : ∀ u ∈ vs, u.oneCell' = true)
    (hm : Upd bs (.box b l t') (.box b (setsL l off vs) t') bs') (ho : off + vs.length ≤ l.length) (h : At n L H w0 bs' K) :
    At n L H w0 bs (one P ops Q ⟨none, .store T x y, ty, pos, aft, none⟩ K) := by
  intro a W f s
  refine one_plain rfl ?_
  have hcell : ∀ j, j < vs.length → W.cell? ⟨b, off + j, none⟩ = some l[off + j]! ∧ W.frozen? ⟨b, off + j, none⟩ = false := fun j hj => s.cell hm.mem (by
    have : off + j < l.length := by omega
    simp [this])
  have hs := run_storeCells_cells (P := P) b off vs 0 W (fun j hj => by rw [Nat.add_zero, (hcell j hj).1]; rfl) (fun j hj => by rw [Nat.add_zero]; exact (hcell j hj).2) h1
  rw [Nat.add_zero] at hs
  have e : (execOp a.eval ⟨none, .store T x y, ty, pos, aft, none⟩).run P W = .ok .skip (W.setCells b off vs) := by
    unfold execOp
    simp only [f.ev hp, f.ev hv, Instr.storeAt, Instr.sureAddr, storeVar, Sem.run_bind, Sem.run_pure, Result.andThen, run_sizeOf hT, hc, List.size_toArray, ne_eq, not_true, if_false, hs]
  unfold Oper.wp
  rw [e]
  exact (h _ _ (f.putNone _) (s.sets vs off l W bs bs' hm))
theorem store {x y : Operand} {b off : Nat} {l l' : List Value} {T t' : TypeId} {v : Value} {bs' : List Res} (hp : ev L x = some (.pointer (some ⟨b, off, none⟩))) (hv : ev L y = some v) (hT : sizeN P T = some 1) (h1 : v.oneCell' = true)
    (hm : Upd bs (.box b l t') (.box b l' t') bs') (ho : off < l.length) (hl : l.set off v = l') (h : At n L H w0 bs' K) :
    At n L H w0 bs (one P ops Q ⟨none, .store T x y, ty, pos, aft, none⟩ K) :=
  stores (vs := [v]) hp hv hT (by cases v <;> first | rfl | cases h1) (by simpa using h1) (by simpa only [setsL, hl] using hm) ho h
/-- The whole box. -/
theorem storeW {x y : Operand} {b : Nat} {l vs : List Value} {T t' : TypeId} {bs' : List Res} (hp : ev L x = some (.pointer (some ⟨b, 0, none⟩))) (hv : ev L y = some (.agg vs.toArray)) (hT : sizeN P T = some vs.length) (h1 : ∀ u ∈ vs, u.oneCell' = true)
    (hm : Upd bs (.box b l t') (.box b vs t') bs') (ho : l.length = vs.length) (h : At n L H w0 bs' K) :
    At n L H w0 bs (one P ops Q ⟨none, .store T x y, ty, pos, aft, none⟩ K) :=
  stores (vs := vs) hp hv hT rfl h1 (by
    have := setsL_all vs [] l ho
    simp only [List.nil_append, List.length_nil] at this
    rw [this]
    exact hm) (by omega) h

/-! ### Results -/
def rvF (tmps : Array Value) : ResultVar → Sem Value
  | .tmp t => pure (tmps.getD t undef)
  | .cell a t => do loadVar t (← asAddr (tmps.getD a undef))
theorem results_eq (fn : Func) (tmps : Array Value) : results fn tmps = (do let vs ← fn.results.mapM (rvF tmps); pure (if h : vs.size = 1 then vs[0] else .tuple vs)) := by
  unfold results
  have : (fun | .tmp t => (pure (tmps.getD t undef) : Sem Value) | .cell a t => do loadVar t (← asAddr (tmps.getD a undef)) : ResultVar → Sem Value) = rvF tmps := by
    funext r
    cases r <;> rfl
  exact congrArg (fun F : ResultVar → Sem Value => (do let vs ← fn.results.mapM F; pure (if h : vs.size = 1 then vs[0] else .tuple vs) : Sem Value)) this
/-- What a result reads as. -/
inductive Rv (P : Program) (L : Sl) (bs : List Res) : ResultVar → Value → Prop where
  | tmp {t : Tmp} {v : Value} : look L t = some v → Rv P L bs (.tmp t) v
  | cell {s b m : Nat} {T t' : TypeId} {l : List Value} : look L s = some (.pointer (some ⟨b, 0, none⟩)) → aggN P T = some (some m) → Res.box b l t' ∈ bs → l.length = m → Rv P L bs (.cell s T) (.agg l.toArray)
  | one {s b : Nat} {T t' : TypeId} {v : Value} : look L s = some (.pointer (some ⟨b, 0, none⟩)) → aggN P T = some none → Res.box b [v] t' ∈ bs → Rv P L bs (.cell s T) v
theorem Rv.run {r : ResultVar} {v : Value} {a : Act} {W : World} (h : Rv P L bs r v) (f : Fr n L a) (s : St H w0 bs W) :
    (rvF a.tmps r).run P W = .ok v W := by
  cases h with
  | tmp e => simp only [rvF, f.slot _ _ e, Sem.run_pure]
  | @cell sl b m T t' l e hT hm hl =>
    subst hl
    obtain ⟨h1, h2⟩ := run_isAgg_yes (W := W) hT
    have hW : W.heap[b]? = some (.cells l.toArray t' (0, 0)) := (s.own _ hm).1.2
    have h3 := loadCells_box (P := P) (off := 0) (vs := l) hW (fun j u e => by rw [Nat.zero_add]; exact e)
    simp only [rvF, f.slot _ _ e, asAddr, loadVar, Sem.run_bind, Sem.run_pure, Result.andThen, h1, h2, if_true, h3]
  | @one sl b T t' v e hT hm =>
    have h3 := (s.cell (off := 0) (v := v) hm rfl).1
    simp only [rvF, f.slot _ _ e, asAddr, loadVar, Sem.run_bind, Sem.run_pure, Result.andThen, run_isAgg_no hT, Bool.false_eq_true, if_false]
    simp [Go.load, Sem.run, h3]
inductive Rvs (P : Program) (L : Sl) (bs : List Res) : List ResultVar → List Value → Prop where
  | nil : Rvs P L bs [] []
  | cons {r : ResultVar} {v : Value} {rs : List ResultVar} {vs : List Value} : Rv P L bs r v → Rvs P L bs rs vs → Rvs P L bs (r :: rs) (v :: vs)
theorem Rvs.run {rs : List ResultVar} {vs : List Value} {a : Act} {W : World} (h : Rvs P L bs rs vs) (f : Fr n L a) (s : St H w0 bs W) :
    (rs.mapM (rvF a.tmps)).run P W = .ok vs W := by
  induction h with
  | nil => simp
  | cons h1 _ ih =>
    have h2 := h1.run f s
    rw [List.mapM_cons]
    simp only [Sem.run_bind, Sem.run_pure, Result.andThen] at *
    rw [h2]
    simp only [ih]
theorem ret1 {fn : Func} {R : Ending → World → Prop} {r : ResultVar} {e : Exit} (he : e = .ret ∨ e = .normal) (hr : fn.results = #[r]) (hv : Rv P L bs r v) (h : ∀ W, St H w0 bs W → R (.returned v) W) : At n L H w0 bs (bodyPost P fn R e) := by
  intro a W f s
  have h2 := (Rvs.cons hv .nil).run f s
  have h3 : (results fn a.tmps).run P W = .ok v W := by
    rw [results_eq, hr]
    simp only [List.mapM_toArray, map_eq_pure_bind, Sem.run_bind, h2, Sem.run_pure, Result.andThen]
    rfl
  rcases he with rfl | rfl <;> exact ⟨f.defers, v, h3, h W s⟩
theorem retN {fn : Func} {R : Ending → World → Prop} {rs : List ResultVar} {vs : List Value} {e : Exit} (he : e = .ret ∨ e = .normal) (hr : fn.results = rs.toArray) (hv : Rvs P L bs rs vs) (h1 : Nat.beq vs.length 1 = false) (h : ∀ W, St H w0 bs W → R (.returned (.tuple vs.toArray)) W) : At n L H w0 bs (bodyPost P fn R e) := by
  intro a W f s
  have h2 := hv.run f s
  have h4 : ¬ vs.length = 1 := fun e => by rw [e] at h1; cases h1
  have h3 : (results fn a.tmps).run P W = .ok (.tuple vs.toArray) W := by
    rw [results_eq, hr]
    simp only [List.mapM_toArray, map_eq_pure_bind, Sem.run_bind, h2, Sem.run_pure, Result.andThen]
    simp [h4]
  rcases he with rfl | rfl <;> exact ⟨f.defers, _, h3, h W s⟩
end
end Go.Sx
