/- Calls that change the caller's own memory; bytes and strings. -/
import Derived.Test.YtnmickfdflinpaaDoorSv
import Derived.Laws.IdiomStrings
import Derived.Sort.Row
namespace Go.Sx
open Go.RowKit Go.Par
section
variable {P : Program} {n : Nat} {L : Sl} {H : Hp} {w0 : World} {bs : List Res} {Q : Exit → Act → World → Prop} {ops : Array Oper} {K : Act → World → Prop}
variable {d : Option Tmp} {ty : TypeId} {pos : String} {aft : Array Edge} {g : Option (Nat × Bool)} {v : Value} {t : Tmp} {op : Op} {x y z : Operand} {T T' : TypeId}
/-- A call whose contract speaks of the described state itself. -/
theorem callS {X : Type} {f : FuncId} {xs : List Operand} {vs : List Value} {ats : Array TypeId} {C : X → Prop} {val : X → Value} {H' : X → Hp} {bs' : X → List Res} (hf : callN P f = true) (hv : evs L xs = some vs)
    (hc : ∀ W, St H w0 bs W → Calls P f vs.toArray W fun e W' => ∃ x, C x ∧ e = .returned (val x) ∧ St (H' x) w0 (bs' x) W') (ht : Nat.blt t n = true)
    (h : ∀ x, C x → At n ((t, val x) :: L) (H' x) w0 (bs' x) K) :
    At n L H w0 bs (one P ops Q ⟨some t, .call ⟨.value (.func f), xs.toArray, ats⟩, ty, pos, aft, none⟩ K) := by
  intro a W f0 s
  refine one_plain rfl ?_
  unfold Oper.wp
  rw [exec_call hf (fun x u e => f0.ev e) hv]
  refine (hc W s).mono ?_
  rintro e W' ⟨x, hx, rfl, hs⟩
  exact h x hx _ _ (f0.put ht _) hs
/-- The bytes of a row, put into a box. -/
theorem St.putRow {W : World} {bs' : List Res} {b off : Nat} {l : List Value} {t' : TypeId} (enc : UInt8 → Value) (dk : Array UInt8) (k : Nat) (h : St H w0 bs W) (u : Upd bs (.box b l t') (.box b (Sort.putCells enc off dk l.toArray).toList t') bs') :
    St H w0 bs' ((Sort.putRow enc W b off dk).drewN k) := by
  have hm := h.own _ u.mem
  have hW : W.heap[b]? = some (.cells l.toArray t' (0, 0)) := hm.1.2
  have hh : ∀ c, ((Sort.putRow enc W b off dk).drewN k).heap[c]? = if c = b then (W.heap[c]?).map (Sort.onCells (Sort.putCells enc off dk)) else W.heap[c]? := fun c => by
    show (W.heap.modify b _)[c]? = _
    rw [Array.getElem?_modify]
    by_cases e : b = c
    · subst e; simp
    · rw [if_neg e, if_neg (Ne.symm e)]
  have hz : ((Sort.putRow enc W b off dk).drewN k).heap.size = W.heap.size := by
    show (W.heap.modify b _).size = _
    simp
  refine h.upd u ?_ (by omega) ?_ ⟨hm.1.1, ?_⟩ (fun c e => .inl e)
  · have hx := h.ext.below
    refine Ext.of_below ⟨hx.os, hx.tape, hx.output, by rw [hz]; exact hx.size, fun c hc => ?_⟩
    have := hm.1.1
    rw [hh, if_neg (by omega)]
    exact hx.block c hc
  · intro c _ hn
    rw [hh, if_neg (fun e => hn (by rw [e]; rfl))]
  · rw [hh, if_pos rfl, hW]
    rfl
theorem putCells_at (enc : UInt8 → Value) (off : Nat) (dk : Array UInt8) (l : List Value) (j : Nat) (h1 : j < dk.size) (h2 : off + j < l.length) : (Sort.putCells enc off dk l.toArray).toList[off + j]? = some (enc dk[j]!) := by
  unfold Sort.putCells
  rw [Array.getElem?_toList, Array.getElem?_mapIdx]
  simp [h2, h1]
def bytesN (P : Program) (T : TypeId) : Bool := match P.underlying T with | some (.slice e) => (match P.underlying e with | some (.int .u8) => true | _ => false) | _ => false
theorem bytesN_spec (h : bytesN P T = true) : ∃ e, P.underlying T = some (.slice e) ∧ P.underlying e = some (.int .u8) := by
  unfold bytesN at h
  cases hu : P.underlying T with
  | none => rw [hu] at h; cases h
  | some q =>
    rw [hu] at h
    cases q <;> simp only [Bool.false_eq_true] at h
    rename_i e
    refine ⟨e, rfl, ?_⟩
    cases he : P.underlying e with
    | none => rw [he] at h; cases h
    | some r =>
      rw [he] at h
      cases r <;> first | (cases h; done) | skip
      rename_i k
      cases k <;> first | rfl | cases h
theorem isStr_spec (h : isStr P T = true) : P.underlying T = some .string := by
  unfold isStr at h
  cases hu : P.underlying T with
  | none => rw [hu] at h; cases h
  | some q => rw [hu] at h; cases q <;> simp_all
def byteV (b : UInt8) : Value := .int .u8 (b.toNat : Int)
/-- string(bytes). -/
theorem Yl.bytesStr {b off c m : Nat} {l : List UInt8} (hT : bytesN P T = true) (hT' : isStr P T' = true) (hx : ev L x = some (.slice (some ⟨b, off, none⟩) m c)) (hm : l.length = m) (hs : Src H bs b off (l.map byteV)) :
    Yl P L H w0 bs ⟨d, .convert T T' x, ty, pos, aft, g⟩ (.string ⟨l.toArray⟩) := .of_run fun a W f s => by
  subst hm
  obtain ⟨e, h1, h2⟩ := bytesN_spec hT
  have h3 := run_convert_bytes_back (P := P) W T T' e ⟨b, off, none⟩ c l h1 h2 (isStr_spec hT') (fun j hj => hs.cell s j _ (by simp [hj, byteV]))
  unfold execOp
  simp only [f x _ hx, Sem.run_bind, h3, Result.andThen, Sem.run_pure]
theorem Yl.bytesStr0 {p : Option Addr} {c : Nat} (hT : bytesN P T = true) (hT' : isStr P T' = true) (hx : ev L x = some (.slice p 0 c)) :
    Yl P L H w0 bs ⟨d, .convert T T' x, ty, pos, aft, g⟩ (.string ⟨#[]⟩) := .of_run fun a W f s => by
  obtain ⟨e, h1, h2⟩ := bytesN_spec hT
  have h3 := run_convert_bytes_string (P := P) W T T' e p 0 c h1 h2 (isStr_spec hT')
  unfold execOp
  simp only [f x _ hx, Sem.run_bind, h3, Result.andThen, Sem.run_pure]
  have h4 : (Conv.bytesToString (.slice p 0 c)).run P W = .ok (.string ⟨#[]⟩) W := by
    cases p <;> simp [Conv.bytesToString, loadCells, loadCellsFrom] <;> rfl
  rw [h4]
/-- s[lo:hi]. -/
theorem Yl.cutStr {s : ByteArray} {k k' : IntKind} {i j : Int} {lo hi : Nat} (hT : isStr P T = true) (hx : ev L x = some (.string s)) (hy : ev L y = some (.int k i)) (hz : ev L z = some (.int k' j)) (e1 : i = (lo : Int)) (e2 : j = (hi : Int)) (h1 : lo ≤ hi) (h2 : hi ≤ s.size) :
    Yl P L H w0 bs ⟨d, .slice T x (some y) (some z) none, ty, pos, aft, g⟩ (.string (s.extract lo hi)) := .of_run fun a W f _ => by
  subst e1 e2
  have hu := isStr_spec hT
  unfold execOp
  simp [f x _ hx, f y _ hy, f z _ hz, Instr.sliceAt, Instr.slice, underlying, program, Sem.run, Result.andThen, hu, Instr.sliceBounds, Instr.sliceBound, asIntOf, h1, h2]
theorem Yl.cutStrHi {s : ByteArray} {k' : IntKind} {j : Int} {hi : Nat} (hT : isStr P T = true) (hx : ev L x = some (.string s)) (hz : ev L z = some (.int k' j)) (e2 : j = (hi : Int)) (h2 : hi ≤ s.size) :
    Yl P L H w0 bs ⟨d, .slice T x none (some z) none, ty, pos, aft, g⟩ (.string (s.extract 0 hi)) := .of_run fun a W f _ => by
  subst e2
  have hu := isStr_spec hT
  unfold execOp
  simp [f x _ hx, f z _ hz, Instr.sliceAt, Instr.slice, underlying, program, Sem.run, Result.andThen, hu, Instr.sliceBounds, Instr.sliceBound, asIntOf, h2]
theorem Yl.neqS {p q : ByteArray} (hx : ev L x = some (.string p)) (hy : ev L y = some (.string q)) : Yl P L H w0 bs ⟨d, .binOp .neq T x y T', ty, pos, aft, g⟩ (.bool (decide (¬ p = q))) := .of_run fun a W f _ => by
  have : (!(p.toList == q.toList)) = decide (¬ p = q) := by
    rw [Bool.eq_iff_iff]
    simp only [Bool.not_eq_true', beq_eq_false_iff_ne, decide_eq_true_eq, ne_eq]
    constructor
    · intro h h'; exact h (by rw [h'])
    · intro h h'
      have h2 : p.data.toList = q.data.toList := by simpa [ByteArray.toList_eq] using h'
      exact h (ByteArray.ext (Array.toList_inj.1 h2))
  unfold execOp; simp only [f x _ hx, f y _ hy, eqGuard, binOp, Op.stringOp, this]; simp
end
end Go.Sx
