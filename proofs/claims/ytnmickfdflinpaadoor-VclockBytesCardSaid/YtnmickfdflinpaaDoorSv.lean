/- Slices, strings, append and copy, walked by rules. -/
import Derived.Test.YtnmickfdflinpaaDoorSz
import Derived.Laws.CopyRow
import Derived.Laws.AppendOwnNone
namespace Go.Sx
open Go.RowKit Go.Par
def rowN (P : Program) (T : TypeId) : Option (TypeId × Nat × Nat) :=
  match P.underlying T with
  | some (.slice e) => (P.info? e).bind fun i => i.zero.bind fun z => if z.cells.size = i.size ∧ 0 < i.size then some (e, i.size, i.bytes) else none
  | _ => none
def isBool (P : Program) (t : TypeId) : Bool := match P.underlying t with | some .bool => true | _ => false
def isSA (P : Program) (t : TypeId) : Bool := match P.underlying t with | some (.struct _) => true | some (.array _ _) => true | _ => false
section
variable {P : Program} {n : Nat} {L : Sl} {H : Hp} {w0 : World} {bs : List Res} {Q : Exit → Act → World → Prop} {ops : Array Oper} {K : Act → World → Prop}
variable {d : Option Tmp} {ty : TypeId} {pos : String} {aft : Array Edge} {g : Option (Nat × Bool)} {v : Value} {t : Tmp} {op : Op} {x y : Operand} {T T' : TypeId}
theorem rowN_spec {e : TypeId} {size bytes : Nat} (h : rowN P T = some (e, size, bytes)) : P.underlying T = some (.slice e) ∧ ∃ i z, P.info? e = some i ∧ i.zero = some z ∧ i.size = size ∧ i.bytes = bytes ∧ z.cells.size = size ∧ 0 < size := by
  unfold rowN at h
  cases hu : P.underlying T with
  | none => rw [hu] at h; cases h
  | some q =>
    rw [hu] at h
    cases q <;> simp only [reduceCtorEq] at h
    obtain ⟨i, hi, h2⟩ := Option.bind_eq_some_iff.1 h
    obtain ⟨z, hz, h3⟩ := Option.bind_eq_some_iff.1 h2
    split at h3
    · rename_i hc
      obtain ⟨rfl, h4⟩ := Prod.mk.inj (Option.some.inj h3)
      obtain ⟨rfl, rfl⟩ := Prod.mk.inj h4
      exact ⟨rfl, i, z, hi, hz, rfl, rfl, hc.1, hc.2⟩
    · cases h3
/-- The cells from a place on are these. -/
inductive Src (H : Hp) (bs : List Res) (b off : Nat) (news : List Value) : Prop where
  | box {l : List Value} {t : TypeId} : Res.box b l t ∈ bs → (∀ j u, news[j]? = some u → l[off + j]? = some u) → Src H bs b off news
  | mem {cs : Array Value} {t : TypeId} {m : Nat × Nat} : H b = some (.cells cs t m) → (∀ j u, news[j]? = some u → cs[off + j]? = some u) → Src H bs b off news
  | row {e : TypeId} {cap n : Nat} {xs : List Value} : Res.row e 1 (.slice (some ⟨b, 0, none⟩) n cap) n xs ∈ bs → (∀ j u, news[j]? = some u → xs[off + j]? = some u) → Src H bs b off news
theorem Src.cell {b off : Nat} {news : List Value} {W : World} (h : Src H bs b off news) (s : St H w0 bs W) : ∀ j u, news[j]? = some u → W.cell? ((⟨b, off, none⟩ : Addr).add j) = some u := by
  intro j u e
  rw [Addr.add_lit]
  cases h with
  | box hm hv => exact (s.cell hm (hv j u e)).1
  | mem hm hv => exact s.agr.cell hm (hv j u e)
  | row hm hv =>
    have h1 := (s.own _ hm).1
    have h2 := World.ownsRow.cells h1 (g := b) rfl (off + j) u (hv j u e)
    rwa [Addr.add_lit, Nat.zero_add] at h2
theorem row0 {G : Act → World → Prop} (e : TypeId) (size : Nat) (h : At n L H w0 (.row e size (.slice none 0 0) 0 [] :: bs) G) : At n L H w0 bs G := fun a W f s =>
  h a W f ⟨s.ext, s.agr, fun z hz => by
    rcases List.mem_cons.1 hz with rfl | hz
    · exact ⟨World.ownsRow_nil _ _ _ _, fun b e => by cases e⟩
    · exact s.own z hz, .cons (fun z _ b e => by cases e) s.apart⟩
theorem append {e : TypeId} {size bytes m c k b off : Nat} {r : Value} {xs news : List Value} {bs' : Value → List Res} (hT : rowN P T = some (e, size, bytes)) (hx : ev L x = some r) (hm : ∀ r', Upd bs (.row e size r k xs) (.row e size r' (k + m) (xs ++ news)) (bs' r'))
    (hy : ev L y = some (.slice (some ⟨b, off, none⟩) m c)) (hs : Src H bs b off news) (hl : news.length = m * size) (h1 : ∀ u ∈ news, u.oneCell' = true) (h63 : k + m ≤ maxLen) (hb : (k + m) * bytes ≤ 140737488355328) (ht : Nat.blt t n = true)
    (h : ∀ r', (r' = .slice none 0 0 ↔ r = .slice none 0 0 ∧ m = 0) → At n ((t, r') :: L) H w0 (bs' r') K) : At n L H w0 bs (one P ops Q ⟨some t, .call ⟨.builtin .append, #[x, y], #[T, T]⟩, ty, pos, aft, none⟩ K) := by
  obtain ⟨hu, i, z, hi, hz, hsz, hby, hzs, h0⟩ := rowN_spec hT
  intro a W f s
  have hown : W.ownsRow w0.heap.size e size r k xs := (s.own _ (hm r).mem).1
  obtain ⟨v', W', hr, ho, hg, hnil⟩ := run_append_own (P := P) W w0.heap.size T ty e i z size bytes hu hi hz hsz hby hzs h0 r k xs hown ⟨b, off, none⟩ m c news hl (hs.cell s) h1 h63 hb s.ext.size
  have hblk : ∀ q, v'.ownBlock = some q → r.ownBlock = some q ∨ W.heap.size ≤ q := by
    subst hsz hby
    have h64 : k + m ≤ 9223372036854775807 := by simp only [maxLen] at h63; omega
    rcases hown.2 with ⟨rfl, rfl⟩ | ⟨g, cap, cur, rfl, hbg, hgc, hnc, hcm, hcs, htake⟩
    · intro q hq
      by_cases hm0 : m = 0
      · rw [hnil.2 ⟨rfl, hm0⟩] at hq; cases hq
      · have h2 := run_append_nil (P := P) W T ty e i z hu hi hz ⟨b, off, none⟩ m c news hl (hs.cell s) (by omega) (by omega) (by rw [Nat.zero_add] at hb; omega)
        rw [h2] at hr
        injection hr with e1 e2
        rw [← e1] at hq
        right
        have := Option.some.inj hq
        simp at this
        omega
    · intro q hq
      by_cases hroom : k + m ≤ cap
      · have hfit : k * i.size + news.length ≤ cur.size := by rw [hl, hcs, ← Nat.add_mul]; exact Nat.mul_le_mul_right _ hroom
        have h2 := run_append_room (P := P) W T ty e i hu hi g k cap cur hgc ⟨b, off, none⟩ m c news hl (hs.cell s) h1 hroom hfit
        rw [h2] at hr
        injection hr with e1 e2
        rw [← e1] at hq
        exact .inl hq
      · have h2 := run_append_grow (P := P) W T ty e i z hu hi hz ⟨g, 0, none⟩ k cap xs hown.1 (World.ownsRow.cells hown (g := g) rfl) ⟨b, off, none⟩ m c news hl (hs.cell s) (by omega) (by omega) (growslice_fits (by omega) hb)
        rw [h2] at hr
        injection hr with e1 e2
        rw [← e1] at hq
        right
        have := Option.some.inj hq
        simp at this
        omega
  refine one_plain rfl ?_
  unfold Oper.wp execOp
  simp only [resolve, invoke, builtin, Sem.run_bind, Sem.run_pure, Result.andThen_ok, List.map_toArray, List.map_cons, List.map_nil, f.ev hx, f.ev hy, hr]
  refine h v' hnil _ _ (f.put ht _) ?_
  have hlt : ∀ q, r.ownBlock = some q → w0.heap.size ≤ q := fun q hq => (World.ownsRow.lt hown q hq).1
  refine s.upd (hm v') ?_ hg.size (fun q hq hn => hg.block q hq (fun e => hn e.symm)) ho hblk
  refine Ext.of_below ⟨hg.os.trans s.ext.below.os, hg.tape.trans s.ext.below.tape, hg.output.trans s.ext.below.output, Nat.le_trans s.ext.below.size hg.size, fun q hq => ?_⟩
  rw [hg.block q (Nat.lt_of_lt_of_le hq s.ext.size) (fun e => by have := hlt q e.symm; omega)]
  exact s.ext.below.block q hq
theorem appendNone {e : TypeId} {size bytes k : Nat} {r : Value} {xs : List Value} (hT : rowN P T = some (e, size, bytes)) (hx : ev L x = some r) (hm : Res.row e size r k xs ∈ bs) (hy : ev L y = some (.slice none 0 0)) (ht : Nat.blt t n = true)
    (h : At n ((t, r) :: L) H w0 bs K) : At n L H w0 bs (one P ops Q ⟨some t, .call ⟨.builtin .append, #[x, y], #[T, T]⟩, ty, pos, aft, none⟩ K) := by
  obtain ⟨hu, i, z, hi, hz, hsz, hby, hzs, h0⟩ := rowN_spec hT
  intro a W f s
  have hrun := run_append_owned_none (P := P) (w := W) w0.heap.size T ty e i size hu hi r k xs (s.own _ hm).1
  refine one_plain rfl ?_
  unfold Oper.wp
  simp [execOp, resolve, invoke, builtin, f.ev hx, f.ev hy, hrun, Result.andThen, Oper.upon]
  exact h _ _ (f.put ht _) s
theorem copyBox {b off dLen dCap sLen sCap : Nat} {sp : Option Addr} {l cs : List Value} {t' : TypeId} {bs' : List Res} {ats : List TypeId} (hT : slN P T = some 1) (hx : ev L x = some (.slice (some ⟨b, off, none⟩) dLen dCap)) (hy : ev L y = some (.slice sp sLen sCap))
    (hm : Upd bs (.box b l t') (.box b (setsL l off cs) t') bs') (hn : cs.length = Nat.min sLen dLen) (hfit : off + cs.length ≤ l.length) (h1 : ∀ u ∈ cs, u.oneCell' = true)
    (hs : cs = [] ∨ ∃ b2 o2, sp = some ⟨b2, o2, none⟩ ∧ Src H bs b2 o2 cs) (ht : Nat.blt t n = true) (h : At n ((t, .int .i64 cs.length) :: L) H w0 bs' K) :
    At n L H w0 bs (one P ops Q ⟨some t, .call ⟨.builtin .copy, #[x, y], (T :: ats).toArray⟩, ty, pos, aft, none⟩ K) := by
  intro a W f s
  have hcell : ∀ j, j < cs.length → W.cell? ⟨b, off + j, none⟩ = some l[off + j]! ∧ W.frozen? ⟨b, off + j, none⟩ = false := fun j hj => s.cell hm.mem (by
    have : off + j < l.length := by omega
    simp [this])
  have hst := run_storeCells_cells (P := P) b off cs 0 W (fun j hj => by rw [Nat.add_zero, (hcell j hj).1]; rfl) (fun j hj => by rw [Nat.add_zero]; exact (hcell j hj).2) h1
  rw [Nat.add_zero] at hst
  have hu : ∃ el, P.underlying T = some (.slice el) ∧ sizeN P el = some 1 := by
    unfold slN at hT
    cases hu : P.underlying T with
    | none => rw [hu] at hT; cases hT
    | some q => rw [hu] at hT; cases q <;> simp only [reduceCtorEq] at hT; exact ⟨_, rfl, hT⟩
  obtain ⟨el, hu, hz⟩ := hu
  have hfc : (Builtin.firstCells 1 (Nat.min sLen dLen) (.slice sp sLen sCap)).run P W = .ok cs.toArray W := by
    rcases hs with rfl | ⟨b2, o2, rfl, hs⟩
    · rw [← hn]
      cases sp with
      | none => rfl
      | some q => rfl
    · unfold Builtin.firstCells
      rw [← hn, Nat.mul_one]
      exact run_loadCells_list W ⟨b2, o2, none⟩ cs (hs.cell s)
  have hrun : (Builtin.copy_ (T :: ats).toArray ty #[.slice (some ⟨b, off, none⟩) dLen dCap, .slice sp sLen sCap]).run P W = .ok (.int .i64 cs.length) (W.setCells b off cs) := by
    unfold Builtin.copy_
    have hus : (underlying T).run P W = .ok (.slice el) W := by simp [underlying, program, Sem.run, hu]
    simp only [List.getElem?_toArray, List.getElem?_cons_zero, List.getElem?_cons_succ, Sem.run_bind, hus, Result.andThen, Builtin.lenOf, Sem.run_pure, run_sizeOf hz, hfc, hst]
    simp only [hn, goInt]
  refine one_plain rfl ?_
  unfold Oper.wp execOp
  simp only [resolve, invoke, builtin, Sem.run_bind, Sem.run_pure, Result.andThen_ok, List.map_toArray, List.map_cons, List.map_nil, f.ev hx, f.ev hy, hrun]
  exact h _ _ (f.put ht _) (s.sets cs off l W bs bs' hm)

/-! ### Cuts -/
theorem arrN_spec {len z : Nat} (h : arrN P T = some (len, z)) : ∃ el, P.underlying T = some (.array len el) ∧ sizeN P el = some z := by
  unfold arrN at h
  cases hu : P.underlying T with
  | none => rw [hu] at h; cases h
  | some q =>
    rw [hu] at h
    cases q <;> simp only [reduceCtorEq] at h
    obtain ⟨z', hz, h3⟩ := Option.map_eq_some_iff.1 h
    obtain ⟨rfl, rfl⟩ := Prod.mk.inj h3
    exact ⟨_, rfl, hz⟩
theorem slN_spec {z : Nat} (h : slN P T = some z) : ∃ el, P.underlying T = some (.slice el) ∧ sizeN P el = some z := by
  unfold slN at h
  cases hu : P.underlying T with
  | none => rw [hu] at h; cases h
  | some q => rw [hu] at h; cases q <;> simp only [reduceCtorEq] at h; exact ⟨_, rfl, h⟩
theorem Yl.cutArr {b off len z : Nat} (hT : arrN P T = some (len + 1, z)) (hx : ev L x = some (.pointer (some ⟨b, off, none⟩))) :
    Yl P L H w0 bs ⟨d, .slice T x none none none, ty, pos, aft, g⟩ (.slice (some ⟨b, off, none⟩) (len + 1) (len + 1)) := .of_run fun a W f _ => by
  obtain ⟨el, hu, hz⟩ := arrN_spec hT
  unfold execOp
  simp [f x _ hx, Instr.sliceAt, underlying, program, Sem.run, Result.andThen, hu, Instr.sureAddr, Instr.sliceBounds, run_sizeOf hz, Addr.add_lit]
theorem Yl.cutArrHi {b off len z h : Nat} {k : IntKind} {i : Int} (hT : arrN P T = some (len + 1, z)) (hx : ev L x = some (.pointer (some ⟨b, off, none⟩))) (hy : ev L y = some (.int k i)) (e : i = (h : Int)) (hh : h ≤ len + 1) :
    Yl P L H w0 bs ⟨d, .slice T x none (some y) none, ty, pos, aft, g⟩ (.slice (some ⟨b, off, none⟩) h (len + 1)) := .of_run fun a W f _ => by
  subst e
  obtain ⟨el, hu, hz⟩ := arrN_spec hT
  unfold execOp
  simp [f x _ hx, f y _ hy, Instr.sliceAt, underlying, program, Sem.run, Result.andThen, hu, Instr.sureAddr, Instr.sliceBounds, Instr.sliceBound, asIntOf, run_sizeOf hz, Addr.add_lit]
  rw [if_pos (by omega)]
theorem Yl.cutHi {p : Option Addr} {len c z h : Nat} {k : IntKind} {i : Int} (hT : slN P T = some z) (hx : ev L x = some (.slice p len c)) (hy : ev L y = some (.int k i)) (e : i = (h : Int)) (hh : h ≤ c) (hp : ∀ q, p = some q → q.spot = none) :
    Yl P L H w0 bs ⟨d, .slice T x none (some y) none, ty, pos, aft, g⟩ (.slice p h c) := .of_run fun a W f _ => by
  subst e
  obtain ⟨el, hu, hz⟩ := slN_spec hT
  have hadd : p.map (fun q => q.add (0 * z)) = p := by
    cases p with
    | none => rfl
    | some q =>
      obtain ⟨qb, qo, qs⟩ := q
      have := hp _ rfl
      simp only at this
      subst this
      simp [Addr.add_lit]
  unfold execOp
  simp only [Nat.zero_mul] at hadd
  simp [f x _ hx, f y _ hy, Instr.sliceAt, Instr.slice, underlying, program, Sem.run, Result.andThen, hu, Instr.sliceBounds, Instr.sliceBound, asIntOf, hh, run_sizeOf hz, hadd]
theorem Yl.cutLo {b off len c z lo : Nat} {k : IntKind} {i : Int} (hT : slN P T = some z) (hx : ev L x = some (.slice (some ⟨b, off, none⟩) len c)) (hy : ev L y = some (.int k i)) (e : i = (lo : Int)) (hl : lo ≤ len) (_hc : len ≤ c) :
    Yl P L H w0 bs ⟨d, .slice T x (some y) none none, ty, pos, aft, g⟩ (.slice (some (if c = lo then ⟨b, off, none⟩ else ⟨b, off + lo * z, none⟩)) (len - lo) (c - lo)) := .of_run fun a W f _ => by
  subst e
  obtain ⟨el, hu, hz⟩ := slN_spec hT
  unfold execOp
  simp [f x _ hx, f y _ hy, Instr.sliceAt, Instr.slice, underlying, program, Sem.run, Result.andThen, hu, Instr.sliceBounds, Instr.sliceBound, asIntOf, hl, run_sizeOf hz, Addr.add_lit]
  split <;> rfl

/-! ### Strings and truths -/
theorem Yl.eqlS {p q : ByteArray} (hx : ev L x = some (.string p)) (hy : ev L y = some (.string q)) : Yl P L H w0 bs ⟨d, .binOp .eql T x y T', ty, pos, aft, g⟩ (.bool (decide (p = q))) := .of_run fun a W f _ => by
  have : (p.toList == q.toList) = decide (p = q) := by
    rw [Bool.eq_iff_iff]
    simp only [beq_iff_eq, decide_eq_true_eq]
    constructor
    · intro h
      have h2 : p.data.toList = q.data.toList := by simpa [ByteArray.toList_eq] using h
      exact ByteArray.ext (Array.toList_inj.1 h2)
    · intro h; rw [h]
  unfold execOp; simp [f x _ hx, f y _ hy, eqGuard, binOp, Op.stringOp, this]
theorem Yl.addS {p q r : ByteArray} (hx : ev L x = some (.string p)) (hy : ev L y = some (.string q)) (hs : p.size + q.size ≤ 9223372036854775807) (hr : p ++ q = r) : Yl P L H w0 bs ⟨d, .binOp .add T x y T', ty, pos, aft, g⟩ (.string r) := .of_run fun a W f _ => by
  subst hr
  have h1 : ¬ (((p.size + q.size : Nat) : Int) > IntKind.i64.max) := by
    simp [IntKind.max, IntKind.signed, IntKind.bits]; omega
  unfold execOp
  simp only [f x _ hx, f y _ hy, eqGuard, binOp, Op.stringOp]
  rw [if_neg h1]
  simp
theorem isBool_spec (h : isBool P T = true) : P.underlying T = some .bool := by
  unfold isBool at h
  cases hu : P.underlying T with
  | none => rw [hu] at h; cases h
  | some q => rw [hu] at h; cases q <;> simp_all
theorem Yl.eqlB {p q : Bool} (hT : isBool P T = true) (hx : ev L x = some (.bool p)) (hy : ev L y = some (.bool q)) : Yl P L H w0 bs ⟨d, .binOp .eql T x y T', ty, pos, aft, g⟩ (.bool (p == q)) := .of_run fun a W f _ => by
  unfold execOp
  simp [f x _ hx, f y _ hy, eqGuard, run_eql_bool W T p q (isBool_spec hT), Result.andThen]
theorem Yl.neqB {p q : Bool} (hT : isBool P T = true) (hx : ev L x = some (.bool p)) (hy : ev L y = some (.bool q)) : Yl P L H w0 bs ⟨d, .binOp .neq T x y T', ty, pos, aft, g⟩ (.bool (!(p == q))) := .of_run fun a W f _ => by
  unfold execOp
  simp [f x _ hx, f y _ hy, eqGuard, run_neq_bool W T p q (isBool_spec hT), Result.andThen]

/-! ### Values made of parts -/
def placesN (P : Program) : List Field → Option (List (Nat × Nat))
  | [] => some []
  | f :: r => (sizeN P f.type).bind fun z => (placesN P r).map ((f.offset, z) :: ·)
def buildN (P : Program) (T : TypeId) (pv : List (Nat × Value)) : Option (List Value) :=
  match P.underlying T with
  | some (.struct fs) => (zeroN P T).bind fun z => (placesN P fs.toList).bind fun pl => (Instr.fill (pl.toArray[·]?) z.toArray pv).map Array.toList
  | some (.array _ e) => (zeroN P T).bind fun z => (sizeN P e).bind fun q => (Instr.fill (fun i => some (i * q, q)) z.toArray pv).map Array.toList
  | _ => none
theorem run_places {W : World} : ∀ {l : List Field} {pl : List (Nat × Nat)}, placesN P l = some pl → (l.mapM fun (f : Field) => do pure (f.offset, ← Go.sizeOf f.type)).run P W = .ok pl W
  | [], pl, h => by cases h; simp
  | f :: r, pl, h => by
    unfold placesN at h
    obtain ⟨z, hz, h2⟩ := Option.bind_eq_some_iff.1 h
    obtain ⟨pr, hp, rfl⟩ := Option.map_eq_some_iff.1 h2
    have ih := run_places (W := W) hp
    rw [List.mapM_cons]
    simp only [Sem.run_bind, run_sizeOf hz, Sem.run_pure, Result.andThen, ih]
def evp (L : Sl) : List (Nat × Operand) → Option (List (Nat × Value))
  | [] => some []
  | (i, x) :: r => (ev L x).bind fun v => (evp L r).map ((i, v) :: ·)
theorem evp_map {a : Act} (f : ∀ x u, ev L x = some u → a.eval x = u) : ∀ {xs : List (Nat × Operand)} {vs : List (Nat × Value)}, evp L xs = some vs → xs.map (fun (i, x) => (i, a.eval x)) = vs
  | [], vs, e => by cases e; rfl
  | (i, x) :: r, vs, e => by
    unfold evp at e
    obtain ⟨v, hv, h2⟩ := Option.bind_eq_some_iff.1 e
    obtain ⟨us, hu, rfl⟩ := Option.map_eq_some_iff.1 h2
    rw [List.map_cons, evp_map f hu]
    show (i, a.eval x) :: us = _
    rw [f x v hv]
theorem Yl.build {ps : List (Nat × Operand)} {pv : List (Nat × Value)} {l : List Value} (hv : evp L ps = some pv) (hb : buildN P T pv = some l) : Yl P L H w0 bs ⟨d, .build T ps.toArray, ty, pos, aft, g⟩ (.agg l.toArray) := .of_run fun a W f _ => by
  have hm := evp_map f hv
  unfold buildN at hb
  unfold execOp
  simp only [List.map_toArray, hm, Instr.build, Sem.run_bind]
  cases hu : P.underlying T with
  | none => rw [hu] at hb; cases hb
  | some q =>
    rw [hu] at hb
    have hus : (underlying T).run P W = .ok q W := by simp [underlying, program, Sem.run, hu]
    cases q <;> simp only [reduceCtorEq] at hb
    case array len el =>
      obtain ⟨z, hz, h2⟩ := Option.bind_eq_some_iff.1 hb
      obtain ⟨s, hs, h3⟩ := Option.bind_eq_some_iff.1 h2
      obtain ⟨cs, hc, rfl⟩ := Option.map_eq_some_iff.1 h3
      obtain ⟨zv, h4, h5⟩ := run_zeroValue (W := W) hz
      have h6 : zv.cells = z.toArray := by rw [← h5]
      simp [h4, hus, Result.andThen, run_sizeOf hs, h6, hc]
    case struct fs =>
      obtain ⟨z, hz, h2⟩ := Option.bind_eq_some_iff.1 hb
      obtain ⟨s, hs, h3⟩ := Option.bind_eq_some_iff.1 h2
      obtain ⟨cs, hc, rfl⟩ := Option.map_eq_some_iff.1 h3
      obtain ⟨zv, h4, h5⟩ := run_zeroValue (W := W) hz
      have h6 : zv.cells = z.toArray := by rw [← h5]
      have h7 := run_places (W := W) hs
      have h8 : (fs.mapM fun (f : Field) => do pure (f.offset, ← Go.sizeOf f.type)).run P W = .ok s.toArray W := by
        have : fs = fs.toList.toArray := rfl
        rw [this, List.mapM_toArray]
        simp only [map_eq_pure_bind, Sem.run_bind, h7, Result.andThen, Sem.run_pure]
      simp only [h4, hus, Result.andThen, Sem.run_bind, h8, h6, hc, Sem.run_pure]
def bslN (P : Program) (T : TypeId) (len : Nat) (pv : List (Nat × Value)) : Option (TypeId × List Value) :=
  match P.underlying T with
  | some (.slice e) => (sizeN P e).bind fun z => if len * z > 2 ^ 24 then none else (zeroN P e).bind fun q =>
      (Instr.fill (fun i => some (i * z, z)) ((Array.range (len * z)).map ((if len * z = 0 then #[] else q.toArray)[· % (if len * z = 0 then #[] else q.toArray).size]!)) pv).map fun c => (e, c.toList)
  | _ => none
/-- A slice of parts: a new block. -/
theorem buildSlice {ps : List (Nat × Operand)} {pv : List (Nat × Value)} {len : Nat} {e : TypeId} {l : List Value} (hv : evp L ps = some pv) (hb : bslN P T len pv = some (e, l)) (ht : Nat.blt t n = true)
    (h : ∀ b, At n ((t, .slice (some ⟨b, 0, none⟩) len len) :: L) H w0 (.box b l e :: bs) K) : At n L H w0 bs (one P ops Q ⟨some t, .buildSlice T len ps.toArray, ty, pos, aft, none⟩ K) := by
  intro a W f s
  refine one_plain rfl ?_
  have hm := evp_map (fun x u e => f.ev e) hv
  unfold bslN at hb
  cases hu : P.underlying T with
  | none => rw [hu] at hb; cases hb
  | some q =>
    rw [hu] at hb
    have hus : (underlying T).run P W = .ok q W := by simp [underlying, program, Sem.run, hu]
    cases q <;> simp only [reduceCtorEq] at hb
    rename_i el
    obtain ⟨z, hz, h2⟩ := Option.bind_eq_some_iff.1 hb
    split at h2
    · cases h2
    · rename_i hbig
      obtain ⟨zl, hzl, h3⟩ := Option.bind_eq_some_iff.1 h2
      obtain ⟨cs, hc, h4⟩ := Option.map_eq_some_iff.1 h3
      obtain ⟨rfl, rfl⟩ := Prod.mk.inj h4
      obtain ⟨zv, h5, h6⟩ := run_zeroValue (W := W) hzl
      have h7 : zv.cells = zl.toArray := by rw [← h6]
      have e1 : (execOp a.eval ⟨some t, .buildSlice T len ps.toArray, ty, pos, aft, none⟩).run P W = .ok (.value (.slice (some ⟨W.heap.size, 0, none⟩) len len)) (W.alloc (.cells cs el)) := by
        unfold execOp
        simp only [List.map_toArray, hm, Instr.buildSlice, Sem.run_bind, hus, Result.andThen, run_sizeOf hz]
        rw [if_neg hbig]
        by_cases h0 : len * z = 0
        · simp only [h0, if_true] at hc ⊢
          simp only [Sem.run_bind, Sem.run_pure, Result.andThen, hc]
          rfl
        · simp only [h0, if_false] at hc ⊢
          simp only [Sem.run_bind, Sem.run_pure, Result.andThen, h5, h7, hc]
          rfl
      unfold Oper.wp
      rw [e1]
      have e2 : cs = cs.toList.toArray := rfl
      rw [e2]
      exact h _ _ _ (f.put ht _) (s.alloc cs.toList _)
end
end Go.Sx
