/- Texts of the proof, one behind the other. -/
import Derived.Test.YtmbiojpcidccjaaDoorMa
import Derived.Lib.Strings
import Derived.ChangeMaps4
import Derived.Lib.Builder
import Derived.Lib.AppendStr
import Derived.Lib.UnsafeStr
import Derived.Test.YtmbiojpcidccjaaDoorProg
/- Loops and cuts over a described state, of which a part stays. -/
namespace Go.Sx
open Go.RowKit Go.Par
section
variable {P : Program} {n : Nat} {L : Sl} {H : Hp} {w0 : World} {bs : List Res} {Q : Exit → Act → World → Prop} {ops : Array Oper} {K : Act → World → Prop}
theorem Sub.app {L M N : Sl} (h : Sub L M) (k : Sub L N) : Sub L (M ++ N) := by
  induction M with
  | nil => exact k
  | cons x r ih => exact ⟨h.1, ih h.2⟩
def arrE (P : Program) (T : TypeId) : Bool := match P.underlying T with | some (.array _ e) => (match aggN P e with | some none => true | _ => false) | _ => false
/-- The loop: the slots of F and the boxes of B change from round to round, those of M and R stay. -/
theorem At.lp {c : Code} {X : Type} (M : Sl) (hM : Sub L M) (R : List Res) (F : X → Sl) (H' : X → Hp) (B : X → List Res) (C : X → Prop) (μ : X → Nat) (x0 : X) (hB : ∀ W, St H w0 bs W → St (H' x0) w0 (B x0 ++ R) W) (h0 : Sub L (F x0)) (hC : C x0)
    (round : ∀ x, C x → At n (F x ++ M) (H' x) w0 (B x ++ R) (c.wp P (Exit.then (fun a W => ∃ y, (C y ∧ μ y < μ x) ∧ Fr n (F y ++ M) a ∧ St (H' y) w0 (B y ++ R) W) Q))) :
    At n L H w0 bs ((Code.loop c).wp P Q) := loop (fun x => F x ++ M) H' (fun x => B x ++ R) C μ x0 hC (h0.app hM) hB round
/-- The end of a round. -/
theorem At.ag {X : Type} {M : Sl} {R : List Res} {F : X → Sl} {H' : X → Hp} {B : X → List Res} {C : X → Prop} {μ : X → Nat} {x : X} (y : X) (hL : Sub L (F y)) (hM : Sub L M) (hB : ∀ W, St H w0 bs W → St (H' y) w0 (B y ++ R) W) (hC : C y) (hm : μ y < μ x) :
    At n L H w0 bs (fun a W => ∃ y, (C y ∧ μ y < μ x) ∧ Fr n (F y ++ M) a ∧ St (H' y) w0 (B y ++ R) W) := fun _ W f s => ⟨y, ⟨hC, hm⟩, f.sub (hL.app hM), hB W s⟩
/-- The ways through a piece of code meet again. -/
theorem At.cu {X : Type} {x y : Code} (M : Sl) (hM : Sub L M) (F : X → Sl) (H' : X → Hp) (B : X → List Res) (C : X → Prop) (h : At n L H w0 bs (x.wp P (Exit.then (fun a W => ∃ z, C z ∧ Fr n (F z ++ M) a ∧ St (H' z) w0 (B z) W) Q)))
    (k : ∀ z, C z → At n (F z ++ M) (H' z) w0 (B z) (y.wp P Q)) : At n L H w0 bs ((Code.seq x y).wp P Q) := cutS (fun z => F z ++ M) H' B C h k
theorem At.me {X : Type} {M : Sl} {F : X → Sl} {H' : X → Hp} {B : X → List Res} {C : X → Prop} (z : X) (hL : Sub L (F z)) (hM : Sub L M) (hB : ∀ W, St H w0 bs W → St (H' z) w0 (B z) W) (hC : C z) :
    At n L H w0 bs (fun a W => ∃ z, C z ∧ Fr n (F z ++ M) a ∧ St (H' z) w0 (B z) W) := fun _ W f s => ⟨z, hC, f.sub (hL.app hM), hB W s⟩
def nodupB : List Nat → Bool
  | [] => true
  | i :: r => !r.contains i && nodupB r
theorem pairwise_at {l : List Res} (h : l.Pairwise Res.apart) : ∀ {i j : Nat} {x y : Res}, l[i]? = some x → l[j]? = some y → i ≠ j → x.apart y := by
  induction l with
  | nil => intro i j x y hx; simp at hx
  | cons a r ih =>
    rw [List.pairwise_cons] at h
    intro i j x y hx hy hne
    cases i with
    | zero =>
      cases j with
      | zero => exact absurd rfl hne
      | succ j => simp at hx hy; subst hx; exact h.1 y (List.mem_of_getElem? hy)
    | succ i =>
      cases j with
      | zero => simp at hx hy; subst hy; exact (h.1 x (List.mem_of_getElem? hx)).symm
      | succ j => simp at hx hy; exact ih h.2 hx hy (by omega)
/-- Boxes in another order, or fewer. -/
theorem St.pick {W : World} (s : St H w0 bs W) : ∀ (ix : List Nat) (bs' : List Res), nodupB ix = true → ix.map (fun i => bs[i]?) = bs'.map some → St H w0 bs' W := by
  intro ix bs' hn hm
  have key : ∀ (ix : List Nat) (bs' : List Res), nodupB ix = true → ix.map (fun i => bs[i]?) = bs'.map some → (∀ x ∈ bs', ∃ i ∈ ix, bs[i]? = some x) ∧ bs'.Pairwise Res.apart := by
    intro ix
    induction ix with
    | nil =>
      intro bs' _ hm
      cases bs' with
      | nil => exact ⟨fun x hx => (by cases hx), .nil⟩
      | cons a r => simp at hm
    | cons i r ih =>
      intro bs' hn hm
      cases bs' with
      | nil => simp at hm
      | cons a q =>
        simp only [List.map_cons, List.cons.injEq] at hm
        simp only [nodupB, Bool.and_eq_true, Bool.not_eq_true'] at hn
        obtain ⟨h1, h2⟩ := ih q hn.2 hm.2
        refine ⟨fun x hx => ?_, .cons (fun y hy => ?_) h2⟩
        · rcases List.mem_cons.1 hx with rfl | hx
          · exact ⟨i, .head _, hm.1⟩
          · obtain ⟨j, hj, e⟩ := h1 x hx
            exact ⟨j, .tail _ hj, e⟩
        · obtain ⟨j, hj, e⟩ := h1 y hy
          refine pairwise_at s.apart hm.1 e fun h => ?_
          subst h
          have := hn.1
          simp [hj] at this
  obtain ⟨h1, h2⟩ := key ix bs' hn hm
  exact ⟨s.ext, s.agr, fun x hx => by obtain ⟨i, _, e⟩ := h1 x hx; exact s.own x (List.mem_of_getElem? e), h2⟩
theorem At.pm {G : Act → World → Prop} (ix : List Nat) (bs' : List Res) (hn : nodupB ix = true) (hm : ix.map (fun i => bs[i]?) = bs'.map some) (h : At n L H w0 bs' G) : At n L H w0 bs G := fun a W f s => h a W f (s.pick ix bs' hn hm)
/-- An own row of whatever length. -/
theorem At.ra {e : TypeId} {size k : Nat} {r : Value} {xs : List Value} {G : Act → World → Prop} (hm : Res.row e size r k xs ∈ bs) (h : ∀ p c, r = .slice p k c → At n L H w0 bs G) : At n L H w0 bs G := fun a W f s => by
  have ho : W.ownsRow w0.heap.size e size r k xs := (s.own _ hm).1
  rcases ho.2 with ⟨hr, h0⟩ | ⟨g, cap, cur, hr, _⟩
  · exact h none 0 (by rw [hr, h0]) a W f s
  · exact h _ cap hr a W f s
theorem w64 {i : Int} (h1 : -9223372036854775808 ≤ i) (h2 : i ≤ 9223372036854775807) : IntKind.i64.wrap i = i := by
  simp only [IntKind.wrap, IntKind.signed, IntKind.bits]
  simp
  omega
variable {d : Option Tmp} {ty : TypeId} {pos : String} {aft : Array Edge} {g : Option (Nat × Bool)} {v : Value} {t : Tmp} {op : Op} {x y z : Operand} {T T' : TypeId}
theorem ba_get (l : List UInt8) (j : Nat) : (⟨l.toArray⟩ : ByteArray)[j]? = l[j]? := by
  by_cases h : j < l.length
  · have h1 : j < (⟨l.toArray⟩ : ByteArray).size := by simpa [ByteArray.size] using h
    rw [getElem?_def, dif_pos h1, List.getElem?_eq_getElem h]
    rfl
  · have h1 : ¬ j < (⟨l.toArray⟩ : ByteArray).size := by simpa [ByteArray.size] using h
    rw [getElem?_def, dif_neg h1]
    simp only [Nat.not_lt] at h
    rw [List.getElem?_eq_none h]
/-- s[i] of a string. -/
theorem Yl.idxS {l : List UInt8} {k : IntKind} {i : Int} {j : Nat} {b : UInt8} (hT : isStr P T = true) (hx : ev L x = some (.string ⟨l.toArray⟩)) (hy : ev L y = some (.int k i)) (e : i = (j : Int)) (h : l[j]? = some b) :
    Yl P L H w0 bs ⟨d, .index T x y, ty, pos, aft, g⟩ (byteV b) := .of_run fun a W f _ => by
  subst e
  have hu := isStr_spec hT
  have h2 : (⟨l.toArray⟩ : ByteArray)[j]? = some b := (ba_get l j).trans h
  unfold execOp
  simp [f x _ hx, f y _ hy, Instr.index, underlying, program, Sem.run, Result.andThen, hu, asIntOf, h2, byteV]
/-- a[i] of an array's value, of one-cell elements. -/
theorem Yl.idxA {cs : List Value} {k : IntKind} {i : Int} {j len : Nat} (hT : arrN P T = some (len, 1)) (hA : arrE P T = true) (hx : ev L x = some (.agg cs.toArray)) (hy : ev L y = some (.int k i)) (e : i = (j : Int)) (hj : j < len) (h : cs[j]? = some v) :
    Yl P L H w0 bs ⟨d, .index T x y, ty, pos, aft, g⟩ v := .of_run fun a W f _ => by
  subst e
  obtain ⟨el, hu, hz⟩ := arrN_spec hT
  have hE : aggN P el = some none := by
    unfold arrE at hA; rw [hu] at hA; dsimp only at hA
    cases hq : aggN P el with
    | none => rw [hq] at hA; cases hA
    | some q => rw [hq] at hA; cases q <;> first | rfl | cases hA
  have h4 : (Instr.index T (.agg cs.toArray) (.int k (j : Int))).run P W = .ok v W := by
    simp [Instr.index, run_underlying hu, asIntOf, hj, go_sem, run_sizeOf hz, run_isAgg_no hE, h]
  unfold execOp
  simp only [f x _ hx, f y _ hy, Sem.run_bind, h4, Result.andThen, Sem.run_pure]
theorem extract_str (l : List UInt8) (a b : Nat) : (⟨l.toArray⟩ : ByteArray).extract a b = ⟨((l.take b).drop a).toArray⟩ := by
  apply ByteArray.ext
  apply Array.toList_inj.1
  rw [Lib.extract_data]
  simp [List.drop_take]
/-- s[:hi], s[lo:], s[lo:hi] of a string. -/
theorem Yl.takeS {l : List UInt8} {k' : IntKind} {j : Int} {hi : Nat} (hT : isStr P T = true) (hx : ev L x = some (.string ⟨l.toArray⟩)) (hz : ev L z = some (.int k' j)) (e2 : j = (hi : Int)) (h2 : hi ≤ l.length) :
    Yl P L H w0 bs ⟨d, .slice T x none (some z) none, ty, pos, aft, g⟩ (.string ⟨(l.take hi).toArray⟩) :=
  (Yl.cutStrHi hT hx hz e2 (by simpa [ByteArray.size] using h2)).cast (by rw [extract_str, List.drop_zero])
theorem Yl.dropS {l : List UInt8} {k : IntKind} {i : Int} {lo : Nat} (hT : isStr P T = true) (hx : ev L x = some (.string ⟨l.toArray⟩)) (hy : ev L y = some (.int k i)) (e1 : i = (lo : Int)) (h1 : lo ≤ l.length) :
    Yl P L H w0 bs ⟨d, .slice T x (some y) none none, ty, pos, aft, g⟩ (.string ⟨(l.drop lo).toArray⟩) := .of_run fun a W f _ => by
  subst e1
  have hu := isStr_spec hT
  have h2 : lo ≤ (⟨l.toArray⟩ : ByteArray).size := by simpa [ByteArray.size] using h1
  have h3 : (⟨l.toArray⟩ : ByteArray).extract lo (⟨l.toArray⟩ : ByteArray).size = ⟨(l.drop lo).toArray⟩ := by
    rw [extract_str]
    congr 2
    rw [List.take_of_length_le (by simp [ByteArray.size])]
  unfold execOp
  simp [f x _ hx, f y _ hy, Instr.sliceAt, Instr.slice, underlying, program, Sem.run, Result.andThen, hu, Instr.sliceBounds, Instr.sliceBound, asIntOf, h2, h3]
theorem Yl.midS {l : List UInt8} {k k' : IntKind} {i j : Int} {lo hi : Nat} (hT : isStr P T = true) (hx : ev L x = some (.string ⟨l.toArray⟩)) (hy : ev L y = some (.int k i)) (hz : ev L z = some (.int k' j)) (e1 : i = (lo : Int)) (e2 : j = (hi : Int)) (h1 : lo ≤ hi) (h2 : hi ≤ l.length) :
    Yl P L H w0 bs ⟨d, .slice T x (some y) (some z) none, ty, pos, aft, g⟩ (.string ⟨((l.take hi).drop lo).toArray⟩) :=
  (Yl.cutStr hT hx hy hz e1 e2 h1 (by simpa [ByteArray.size] using h2)).cast (by rw [extract_str])
theorem str_app (a b : List UInt8) : (⟨a.toArray⟩ : ByteArray) ++ ⟨b.toArray⟩ = ⟨(a ++ b).toArray⟩ := by
  apply ByteArray.ext
  rw [ByteArray.data_append]
  simp
theorem str_size (a : List UInt8) : (⟨a.toArray⟩ : ByteArray).size = a.length := by simp [ByteArray.size]
theorem str_inj {a b : List UInt8} : ((⟨a.toArray⟩ : ByteArray) = ⟨b.toArray⟩) ↔ a = b := by
  constructor
  · intro h
    have := congrArg (fun s : ByteArray => s.data.toList) h
    simpa using this
  · intro h; rw [h]
/-- a + b, a == b of strings. -/
theorem Yl.app {a b : List UInt8} (hx : ev L x = some (.string ⟨a.toArray⟩)) (hy : ev L y = some (.string ⟨b.toArray⟩)) (hs : a.length + b.length ≤ 9223372036854775807) : Yl P L H w0 bs ⟨d, .binOp .add T x y T', ty, pos, aft, g⟩ (.string ⟨(a ++ b).toArray⟩) :=
  .addS hx hy (by rw [str_size, str_size]; exact hs) (str_app a b)
theorem Yl.eqS {a b : List UInt8} (hx : ev L x = some (.string ⟨a.toArray⟩)) (hy : ev L y = some (.string ⟨b.toArray⟩)) : Yl P L H w0 bs ⟨d, .binOp .eql T x y T', ty, pos, aft, g⟩ (.bool (decide (a = b))) :=
  (Yl.eqlS hx hy).cast (by congr 1; rw [decide_eq_decide]; exact str_inj)
theorem Yl.neS {a b : List UInt8} (hx : ev L x = some (.string ⟨a.toArray⟩)) (hy : ev L y = some (.string ⟨b.toArray⟩)) : Yl P L H w0 bs ⟨d, .binOp .neq T x y T', ty, pos, aft, g⟩ (.bool (decide (¬ a = b))) :=
  (Yl.neqS hx hy).cast (by congr 1; rw [decide_eq_decide]; exact not_congr str_inj)
theorem Yl.lenS {a : List UInt8} (hT : isStr P T = true) (hp : ev L x = some (.string ⟨a.toArray⟩)) : Yl P L H w0 bs ⟨d, .call ⟨.builtin .len, #[x], #[T]⟩, ty, pos, aft, g⟩ (.int .i64 (a.length : Nat)) :=
  (Yl.lenStr hT hp).cast (by rw [str_size])
theorem retB {p q : Bool} (h : p = true ↔ q = true) : Ending.returned (.bool p) = .returned (.bool q) := by rw [Bool.eq_iff_iff.2 h]
end
end Go.Sx
/- Own maps from strings to true. -/
namespace Go.Sx
open Go.RowKit Go.Par MapKept
def moE (i : Nat) (k : List UInt8) : MapEntry := { key := .string ⟨k.toArray⟩, val := .bool true, born := i }
def moL : Nat → List (List UInt8) → List MapEntry
  | _, [] => []
  | i, k :: r => moE i k :: moL (i + 1) r
/-- The map that has these keys, each with true, in the order in which they came. -/
def mo (ks : List (List UInt8)) : Obj := .map (moL 0 ks).toArray ks.length
def addK (ks : List (List UInt8)) (l : List UInt8) : List (List UInt8) := if l ∈ ks then ks else ks ++ [l]
theorem moL_len : ∀ (ks : List (List UInt8)) (i : Nat), (moL i ks).length = ks.length
  | [], _ => rfl
  | k :: r, i => by simp [moL, moL_len r (i + 1)]
theorem moL_snoc : ∀ (ks : List (List UInt8)) (i : Nat) (l : List UInt8), moL i (ks ++ [l]) = moL i ks ++ [moE (i + ks.length) l]
  | [], i, l => by simp [moL]
  | k :: r, i, l => by
    simp only [List.cons_append, moL, moL_snoc r (i + 1) l, List.length_cons]
    rw [show i + 1 + r.length = i + (r.length + 1) by omega]
theorem moL_key : ∀ (ks : List (List UInt8)) (i : Nat) (x : MapEntry), x ∈ moL i ks → ∃ j k, x = moE j k ∧ k ∈ ks
  | [], _, _, h => by cases h
  | k :: r, i, x, h => by
    rcases List.mem_cons.1 h with rfl | h
    · exact ⟨i, k, rfl, .head _⟩
    · obtain ⟨j, k', e, hk⟩ := moL_key r (i + 1) x h
      exact ⟨j, k', e, .tail _ hk⟩
theorem moL_has : ∀ (ks : List (List UInt8)) (i : Nat) (k : List UInt8), k ∈ ks → ∃ j, moE j k ∈ moL i ks
  | k' :: r, i, k, h => by
    rcases List.mem_cons.1 h with rfl | h
    · exact ⟨i, .head _⟩
    · obtain ⟨j, e⟩ := moL_has r (i + 1) k h
      exact ⟨j, .tail _ e⟩
theorem moE_inj {i : Nat} {k l : List UInt8} (h : (moE i k).key = .string ⟨l.toArray⟩) : k = l := by
  simp only [moE, Value.string.injEq] at h
  exact str_inj.1 h
theorem modify_same {es : Array MapEntry} {j : Nat} {f : MapEntry → MapEntry} {e : MapEntry} (h : es[j]? = some e) (hf : f e = e) : es.modify j f = es := by
  apply Array.ext
  · simp
  · intro i h1 h2
    rw [Array.getElem_modify]
    split
    · rename_i hj
      subst hj
      have : es[j] = e := by
        have := Array.getElem?_eq_getElem (xs := es) (i := j) (by simpa using h1)
        rw [h] at this; exact (Option.some.inj this).symm
      rw [this, hf]
    · rfl
section
variable {P : Program} {n : Nat} {L : Sl} {H : Hp} {w0 : World} {bs : List Res} {Q : Exit → Act → World → Prop} {ops : Array Oper} {rest : List Oper} {K : Act → World → Prop}
variable {d : Option Tmp} {ty : TypeId} {pos : String} {aft : Array Edge} {g : Option (Nat × Bool)} {v : Value} {t : Tmp} {op : Op} {x y z : Operand} {T T' : TypeId}
def mapN (P : Program) (T : TypeId) : Bool := match P.underlying T with | some (.map k _) => (match P.underlying k with | some .string => true | _ => false) | _ => false
theorem mapN_spec (h : mapN P T = true) : ∃ k e, P.underlying T = some (.map k e) ∧ P.underlying k = some .string := by
  unfold mapN at h
  cases hu : P.underlying T with
  | none => rw [hu] at h; cases h
  | some q =>
    rw [hu] at h
    cases q <;> simp only [Bool.false_eq_true] at h
    rename_i k e
    refine ⟨k, e, rfl, ?_⟩
    cases hk : P.underlying k with
    | none => rw [hk] at h; cases h
    | some r => rw [hk] at h; cases r <;> simp_all
theorem run_upd {W : World} {b : Nat} {ks : List (List UInt8)} {l : List UInt8} (hT : mapN P T = true) (hb : W.heap[b]? = some (mo ks)) :
    (Instr.mapUpdate T (.map (some b)) (.string ⟨l.toArray⟩) (.bool true)).run P W = .ok () { W with heap := W.heap.setIfInBounds b (mo (addK ks l)) } := by
  obtain ⟨k, e, hu, hk⟩ := mapN_spec hT
  have hkey : IsKey .string (.string ⟨l.toArray⟩) := trivial
  have hks : ∀ x ∈ (moL 0 ks).toArray.toList, IsKey .string x.key := fun x hx => by
    obtain ⟨j, q, rfl, _⟩ := moL_key ks 0 x (by simpa using hx)
    trivial
  unfold mo at hb
  rcases findNow_spec hkey (moL 0 ks).toArray.toList 0 hks with ⟨h1, h2⟩ | ⟨j, e0, h1, h2, h3⟩
  · have hno : l ∉ ks := fun hm => by
      obtain ⟨j, hj⟩ := moL_has ks 0 l hm
      exact h2 _ (by simpa using hj) rfl
    rw [addK, if_neg hno]
    simp [Instr.mapUpdate, run_underlying hu, MapKept.run_getObj_map hb, MapKept.run_checkKey hk hkey, MapKept.run_findKey hk h1, MapKept.run_setObj_map _ hb, Result.andThen, mo, moL_snoc, moE]
  · have hj : (moL 0 ks).toArray[j]? = some e0 := by simpa using h2
    obtain ⟨i, q, rfl, hq⟩ := moL_key ks 0 e0 (List.mem_of_getElem? (by simpa using h2))
    obtain rfl := moE_inj h3
    rw [addK, if_pos hq]
    have hm : (moL 0 ks).toArray.modify j (fun e => { e with key := .string ⟨q.toArray⟩, val := .bool true }) = (moL 0 ks).toArray := modify_same hj rfl
    simp only [Instr.mapUpdate, Sem.run_bind, run_underlying hu, MapKept.run_getObj_map hb, MapKept.run_checkKey hk hkey, MapKept.run_findKey hk h1, Result.andThen, Nat.zero_add, hj, Option.map_some, Option.getD_some, h3, MapKept.run_keyThatStays hkey, MapKept.run_setObj_map _ hb, hm, mo]
theorem At.mm (hx : mapN P T = true) (ht : Nat.blt t n = true) (h : ∀ b, At n ((t, .map (some b)) :: L) H w0 (.obj b (mo []) :: bs) (wpList P ops Q rest)) : At n L H w0 bs (wpList P ops Q (⟨some t, .makeMap T none, ty, pos, aft, none⟩ :: rest)) := by
  refine cons ?_
  intro a W f s
  refine one_plain rfl ?_
  have hr : (Instr.makeMap T none).run P W = .ok (.map (some W.heap.size)) (W.alloc (.map #[] 0)) := by
    simp [Instr.makeMap, newObj, Sem.run, Result.andThen]
  unfold Oper.wp execOp
  simp only [Option.map_none, Sem.run_bind, hr, Result.andThen_ok, Sem.run_pure, Oper.upon_value]
  refine h _ _ _ (f.put ht _) ?_
  have hx : Ext W (W.alloc (.map #[] 0)) := (Ext.refl W).alloc _
  have k := s.more hx
  refine ⟨k.ext, k.agr, fun x hm => ?_, .cons (fun y hy b e e' => ?_) s.apart⟩
  · rcases List.mem_cons.1 hm with rfl | hm
    · refine ⟨⟨s.ext.size, ?_⟩, fun b e => ?_⟩
      · show (W.heap.push _)[W.heap.size]? = _
        simp [mo, moL]
      · obtain rfl : W.heap.size = b := Option.some.inj e
        exact s.agr.lt (Nat.le_refl _)
    · exact k.own x hm
  · obtain rfl : W.heap.size = b := Option.some.inj e
    have := ((s.own y hy).1.lt e').2
    omega
theorem At.mu {b : Nat} {ks : List (List UInt8)} {l : List UInt8} {bs' : List Res} (hm : Upd bs (.obj b (mo ks)) (.obj b (mo (addK ks l))) bs') (hT : mapN P T = true) (hx : ev L x = some (.map (some b))) (hy : ev L y = some (.string ⟨l.toArray⟩)) (hz : ev L z = some (.bool true)) (h : At n L H w0 bs' (wpList P ops Q rest)) :
    At n L H w0 bs (wpList P ops Q (⟨none, .mapUpdate T x y z, ty, pos, aft, none⟩ :: rest)) := by
  refine cons ?_
  intro a W f s
  refine one_plain rfl ?_
  have hb := (s.own _ hm.mem).1
  have hlt := block_lt hb.2
  unfold Oper.wp execOp
  simp only [f.ev hx, f.ev hy, f.ev hz, Sem.run_bind, run_upd hT hb.2, Result.andThen, Sem.run_pure, Oper.upon_skip]
  refine h _ _ (f.putNone _) ?_
  have hh : ∀ c, ({ W with heap := W.heap.setIfInBounds b (mo (addK ks l)) } : World).heap[c]? = if c = b then some (mo (addK ks l)) else W.heap[c]? := fun c => by
    show (W.heap.setIfInBounds b _)[c]? = _
    by_cases e : c = b
    · subst e; simp [hlt]
    · rw [if_neg e, Array.getElem?_setIfInBounds_ne (Ne.symm e)]
  have hsz : ({ W with heap := W.heap.setIfInBounds b (mo (addK ks l)) } : World).heap.size = W.heap.size := by simp
  refine s.upd hm ?_ (by omega) (fun c _ hn => ?_) ⟨hb.1, ?_⟩ (fun c e => .inl e)
  · have hx := s.ext.below
    refine Ext.of_below ⟨hx.os, hx.tape, hx.output, by rw [hsz]; exact hx.size, fun c hc => ?_⟩
    have h1 := hb.1
    rw [hh, if_neg (by omega)]
    exact hx.block c hc
  · rw [hh, if_neg (fun e => hn (by rw [e]; rfl))]
  · rw [hh, if_pos rfl]
theorem Yl.lenM {b : Nat} {ks : List (List UInt8)} (hT : mapN P T = true) (hm : Res.obj b (mo ks) ∈ bs) (hx : ev L x = some (.map (some b))) : Yl P L H w0 bs ⟨d, .call ⟨.builtin .len, #[x], #[T]⟩, ty, pos, aft, g⟩ (.int .i64 (ks.length : Nat)) := .of_run fun a W f s => by
  obtain ⟨k, e, hu, hk⟩ := mapN_spec hT
  have hb := (s.own _ hm).1.2
  unfold mo at hb
  unfold execOp
  simp [f x _ hx, resolve, invoke, builtin, Builtin.len_, run_underlying hu, MapKept.run_getObj_map hb, Result.andThen, goInt, moL_len]
end
end Go.Sx
/- Pointers, strings appended to bytes, and unsafe strings: what a strings.Builder inside an own box meets. -/
namespace Go.Sx
open Go.RowKit Go.Par
section
variable {P : Program} {n : Nat} {L : Sl} {H : Hp} {w0 : World} {bs : List Res} {Q : Exit → Act → World → Prop} {ops : Array Oper} {rest : List Oper} {K : Act → World → Prop}
variable {d : Option Tmp} {ty : TypeId} {pos : String} {aft : Array Edge} {g : Option (Nat × Bool)} {v : Value} {t : Tmp} {op : Op} {x y z : Operand} {T T' : TypeId}
def ptrN (P : Program) (T : TypeId) : Option TypeId := match P.underlying T with | some (.pointer e) => if (P.info? e).isSome then some e else none | _ => none
theorem ptrN_spec {e : TypeId} (h : ptrN P T = some e) : P.underlying T = some (.pointer e) ∧ ∃ j, P.info? e = some j := by
  unfold ptrN at h
  cases hu : P.underlying T with
  | none => rw [hu] at h; cases h
  | some q =>
    rw [hu] at h
    cases q <;> simp only [reduceCtorEq] at h
    rename_i e'
    split at h
    · rename_i hi
      cases h
      exact ⟨rfl, Option.isSome_iff_exists.1 hi⟩
    · cases h
theorem Yl.neqP {e : TypeId} {a : Addr} (hT : ptrN P T = some e) (hx : ev L x = some (.pointer (some a))) (hy : ev L y = some (.pointer (some a))) : Yl P L H w0 bs ⟨d, .binOp .neq T x y T', ty, pos, aft, g⟩ (.bool false) := .of_run fun ac W f _ => by
  obtain ⟨hp, j, hj⟩ := ptrN_spec hT
  have h := Lib.run_neq_ptr_same (P := P) W a hp hj
  unfold execOp
  simp [f x _ hx, f y _ hy, Sem.run_bind, eqGuard, Sem.run_pure, Result.andThen, h]
theorem Yl.eqPn {e : TypeId} {p : Option Addr} (hT : ptrN P T = some e) (hx : ev L x = some (.pointer p)) (hy : ev L y = some (.pointer none)) : Yl P L H w0 bs ⟨d, .binOp .eql T x y T', ty, pos, aft, g⟩ (.bool p.isNone) := .of_run fun ac W f _ => by
  obtain ⟨hp, j, hj⟩ := ptrN_spec hT
  have h : ∀ q : Nat, (Op.equalIn (q + 1) T (.pointer p) (.pointer none)).run P W = .ok p.isNone W := fun q => by
    cases p <;> simp [Op.equalIn, run_underlying hp]
  unfold execOp
  simp [f x _ hx, f y _ hy, Sem.run_bind, eqGuard, Sem.run_pure, Result.andThen, binOp, Op.equal, Op.maxDepth, h 9999]
theorem Yl.ext {f : FuncId} {xs : List Operand} {vs : List Value} {ats : Array TypeId} (hv : evs L xs = some vs) (h : ∀ W, (callFunc f vs.toArray).run P W = .ok (.value v) W) : Yl P L H w0 bs ⟨d, .call ⟨.value (.func f), xs.toArray, ats⟩, ty, pos, aft, g⟩ v := .of_run fun a W f0 s => by
  have hm := evs_map f0 hv
  have : (#[] : Array Value) = [].toArray := rfl
  unfold execOp
  simp only [resolve, Act.eval, Deferred.ofValue, Sem.run_bind, Sem.run_pure, Result.andThen, invoke, List.map_toArray, hm, this, List.append_toArray, List.nil_append, List.append_nil, h]
def unsN (P : Program) (T : TypeId) : Bool := match P.underlying T with | some .unsafePointer => true | _ => false
theorem unsN_spec (h : unsN P T = true) : P.underlying T = some .unsafePointer := by
  unfold unsN at h
  cases hu : P.underlying T with
  | none => rw [hu] at h; cases h
  | some q => rw [hu] at h; cases q <;> simp_all
def ptrS (P : Program) (T : TypeId) : Option (TypeId × Nat) := match P.underlying T with | some (.pointer e) => (P.info? e).map fun j => (e, j.size) | _ => none
theorem ptrS_spec {e : TypeId} {m : Nat} (h : ptrS P T = some (e, m)) : P.underlying T = some (.pointer e) ∧ ∃ j, P.info? e = some j ∧ j.size = m := by
  unfold ptrS at h
  cases hu : P.underlying T with
  | none => rw [hu] at h; cases h
  | some q =>
    rw [hu] at h
    cases q <;> simp only [reduceCtorEq] at h
    rename_i e'
    obtain ⟨j, hj, h2⟩ := Option.map_eq_some_iff.1 h
    injection h2 with h3 h4
    subst h3 h4
    exact ⟨rfl, j, hj, rfl⟩
theorem St.shape {W : World} {b : Nat} {l : List Value} {t' : TypeId} (s : St H w0 bs W) (hm : Res.box b l t' ∈ bs) : W.shape? b = some (t', l.length) := by
  have hb := (s.own _ hm).1.2
  simp [World.shape?, hb]
theorem Yl.toU {e : TypeId} {m b : Nat} {l : List Value} {t' : TypeId} (hT : ptrS P T = some (e, m + 1)) (hT' : unsN P T' = true) (hm : Res.box b l t' ∈ bs) (hl : 0 < l.length) (hx : ev L x = some (.pointer (some ⟨b, 0, none⟩))) : Yl P L H w0 bs ⟨d, .convert T T' x, ty, pos, aft, g⟩ (.pointer (some ⟨b, 0, none⟩)) := .of_run fun ac W f s => by
  obtain ⟨hp, j, hj, hjs⟩ := ptrS_spec hT
  have h := Lib.run_to_unsafe (P := P) W ⟨b, 0, none⟩ hp (unsN_spec hT') hj (by omega) (s.shape hm) hl
  unfold execOp
  simp only [f x _ hx, Sem.run_bind, h, Result.andThen, Sem.run_pure]
theorem Yl.fromU {e : TypeId} {m b : Nat} {l : List Value} {t' : TypeId} (hT : unsN P T = true) (hT' : ptrS P T' = some (e, m)) (hm : Res.box b l t' ∈ bs) (hlies : liesAt P P.depth t' (l.length / P.cellsOf t') 0 e 1 = true) (hx : ev L x = some (.pointer (some ⟨b, 0, none⟩))) : Yl P L H w0 bs ⟨d, .convert T T' x, ty, pos, aft, g⟩ (.pointer (some ⟨b, 0, none⟩)) := .of_run fun ac W f s => by
  obtain ⟨hp, j, hj, hjs⟩ := ptrS_spec hT'
  have h := Lib.run_from_unsafe (P := P) W ⟨b, 0, none⟩ (unsN_spec hT) hp hj (s.shape hm) hlies
  unfold execOp
  simp only [f x _ hx, Sem.run_bind, h, Result.andThen, Sem.run_pure]
theorem strCells_eq (l : List UInt8) : Lib.strCells ⟨l.toArray⟩ = l.map byteV := by simp [Lib.strCells, byteV]
def byteN (P : Program) (T : TypeId) : Option TypeId := match P.underlying T with | some (.slice e) => (P.info? e).bind fun i => (match i.zero with | some (.int .u8 0) => if i.size = 1 ∧ i.bytes = 1 then some e else none | _ => none) | _ => none
theorem byteN_spec {e : TypeId} (h : byteN P T = some e) : P.underlying T = some (.slice e) ∧ ∃ i, P.info? e = some i ∧ i.zero = some (.int .u8 0) ∧ i.size = 1 ∧ i.bytes = 1 := by
  unfold byteN at h
  cases hu : P.underlying T with
  | none => rw [hu] at h; cases h
  | some q =>
    rw [hu] at h
    cases q <;> simp only [reduceCtorEq] at h
    rename_i e'
    obtain ⟨i, hi, h2⟩ := Option.bind_eq_some_iff.1 h
    split at h2
    · rename_i hz
      split at h2
      · rename_i hs
        cases h2
        exact ⟨rfl, i, hi, hz, hs.1, hs.2⟩
      · cases h2
    · cases h2
/-- append(bytes, string...). -/
theorem At.as {e T2 : TypeId} {k : Nat} {r : Value} {l s0 : List UInt8} {bs' : Value → List Res} (hT : byteN P T = some e) (hT2 : isStr P T2 = true) (hx : ev L x = some r) (hm : ∀ r', Upd bs (.row e 1 r k (l.map byteV)) (.row e 1 r' (k + s0.length) ((l ++ s0).map byteV)) (bs' r'))
    (hy : ev L y = some (.string ⟨s0.toArray⟩)) (hb : k + s0.length ≤ 140737488355328) (ht : Nat.blt t n = true)
    (h : ∀ r', At n ((t, r') :: L) H w0 (bs' r') (wpList P ops Q rest)) : At n L H w0 bs (wpList P ops Q (⟨some t, .call ⟨.builtin .append, #[x, y], #[T, T2]⟩, ty, pos, aft, none⟩ :: rest)) := by
  obtain ⟨hu, i, hi, hz, hs1, hby⟩ := byteN_spec hT
  refine cons ?_
  intro a W f s
  have hown : W.ownsRow w0.heap.size e 1 r k (l.map byteV) := (s.own _ (hm r).mem).1
  have hsz : (⟨s0.toArray⟩ : ByteArray).size = s0.length := str_size s0
  obtain ⟨v', W', hr, ho, hg, hnil⟩ := Lib.run_append_own_string (P := P) W w0.heap.size T T2 ty e i hu (isStr_spec hT2) hi hz hs1 hby r k (l.map byteV) hown ⟨s0.toArray⟩ (by rw [hsz]; simp only [maxLen]; omega) (by rw [hsz]; exact hb) s.ext.size
  rw [strCells_eq, ← List.map_append, hsz] at ho
  have hblk : ∀ q, v'.ownBlock = some q → r.ownBlock = some q ∨ W.heap.size ≤ q := by
    have hus := isStr_spec hT2
    rcases hown.2 with ⟨rfl, rfl⟩ | ⟨g, cap, cur, rfl, hbg, hgc, hnc, hcm, hcs, htake⟩
    · intro q hq
      by_cases hm0 : s0.length = 0
      · rw [hnil.2 ⟨rfl, by rw [hsz]; exact hm0⟩] at hq; cases hq
      · have h2 := run_append_nil_string (P := P) W T T2 ty e i (.int .u8 0) hu hus hi hz ⟨s0.toArray⟩ (by omega) (by omega) (by rw [hby, hsz]; omega)
        rw [h2] at hr
        injection hr with e1 e2
        rw [← e1] at hq
        right
        have := Option.some.inj hq
        simp at this
        omega
    · intro q hq
      by_cases hroom : k + s0.length ≤ cap
      · have hcs' : cur.size = cap := by simpa using hcs
        have h2 := Lib.run_append_room_string (P := P) W T T2 ty e i hu hus hi hs1 g k cap cur hgc ⟨s0.toArray⟩ (by rw [hsz]; exact hroom) (by rw [hsz]; omega)
        rw [h2] at hr
        injection hr with e1 e2
        rw [← e1] at hq
        exact .inl hq
      · have h2 := Lib.run_append_grow_string (P := P) W T T2 ty e i (.int .u8 0) hu hus hi hz ⟨g, 0, none⟩ k cap (l.map byteV) (by rw [hs1]; exact hown.1) (World.ownsRow.cells hown (g := g) rfl) ⟨s0.toArray⟩ (by omega) (by omega) (by rw [hby, hsz]; exact growslice_fits (by omega) (by omega))
        rw [h2] at hr
        injection hr with e1 e2
        rw [← e1] at hq
        right
        have := Option.some.inj hq
        simp at this
        omega
  refine one_plain rfl ?_
  unfold Oper.wp execOp
  simp only [resolve, invoke, builtin, Sem.run_bind, Sem.run_pure, Result.andThen_ok, List.map_toArray, List.map_cons, List.map_nil, f.ev hx, f.ev hy, hr]
  refine h v' _ _ (f.put ht _) ?_
  have hlt : ∀ q, r.ownBlock = some q → w0.heap.size ≤ q := fun q hq => (World.ownsRow.lt hown q hq).1
  refine s.upd (hm v') ?_ hg.size (fun q hq hn => hg.block q hq (fun e => hn e.symm)) ho hblk
  refine Ext.of_below ⟨hg.os.trans s.ext.below.os, hg.tape.trans s.ext.below.tape, hg.output.trans s.ext.below.output, Nat.le_trans s.ext.below.size hg.size, fun q hq => ?_⟩
  rw [hg.block q (Nat.lt_of_lt_of_le hq s.ext.size) (fun e => by have := hlt q e.symm; omega)]
  exact s.ext.below.block q hq
theorem Yl.sliceData {b m c : Nat} {ts : Array TypeId} (hc : c ≠ 0) (hx : ev L x = some (.slice (some ⟨b, 0, none⟩) m c)) : Yl P L H w0 bs ⟨d, .call ⟨.builtin .unsafeSliceData, #[x], ts⟩, ty, pos, aft, g⟩ (.pointer (some ⟨b, 0, none⟩)) := .of_run fun ac W f _ => by
  have h1 : (Builtin.unsafeSliceData_ ts ty #[.slice (some ⟨b, 0, none⟩) m c]).run P W = .ok (.pointer (some ⟨b, 0, none⟩)) W := by
    have e : Builtin.unsafeSliceData_ ts ty #[.slice (some ⟨b, 0, none⟩) m c] = (if c ≠ 0 then pure (.pointer (some ⟨b, 0, none⟩)) else do
      if (← viewAt b).isSome then pure (.pointer (some ⟨b, 0, none⟩)) else pure (.pointer (some ⟨← newObj (.view ⟨b, 0, none⟩ (← elemOf ty)), 0, none⟩))) := rfl
    rw [e, if_pos hc]; simp
  unfold execOp
  simp only [f x _ hx, resolve, invoke, builtin, Sem.run_bind, Sem.run_pure, Result.andThen_ok, List.map_toArray, List.map_cons, List.map_nil, h1]
/-- unsafe.String of an own row's bytes: the row is given up. -/
theorem At.us {e pt it : TypeId} {b c k : Nat} {l : List UInt8} {z : Int} (hp : ptrS P pt = some (e, k)) (hc1 : P.cellsOf e = 1) (hm : Res.row e 1 (.slice (some ⟨b, 0, none⟩) l.length c) l.length (l.map byteV) ∈ bs) (h0 : l ≠ []) (h63 : l.length ≤ 9223372036854775807) (hx : ev L x = some (.pointer (some ⟨b, 0, none⟩))) (hy : ev L y = some (.int .i64 z)) (hz : z = (l.length : Nat)) (ht : Nat.blt t n = true)
    (h : At n ((t, .string ⟨l.toArray⟩) :: L) H w0 [] (wpList P ops Q rest)) : At n L H w0 bs (wpList P ops Q (⟨some t, .call ⟨.builtin .unsafeString, #[x, y], #[pt, it]⟩, ty, pos, aft, none⟩ :: rest)) := by
  subst hz
  refine cons ?_
  intro a W f s
  obtain ⟨hu, j, hj, hjs⟩ := ptrS_spec hp
  have hown := (s.own _ hm).1
  have hH := (s.own _ hm).2 b rfl
  obtain ⟨_, ⟨h1, _⟩ | ⟨g, cap, cur, e1, hg, hc, hn, hcm, hcs, htk⟩⟩ := hown
  · cases h1
  injection e1 with e2 e3 e4
  obtain rfl : b = g := by injection (Option.some.inj e2)
  have hcells := World.ownsRow.cells (s.own _ hm).1 (g := b) rfl
  have hcs' : cur.size = cap := by simpa using hcs
  have hr := Lib.run_unsafeString_row (P := P) W pt it ty e hu hc1 b cur.size (by simp [World.shape?, hc]) l h0 (by omega) h63 (fun q u hq => hcells q _ (by rw [List.getElem?_map, hq]; rfl))
  have hl0 : l.length ≠ 0 := by simpa using h0
  refine one_plain rfl ?_
  unfold Oper.wp execOp
  simp only [resolve, invoke, builtin, Sem.run_bind, Sem.run_pure, Result.andThen_ok, List.map_toArray, List.map_cons, List.map_nil, f.ev hx, f.ev hy, hr]
  refine h _ _ (f.put ht _) ?_
  have hk : ∀ q, q ≠ b → (W.freeze ⟨b, 0, none⟩ l.length).heap[q]? = W.heap[q]? := fun q hq => by
    unfold World.freeze
    rw [if_neg hl0]
    show (W.heap.modify b _)[q]? = _
    rw [Array.getElem?_modify, if_neg (Ne.symm hq)]
  have hsz : (W.freeze ⟨b, 0, none⟩ l.length).heap.size = W.heap.size := by unfold World.freeze; rw [if_neg hl0]; simp
  have hx := s.ext.below
  have h5 : (W.freeze ⟨b, 0, none⟩ l.length).os = W.os ∧ (W.freeze ⟨b, 0, none⟩ l.length).tape = W.tape ∧ (W.freeze ⟨b, 0, none⟩ l.length).output = W.output := by unfold World.freeze; rw [if_neg hl0]; exact ⟨rfl, rfl, rfl⟩
  refine ⟨Ext.of_below ⟨h5.1.trans hx.os, h5.2.1.trans hx.tape, h5.2.2.trans hx.output, by rw [hsz]; exact hx.size, fun q hq => ?_⟩, fun q o hq => ?_, (fun _ h => by cases h), .nil⟩
  · rw [hk q (by omega)]; exact hx.block q hq
  · rw [hk q (fun e => by rw [e, hH] at hq; cases hq)]; exact s.agr q o hq
theorem St.pickT {W : World} {hd tl hd' : List Res} (s : St H w0 (hd ++ tl) W) (ix : List Nat) (hn : nodupB ix = true) (hm : ix.map (fun i => hd[i]?) = hd'.map some) : St H w0 (hd' ++ tl) W := by
  have hlt : ∀ i x, hd[i]? = some x → (hd ++ tl)[i]? = some x := fun i x e => by
    rw [List.getElem?_append_left (List.getElem?_eq_some_iff.1 e).1]; exact e
  have key : ∀ (ix : List Nat) (hd' : List Res), nodupB ix = true → ix.map (fun i => hd[i]?) = hd'.map some → (∀ x ∈ hd', ∃ i ∈ ix, hd[i]? = some x) ∧ (hd' ++ tl).Pairwise Res.apart := by
    intro ix
    induction ix with
    | nil =>
      intro hd' _ hm
      cases hd' with
      | nil => exact ⟨fun x hx => (by cases hx), (List.pairwise_append.1 s.apart).2.1⟩
      | cons a r => simp at hm
    | cons i r ih =>
      intro hd' hn hm
      cases hd' with
      | nil => simp at hm
      | cons a q =>
        simp only [List.map_cons, List.cons.injEq] at hm
        simp only [nodupB, Bool.and_eq_true, Bool.not_eq_true'] at hn
        obtain ⟨h1, h2⟩ := ih q hn.2 hm.2
        refine ⟨fun x hx => ?_, ?_⟩
        · rcases List.mem_cons.1 hx with rfl | hx
          · exact ⟨i, .head _, hm.1⟩
          · obtain ⟨j, hj, e⟩ := h1 x hx
            exact ⟨j, .tail _ hj, e⟩
        · rw [List.cons_append, List.pairwise_cons]
          refine ⟨fun y hy => ?_, h2⟩
          rcases List.mem_append.1 hy with hy | hy
          · obtain ⟨j, hj, e⟩ := h1 y hy
            refine pairwise_at s.apart (hlt _ _ hm.1) (hlt _ _ e) fun h => ?_
            subst h
            have := hn.1
            simp [hj] at this
          · exact (List.pairwise_append.1 s.apart).2.2 a (List.mem_of_getElem? hm.1) y hy
  obtain ⟨h1, h2⟩ := key ix hd' hn hm
  refine ⟨s.ext, s.agr, fun x hx => ?_, h2⟩
  rcases List.mem_append.1 hx with hx | hx
  · obtain ⟨i, _, e⟩ := h1 x hx
    exact s.own x (List.mem_append_left _ (List.mem_of_getElem? e))
  · exact s.own x (List.mem_append_right _ hx)
theorem At.pt {G : Act → World → Prop} {hd tl hd' : List Res} (ix : List Nat) (hn : nodupB ix = true) (hm : ix.map (fun i => hd[i]?) = hd'.map some) (h : At n L H w0 (hd' ++ tl) G) : At n L H w0 (hd ++ tl) G := fun a W f s => h a W f (s.pickT ix hn hm)
/-- make([]T, m) of one-cell elements: a box of zeros. -/
theorem At.mk {e : TypeId} {v0 : Value} {bytes m : Nat} {kl kc : IntKind} {i j : Int} (hT : rowN P T = some (e, 1, bytes)) (hz0 : zeroN P e = some [v0]) (hx : ev L x = some (.int kl i)) (hy : ev L y = some (.int kc j)) (hi : i = (m : Int)) (hj : j = (m : Int)) (hb : bytes * m ≤ 281474976710656) (h63 : m ≤ 9223372036854775807) (ht : Nat.blt t n = true)
    (h : ∀ b, At n ((t, .slice (some ⟨b, 0, none⟩) m m) :: L) H w0 (.box b (List.replicate m v0) e :: bs) (wpList P ops Q rest)) : At n L H w0 bs (wpList P ops Q (⟨some t, .makeSlice T x y, ty, pos, aft, none⟩ :: rest)) := by
  subst hi hj
  obtain ⟨hu, q, z, hq, hz, hsz, hby, hzs, h0⟩ := rowN_spec hT
  have hz1 : z.cells.toList = [v0] := by
    have h2 := hz0
    unfold zeroN at h2
    rw [hq] at h2
    simp only [Option.bind_some, hz, Option.map_some, Option.some.injEq] at h2
    exact h2
  refine cons ?_
  intro a W f s
  refine one_plain rfl ?_
  have hbz : (q.bytes : Int) * (m : Int) ≤ 281474976710656 := by
    have h5 : ((q.bytes * m : Nat) : Int) ≤ 281474976710656 := by rw [hby]; omega
    rwa [Int.natCast_mul] at h5
  have hr := run_make (P := P) W T e q z hu hq hz kl kc m m (by omega) (Int.le_refl _) hbz (by omega)
  have hcs : madeCells z.cells (((m : Int)).toNat * q.size) = (List.replicate m v0).toArray := by
    have e1 : z.cells = #[v0] := by rw [← Array.toArray_toList (xs := z.cells), hz1]
    rw [e1, hsz, Int.toNat_natCast, Nat.mul_one]
    apply Array.ext
    · simp [madeCells]
    · intro i h1 h2
      simp [madeCells, Nat.mod_one]
  rw [hcs, Int.toNat_natCast] at hr
  unfold Oper.wp execOp
  simp only [Sem.run_bind, Sem.run_pure, Result.andThen_ok, f.ev hx, f.ev hy, hr]
  exact h _ _ _ (f.put ht _) (s.alloc _ _)
end
end Go.Sx
/- Facts on types and functions. -/
namespace Go.Proofs.YtmbiojpcidccjaaDoor
open Go.RowKit Go.Par Go.Sx
theorem Fx.agg24 : aggN Tryd.prog 24 = Option.some Option.none := by kernel_rfl
theorem Fx.agg26 : aggN Tryd.prog 26 = Option.some (Option.some 4) := by kernel_rfl
theorem Fx.agg29 : aggN Tryd.prog 29 = Option.some Option.none := by kernel_rfl
theorem Fx.agg31 : aggN Tryd.prog 31 = Option.some (Option.some 4) := by kernel_rfl
theorem Fx.call13 : callN Tryd.prog 13 = Bool.true := by kernel_rfl
theorem Fx.call14 : callN Tryd.prog 14 = Bool.true := by kernel_rfl
theorem Fx.field26_3 : fieldN Tryd.prog 26 3 = Option.some 3 := by kernel_rfl
theorem Fx.field31_3 : fieldN Tryd.prog 31 3 = Option.some 3 := by kernel_rfl
theorem Fx.size26 : sizeN Tryd.prog 26 = Option.some 4 := by kernel_rfl
theorem Fx.sl24 : slN Tryd.prog 24 = Option.some 4 := by kernel_rfl
theorem Fx.sl29 : slN Tryd.prog 29 = Option.some 4 := by kernel_rfl
theorem Fx.zero26 : zeroN Tryd.prog 26 = Option.some
  [Go.Value.int Go.IntKind.i64 (Int.ofNat 0), Go.Value.string { data := { toList := [] } },
    Go.Value.int Go.IntKind.i64 (Int.ofNat 0), Go.Value.slice Option.none 0 0] := by kernel_rfl
end Go.Proofs.YtmbiojpcidccjaaDoor
/- Trees: expressions, statements, fleets, and how they lie in memory. -/
namespace Go.Proofs.YtmbiojpcidccjaaDoor
open Go.RowKit Go.Par Go.Sx
abbrev Str := List UInt8
def strV (l : Str) : Value := .string ⟨l.toArray⟩
inductive Ex where
  | mk (op : UInt8) (nm : Str) (n : Int64) (args : List Ex)
inductive Sm where
  | mk (kind : UInt8) (nm hd : Str) (ex : List Ex) (th el : List Sm)
def Ex.op : Ex → UInt8 | .mk op _ _ _ => op
def Ex.nm : Ex → Str | .mk _ nm _ _ => nm
def Ex.n : Ex → Int64 | .mk _ _ n _ => n
def Ex.args : Ex → List Ex | .mk _ _ _ args => args
mutual
def dEx (k : IntKind) : Ex → D
  | .mk op nm n args => .str [.val (.int k op.toNat), .val (strV nm), .val (.int .i64 n.toInt), .seq 4 (dExs k args)]
def dExs (k : IntKind) : List Ex → List D
  | [] => []
  | e :: r => dEx k e :: dExs k r
end
theorem dExs_map (k : IntKind) : ∀ l, dExs k l = l.map (dEx k)
  | [] => rfl
  | e :: r => by rw [dExs, dExs_map k r]; rfl
theorem dEx_mk (k : IntKind) (op : UInt8) (nm : Str) (n : Int64) (args : List Ex) : dEx k (.mk op nm n args) = .str [.val (.int k op.toNat), .val (strV nm), .val (.int .i64 n.toInt), .seq 4 (args.map (dEx k))] := by rw [dEx, dExs_map]
mutual
def dSm (k : IntKind) : Sm → D
  | .mk kd nm hd ex th el => .str [.val (.int k kd.toNat), .val (strV nm), .val (strV hd), .seq 4 (ex.map (dEx k)), .seq 6 (dSms k th), .seq 6 (dSms k el)]
def dSms (k : IntKind) : List Sm → List D
  | [] => []
  | e :: r => dSm k e :: dSms k r
end
theorem dSms_map (k : IntKind) : ∀ l, dSms k l = l.map (dSm k)
  | [] => rfl
  | e :: r => by rw [dSms, dSms_map k r]; rfl
theorem dSm_mk (k : IntKind) (kd : UInt8) (nm hd : Str) (ex : List Ex) (th el : List Sm) : dSm k (.mk kd nm hd ex th el) = .str [.val (.int k kd.toNat), .val (strV nm), .val (strV hd), .seq 4 (ex.map (dEx k)), .seq 6 (th.map (dSm k)), .seq 6 (el.map (dSm k))] := by rw [dSm, dSms_map, dSms_map]
theorem Ex.ind {C : Ex → Prop} (h : ∀ op nm n args, (∀ a ∈ args, C a) → C (.mk op nm n args)) : ∀ e, C e
  | .mk op nm n args => h op nm n args fun a ha => Ex.ind h a
termination_by e => SizeOf.sizeOf e
decreasing_by
  have := List.sizeOf_lt_of_mem ha
  simp; omega
theorem Sm.ind {C : Sm → Prop} (h : ∀ kd nm hd ex th el, (∀ a ∈ th, C a) → (∀ a ∈ el, C a) → C (.mk kd nm hd ex th el)) : ∀ e, C e
  | .mk kd nm hd ex th el => h kd nm hd ex th el (fun a ha => Sm.ind h a) (fun a ha => Sm.ind h a)
termination_by e => SizeOf.sizeOf e
decreasing_by
  all_goals
    have := List.sizeOf_lt_of_mem ha
    simp; omega
structure Hd where
  nm : Str
  ps : List Str
  body : List Sm
structure Vr where
  nm : Str
  ty : UInt8
  init : Int64
structure Cp where
  nm : Str
  vars : List Vr
  vers : List (List Hd)
structure Fg where
  nm : Str
  init : Bool
structure Lk where
  fr : Str
  to : Str
  lat : Int64
structure Ft where
  nm : Str
  flags : List Fg
  links : List Lk
  comps : List Cp
def dStr (s : Str) : D := .val (strV s)
def dHd (k : IntKind) (h : Hd) : D := .str [.val (strV h.nm), .seq 1 (h.ps.map dStr), .seq 6 (h.body.map (dSm k))]
def dVr (k : IntKind) (v : Vr) : D := .str [.val (strV v.nm), .val (.int k v.ty.toNat), .val (.int .i64 v.init.toInt)]
def dVs (k : IntKind) (v : List Hd) : D := .seq 3 (v.map (dHd k))
def dCp (k : IntKind) (c : Cp) : D := .str [.val (strV c.nm), .seq 3 (c.vars.map (dVr k)), .seq 1 (c.vers.map (dVs k))]
def dFg (f : Fg) : D := .str [.val (strV f.nm), .val (.bool f.init)]
def dLk (l : Lk) : D := .str [.val (strV l.fr), .val (strV l.to), .val (.int .i64 l.lat.toInt)]
def dFt (k : IntKind) (f : Ft) : D := .str [.val (strV f.nm), .seq 2 (f.flags.map dFg), .seq 3 (f.links.map dLk), .seq 3 (f.comps.map (dCp k))]
/-! ### Structs opened and shut -/
section
variable {H : Hp}
theorem repV {v : Value} (h : v.oneCell' = true) (k : okV v) : Rep H (.val v) [v] := by unfold Rep; exact ⟨rfl, h, k⟩
theorem okS {l : Str} : okV (strV l) ↔ l.length ≤ 1000000 := by simp [okV, strV, ByteArray.size]
theorem repV_inv {v : Value} {l : List Value} (h : Rep H (.val v) l) : l = [v] := by unfold Rep at h; exact h.1
theorem repL_cons {d : D} {ds : List D} {l : List Value} : RepL H (d :: ds) l ↔ ∃ x y, l = x ++ y ∧ Rep H d x ∧ RepL H ds y := by
  constructor
  · intro h; unfold RepL at h; exact h
  · intro h; unfold RepL; exact h
theorem repL_nil {l : List Value} : RepL H [] l ↔ l = [] := by
  constructor
  · intro h; unfold RepL at h; exact h
  · intro h; unfold RepL; exact h
theorem repS {ds : List D} {l : List Value} : Rep H (.str ds) l ↔ RepL H ds l := by
  constructor
  · intro h; unfold Rep at h; exact h
  · intro h; unfold Rep; exact h
/-- One cell ahead of the rest. -/
theorem repL_val {v : Value} {ds : List D} {l : List Value} : RepL H (.val v :: ds) l ↔ ∃ y, l = v :: y ∧ v.oneCell' = true ∧ okV v ∧ RepL H ds y := by
  rw [repL_cons]
  constructor
  · rintro ⟨x, y, rfl, hx, hy⟩
    unfold Rep at hx
    obtain ⟨rfl, h, k⟩ := hx
    exact ⟨y, rfl, h, k, hy⟩
  · rintro ⟨y, rfl, h, k, hy⟩
    exact ⟨[v], y, rfl, repV h k, hy⟩
theorem repL_seq {z : Nat} {es ds : List D} {l : List Value} : RepL H (.seq z es :: ds) l ↔ ∃ p c y, l = .slice p es.length c :: y ∧ Rep H (.seq z es) [.slice p es.length c] ∧ RepL H ds y := by
  rw [repL_cons]
  constructor
  · rintro ⟨x, y, rfl, hx, hy⟩
    obtain ⟨p, c, rfl, _⟩ := hx.sl
    exact ⟨p, c, y, rfl, hx, hy⟩
  · rintro ⟨p, c, y, rfl, hx, hy⟩
    exact ⟨_, y, rfl, hx, hy⟩
theorem map_at {α β : Type} {f : α → β} {l : List α} {k : Nat} (h : k < l.length) : (l.map f)[k]? = some (f l[k]) := by simp [h]
theorem ex_open {k : IntKind} {op : UInt8} {nm : Str} {n : Int64} {args : List Ex} {cs : List Value} (h : Rep H (dEx k (.mk op nm n args)) cs) :
    ∃ p c, cs = [.int k op.toNat, strV nm, .int .i64 n.toInt, .slice p args.length c] ∧ Rep H (.seq 4 (args.map (dEx k))) [.slice p args.length c] ∧ nm.length ≤ 1000000 := by
  rw [dEx_mk, repS] at h
  obtain ⟨_, rfl, _, _, h⟩ := repL_val.1 h
  obtain ⟨_, rfl, _, hn, h⟩ := repL_val.1 h
  obtain ⟨_, rfl, _, _, h⟩ := repL_val.1 h
  obtain ⟨p, c, _, rfl, hs, h⟩ := repL_seq.1 h
  rw [repL_nil] at h
  subst h
  rw [List.length_map] at hs ⊢
  exact ⟨p, c, rfl, hs, okS.1 hn⟩
theorem ex_shut {k : IntKind} {op : UInt8} {nm : Str} {n : Int64} {args : List Ex} {s : Value} (hn : nm.length ≤ 1000000) (h : Rep H (.seq 4 (args.map (dEx k))) [s]) :
    Rep H (dEx k (.mk op nm n args)) [.int k op.toNat, strV nm, .int .i64 n.toInt, s] := by
  rw [dEx_mk, repS]
  exact repL_val.2 ⟨_, rfl, rfl, trivial, repL_val.2 ⟨_, rfl, rfl, okS.2 hn, repL_val.2 ⟨_, rfl, rfl, trivial, repL_cons.2 ⟨[s], [], rfl, h, repL_nil.2 rfl⟩⟩⟩⟩
theorem sm_open {k : IntKind} {kd : UInt8} {nm hd : Str} {ex : List Ex} {th el : List Sm} {cs : List Value} (h : Rep H (dSm k (.mk kd nm hd ex th el)) cs) :
    ∃ p c p1 c1 p2 c2, cs = [.int k kd.toNat, strV nm, strV hd, .slice p ex.length c, .slice p1 th.length c1, .slice p2 el.length c2] ∧ Rep H (.seq 4 (ex.map (dEx k))) [.slice p ex.length c] ∧ Rep H (.seq 6 (th.map (dSm k))) [.slice p1 th.length c1] ∧ Rep H (.seq 6 (el.map (dSm k))) [.slice p2 el.length c2] ∧ nm.length ≤ 1000000 ∧ hd.length ≤ 1000000 := by
  rw [dSm_mk, repS] at h
  obtain ⟨_, rfl, _, _, h⟩ := repL_val.1 h
  obtain ⟨_, rfl, _, hn, h⟩ := repL_val.1 h
  obtain ⟨_, rfl, _, hm, h⟩ := repL_val.1 h
  obtain ⟨p, c, _, rfl, hs, h⟩ := repL_seq.1 h
  obtain ⟨p1, c1, _, rfl, hs1, h⟩ := repL_seq.1 h
  obtain ⟨p2, c2, _, rfl, hs2, h⟩ := repL_seq.1 h
  rw [repL_nil] at h
  subst h
  rw [List.length_map] at hs hs1 hs2
  exact ⟨p, c, p1, c1, p2, c2, by rw [List.length_map, List.length_map, List.length_map], hs, hs1, hs2, okS.1 hn, okS.1 hm⟩
theorem sm_shut {k : IntKind} {kd : UInt8} {nm hd : Str} {ex : List Ex} {th el : List Sm} {s s1 s2 : Value} (hn : nm.length ≤ 1000000) (hm : hd.length ≤ 1000000) (h : Rep H (.seq 4 (ex.map (dEx k))) [s]) (h1 : Rep H (.seq 6 (th.map (dSm k))) [s1]) (h2 : Rep H (.seq 6 (el.map (dSm k))) [s2]) :
    Rep H (dSm k (.mk kd nm hd ex th el)) [.int k kd.toNat, strV nm, strV hd, s, s1, s2] := by
  rw [dSm_mk, repS]
  exact repL_val.2 ⟨_, rfl, rfl, trivial, repL_val.2 ⟨_, rfl, rfl, okS.2 hn, repL_val.2 ⟨_, rfl, rfl, okS.2 hm, repL_cons.2 ⟨[s], _, rfl, h, repL_cons.2 ⟨[s1], _, rfl, h1, repL_cons.2 ⟨[s2], [], rfl, h2, repL_nil.2 rfl⟩⟩⟩⟩⟩⟩
theorem hd_open {k : IntKind} {x : Hd} {cs : List Value} (h : Rep H (dHd k x) cs) :
    ∃ p1 c1 p2 c2, cs = [strV x.nm, .slice p1 x.ps.length c1, .slice p2 x.body.length c2] ∧ x.nm.length ≤ 1000000 ∧ Rep H (.seq 1 (x.ps.map dStr)) [.slice p1 x.ps.length c1] ∧ Rep H (.seq 6 (x.body.map (dSm k))) [.slice p2 x.body.length c2] := by
  rw [dHd, repS] at h
  obtain ⟨_, rfl, _, k0, h⟩ := repL_val.1 h
  obtain ⟨p1, c1, _, rfl, k1, h⟩ := repL_seq.1 h
  obtain ⟨p2, c2, _, rfl, k2, h⟩ := repL_seq.1 h
  rw [repL_nil] at h
  subst h
  exact ⟨p1, c1, p2, c2, by simp, okS.1 k0, (by simpa using k1), (by simpa using k2)⟩
theorem hd_shut {k : IntKind} {x : Hd} (k0 : x.nm.length ≤ 1000000) {s1 : Value} (k1 : Rep H (.seq 1 (x.ps.map dStr)) [s1]) {s2 : Value} (k2 : Rep H (.seq 6 (x.body.map (dSm k))) [s2]) : Rep H (dHd k x) [strV x.nm, s1, s2] := by
  rw [dHd, repS]
  exact repL_val.2 ⟨_, rfl, rfl, okS.2 k0, repL_cons.2 ⟨[s1], _, rfl, k1, repL_cons.2 ⟨[s2], _, rfl, k2, repL_nil.2 rfl⟩⟩⟩
theorem vr_open {k : IntKind} {x : Vr} {cs : List Value} (h : Rep H (dVr k x) cs) :
    cs = [strV x.nm, .int k x.ty.toNat, .int .i64 x.init.toInt] ∧ x.nm.length ≤ 1000000 := by
  rw [dVr, repS] at h
  obtain ⟨_, rfl, _, k0, h⟩ := repL_val.1 h
  obtain ⟨_, rfl, _, _, h⟩ := repL_val.1 h
  obtain ⟨_, rfl, _, _, h⟩ := repL_val.1 h
  rw [repL_nil] at h
  subst h
  exact ⟨by simp, okS.1 k0⟩
theorem vr_shut {k : IntKind} {x : Vr} (k0 : x.nm.length ≤ 1000000) : Rep H (dVr k x) [strV x.nm, .int k x.ty.toNat, .int .i64 x.init.toInt] := by
  rw [dVr, repS]
  exact repL_val.2 ⟨_, rfl, rfl, okS.2 k0, repL_val.2 ⟨_, rfl, rfl, trivial, repL_val.2 ⟨_, rfl, rfl, trivial, repL_nil.2 rfl⟩⟩⟩
theorem cp_open {k : IntKind} {x : Cp} {cs : List Value} (h : Rep H (dCp k x) cs) :
    ∃ p1 c1 p2 c2, cs = [strV x.nm, .slice p1 x.vars.length c1, .slice p2 x.vers.length c2] ∧ x.nm.length ≤ 1000000 ∧ Rep H (.seq 3 (x.vars.map (dVr k))) [.slice p1 x.vars.length c1] ∧ Rep H (.seq 1 (x.vers.map (dVs k))) [.slice p2 x.vers.length c2] := by
  rw [dCp, repS] at h
  obtain ⟨_, rfl, _, k0, h⟩ := repL_val.1 h
  obtain ⟨p1, c1, _, rfl, k1, h⟩ := repL_seq.1 h
  obtain ⟨p2, c2, _, rfl, k2, h⟩ := repL_seq.1 h
  rw [repL_nil] at h
  subst h
  exact ⟨p1, c1, p2, c2, by simp, okS.1 k0, (by simpa using k1), (by simpa using k2)⟩
theorem cp_shut {k : IntKind} {x : Cp} (k0 : x.nm.length ≤ 1000000) {s1 : Value} (k1 : Rep H (.seq 3 (x.vars.map (dVr k))) [s1]) {s2 : Value} (k2 : Rep H (.seq 1 (x.vers.map (dVs k))) [s2]) : Rep H (dCp k x) [strV x.nm, s1, s2] := by
  rw [dCp, repS]
  exact repL_val.2 ⟨_, rfl, rfl, okS.2 k0, repL_cons.2 ⟨[s1], _, rfl, k1, repL_cons.2 ⟨[s2], _, rfl, k2, repL_nil.2 rfl⟩⟩⟩
theorem fg_open {x : Fg} {cs : List Value} (h : Rep H (dFg x) cs) :
    cs = [strV x.nm, .bool x.init] ∧ x.nm.length ≤ 1000000 := by
  rw [dFg, repS] at h
  obtain ⟨_, rfl, _, k0, h⟩ := repL_val.1 h
  obtain ⟨_, rfl, _, _, h⟩ := repL_val.1 h
  rw [repL_nil] at h
  subst h
  exact ⟨by simp, okS.1 k0⟩
theorem fg_shut {x : Fg} (k0 : x.nm.length ≤ 1000000) : Rep H (dFg x) [strV x.nm, .bool x.init] := by
  rw [dFg, repS]
  exact repL_val.2 ⟨_, rfl, rfl, okS.2 k0, repL_val.2 ⟨_, rfl, rfl, trivial, repL_nil.2 rfl⟩⟩
theorem lk_open {x : Lk} {cs : List Value} (h : Rep H (dLk x) cs) :
    cs = [strV x.fr, strV x.to, .int .i64 x.lat.toInt] ∧ x.fr.length ≤ 1000000 ∧ x.to.length ≤ 1000000 := by
  rw [dLk, repS] at h
  obtain ⟨_, rfl, _, k0, h⟩ := repL_val.1 h
  obtain ⟨_, rfl, _, k1, h⟩ := repL_val.1 h
  obtain ⟨_, rfl, _, _, h⟩ := repL_val.1 h
  rw [repL_nil] at h
  subst h
  exact ⟨by simp, okS.1 k0, okS.1 k1⟩
theorem lk_shut {x : Lk} (k0 : x.fr.length ≤ 1000000) (k1 : x.to.length ≤ 1000000) : Rep H (dLk x) [strV x.fr, strV x.to, .int .i64 x.lat.toInt] := by
  rw [dLk, repS]
  exact repL_val.2 ⟨_, rfl, rfl, okS.2 k0, repL_val.2 ⟨_, rfl, rfl, okS.2 k1, repL_val.2 ⟨_, rfl, rfl, trivial, repL_nil.2 rfl⟩⟩⟩
theorem ft_open {k : IntKind} {x : Ft} {cs : List Value} (h : Rep H (dFt k x) cs) :
    ∃ p1 c1 p2 c2 p3 c3, cs = [strV x.nm, .slice p1 x.flags.length c1, .slice p2 x.links.length c2, .slice p3 x.comps.length c3] ∧ x.nm.length ≤ 1000000 ∧ Rep H (.seq 2 (x.flags.map dFg)) [.slice p1 x.flags.length c1] ∧ Rep H (.seq 3 (x.links.map dLk)) [.slice p2 x.links.length c2] ∧ Rep H (.seq 3 (x.comps.map (dCp k))) [.slice p3 x.comps.length c3] := by
  rw [dFt, repS] at h
  obtain ⟨_, rfl, _, k0, h⟩ := repL_val.1 h
  obtain ⟨p1, c1, _, rfl, k1, h⟩ := repL_seq.1 h
  obtain ⟨p2, c2, _, rfl, k2, h⟩ := repL_seq.1 h
  obtain ⟨p3, c3, _, rfl, k3, h⟩ := repL_seq.1 h
  rw [repL_nil] at h
  subst h
  exact ⟨p1, c1, p2, c2, p3, c3, by simp, okS.1 k0, (by simpa using k1), (by simpa using k2), (by simpa using k3)⟩
theorem ft_shut {k : IntKind} {x : Ft} (k0 : x.nm.length ≤ 1000000) {s1 : Value} (k1 : Rep H (.seq 2 (x.flags.map dFg)) [s1]) {s2 : Value} (k2 : Rep H (.seq 3 (x.links.map dLk)) [s2]) {s3 : Value} (k3 : Rep H (.seq 3 (x.comps.map (dCp k))) [s3]) : Rep H (dFt k x) [strV x.nm, s1, s2, s3] := by
  rw [dFt, repS]
  exact repL_val.2 ⟨_, rfl, rfl, okS.2 k0, repL_cons.2 ⟨[s1], _, rfl, k1, repL_cons.2 ⟨[s2], _, rfl, k2, repL_cons.2 ⟨[s3], _, rfl, k3, repL_nil.2 rfl⟩⟩⟩⟩
theorem vs_open {k : IntKind} {x : List Hd} {cs : List Value} (h : Rep H (dVs k x) cs) : ∃ p c, cs = [.slice p x.length c] ∧ Rep H (.seq 3 (x.map (dHd k))) [.slice p x.length c] := by
  rw [dVs] at h
  obtain ⟨p, c, rfl, _⟩ := h.sl
  rw [List.length_map] at h ⊢
  exact ⟨p, c, rfl, h⟩
theorem str_open {x : Str} {cs : List Value} (h : Rep H (dStr x) cs) : cs = [strV x] ∧ x.length ≤ 1000000 := by
  unfold dStr Rep at h
  exact ⟨h.1, okS.1 h.2.2⟩
theorem str_shut {x : Str} (h : x.length ≤ 1000000) : Rep H (dStr x) [strV x] := repV rfl (okS.2 h)
end
end Go.Proofs.YtmbiojpcidccjaaDoor
/- Plain: nesting and numbers of expressions and statements. -/
namespace Go.Proofs.YtmbiojpcidccjaaDoor
mutual
def Ex.depth : Ex → Nat
  | .mk _ _ _ args => Ex.deeps args + 1
def Ex.deeps : List Ex → Nat
  | [] => 0
  | e :: r => max (Ex.depth e) (Ex.deeps r)
end
theorem take_snoc {α : Type} {l : List α} {k : Nat} (h : k < l.length) : l.take (k + 1) = l.take k ++ [l[k]] := by simp
theorem deeps_app (a b : List Ex) : Ex.deeps (a ++ b) = max (Ex.deeps a) (Ex.deeps b) := by
  induction a with
  | nil => simp [Ex.deeps]
  | cons e r ih => simp only [List.cons_append, Ex.deeps, ih]; omega
theorem deeps_succ {l : List Ex} {k : Nat} (h : k < l.length) : Ex.deeps (l.take (k + 1)) = max (Ex.deeps (l.take k)) (Ex.depth l[k]) := by
  rw [take_snoc h, deeps_app]; simp [Ex.deeps]
theorem deeps_take (l : List Ex) (k : Nat) : Ex.deeps (l.take k) ≤ Ex.deeps l := by
  have := deeps_app (l.take k) (l.drop k)
  rw [List.take_append_drop] at this; omega
theorem deeps_mem {l : List Ex} {e : Ex} (h : e ∈ l) : Ex.depth e ≤ Ex.deeps l := by
  induction l with
  | nil => cases h
  | cons a r ih =>
    simp only [Ex.deeps]
    rcases List.mem_cons.1 h with rfl | h
    · omega
    · have := ih h; omega
theorem deeps_at {l : List Ex} {k : Nat} (h : k < l.length) : Ex.depth l[k] ≤ Ex.deeps l := deeps_mem (List.getElem_mem h)
theorem depth_mk (op : UInt8) (nm : Str) (n : Int64) (args : List Ex) : Ex.depth (.mk op nm n args) = Ex.deeps args + 1 := by rw [Ex.depth]
def Sm.kd : Sm → UInt8 | .mk kd _ _ _ _ _ => kd
def Sm.nm : Sm → Str | .mk _ nm _ _ _ _ => nm
def Sm.hd : Sm → Str | .mk _ _ hd _ _ _ => hd
def Sm.ex : Sm → List Ex | .mk _ _ _ ex _ _ => ex
def Sm.th : Sm → List Sm | .mk _ _ _ _ th _ => th
def Sm.el : Sm → List Sm | .mk _ _ _ _ _ el => el
/-- What holds of a list if it holds of the lists in its statements holds of every list. -/
theorem Sm.lists {C : List Sm → Prop} (h : ∀ l, (∀ s ∈ l, C s.th ∧ C s.el) → C l) : ∀ l, C l := by
  have key : ∀ s : Sm, C s.th ∧ C s.el := fun s => by
    induction s using Sm.ind with
    | _ kd nm hd ex th el ih1 ih2 => exact ⟨h th fun a ha => ih1 a ha, h el fun a ha => ih2 a ha⟩
  exact fun l => h l fun s _ => key s
mutual
def Sm.depth : Sm → Nat
  | .mk _ _ _ _ th el => max (Sm.deeps th) (Sm.deeps el) + 1
def Sm.deeps : List Sm → Nat
  | [] => 0
  | e :: r => max (Sm.depth e) (Sm.deeps r)
end
mutual
def Sm.count : Sm → Nat
  | .mk _ _ _ _ th el => Sm.counts th + Sm.counts el + 1
def Sm.counts : List Sm → Nat
  | [] => 0
  | e :: r => Sm.count e + Sm.counts r
end
theorem sdeeps_app (a b : List Sm) : Sm.deeps (a ++ b) = max (Sm.deeps a) (Sm.deeps b) := by
  induction a with
  | nil => simp [Sm.deeps]
  | cons e r ih => simp only [List.cons_append, Sm.deeps, ih]; omega
theorem sdeeps_succ {l : List Sm} {k : Nat} (h : k < l.length) : Sm.deeps (l.take (k + 1)) = max (Sm.deeps (l.take k)) (Sm.depth l[k]) := by
  rw [take_snoc h, sdeeps_app]; simp [Sm.deeps]
theorem sdeeps_take (l : List Sm) (k : Nat) : Sm.deeps (l.take k) ≤ Sm.deeps l := by
  have := sdeeps_app (l.take k) (l.drop k)
  rw [List.take_append_drop] at this; omega
theorem scounts_app (a b : List Sm) : Sm.counts (a ++ b) = Sm.counts a + Sm.counts b := by
  induction a with
  | nil => simp [Sm.counts]
  | cons e r ih => simp only [List.cons_append, Sm.counts, ih]; omega
theorem scounts_succ {l : List Sm} {k : Nat} (h : k < l.length) : Sm.counts (l.take (k + 1)) = Sm.counts (l.take k) + Sm.count l[k] := by
  rw [take_snoc h, scounts_app]; simp [Sm.counts]
theorem scounts_take (l : List Sm) (k : Nat) : Sm.counts (l.take k) ≤ Sm.counts l := by
  have := scounts_app (l.take k) (l.drop k)
  rw [List.take_append_drop] at this; omega
theorem scount_mk (kd : UInt8) (nm hd : Str) (ex : List Ex) (th el : List Sm) : Sm.count (.mk kd nm hd ex th el) = Sm.counts th + Sm.counts el + 1 := by rw [Sm.count]
theorem sdepth_mk (kd : UInt8) (nm hd : Str) (ex : List Ex) (th el : List Sm) : Sm.depth (.mk kd nm hd ex th el) = max (Sm.deeps th) (Sm.deeps el) + 1 := by rw [Sm.depth]
theorem scounts_len (l : List Sm) : l.length ≤ Sm.counts l := by
  induction l with
  | nil => simp
  | cons e r ih =>
    obtain ⟨kd, nm, hd, ex, th, el⟩ := e
    simp only [List.length_cons, Sm.counts, scount_mk]; omega
end Go.Proofs.YtmbiojpcidccjaaDoor
/- Contracts: ExprDepth. -/
namespace Go.Proofs.YtmbiojpcidccjaaDoor
open Go.RowKit Go.Par Go.Sx
set_option maxRecDepth 100000 in
theorem exprDepth_any (e : Ex) : ∀ (H : Hp) (cs : List Value) (w : World), Rep H (dEx .u8 e) cs → e.depth ≤ 1000000 → Agr H w →
    Calls Tryd.prog 13 #[.agg cs.toArray] w fun r w' => r = .returned (.int .i64 (e.depth : Nat)) ∧ Ext w w' := by
  induction e using Ex.ind with | _ op nm nn args ih
  intro H cs w h he hA
  rw [depth_mk] at he
  obtain ⟨p, c, rfl, hs, hnm⟩ := ex_open h
  have hcap := hs.cap
  refine Sx.enter (H := H) Tryd.func13 rfl Tryd.ntmps13 rfl hA ?_
  refine .sq <| .rg <| .bx rfl rfl rfl fun b1 => .a rfl rfl <| .nl <| .tN <| .sq <| .rg <| .a rfl rfl <| .nl <| .tN <| .sq <| .sq <| .rg <| .yv (.fieldAddr rfl Fx.field31_3) rfl <|
    .yv (.load rfl Fx.agg29 (.head _) rfl) rfl <| .yv (.lenSl Fx.sl29 rfl) rfl <| .m rfl rfl <| .nl <| .tN <| .bk <| .lp (X := Nat) [(1, _), (7, _)] ⟨rfl, rfl, trivial⟩ [_] (fun k => [(3, .int .i64 (Ex.deeps (args.take k) : Nat)), (8, .int .i64 (k : Nat))]) (fun k => H) (fun k => []) (fun k => k ≤ args.length) (fun k => args.length - k) 0 (fun _ s => s) ⟨rfl, rfl, trivial⟩ (by omega) fun k hC => ?_
  refine .sq <| .rg <| .yv (.lss rfl rfl) rfl <| .nl <| .tN <| .sq <| .cd rfl (fun h9 => ?_) (fun h9 => ?_)
  · try simp only [decide_eq_true_eq] at h9
    have hk : k < args.length := by omega
    obtain ⟨b5, o5, c5, hp5, r5, l5, m5⟩ := hs.elem (map_at hk)
    cases hp5
    have h1 := deeps_take args k
    have h2 := deeps_at hk
    have h3 := deeps_succ hk
    exact .sk <| .tN <| .sq <| .bk <| .sq <| .rg <| .m rfl rfl <| .a rfl rfl <| .nl <| .tN <| .rg <| .m rfl rfl <| .yv (.fieldAddr rfl Fx.field31_3) rfl <| .yv (.load rfl Fx.agg29 (.head _) rfl) rfl <|
      .m rfl rfl <| .yv (.indexSl Fx.sl29 rfl rfl rfl (by omega) (q := o5 + k * 4) rfl) rfl <| .yv (.loadMW rfl Fx.agg31 m5 l5) rfl <| .yv (.call Fx.call13 rfl (fun W s => ih _ (List.getElem_mem hk) H c5 W r5 (by omega) s.agr)) rfl <|
      .yv (.max2 rfl rfl (c := ((Ex.deeps (args.take (k + 1)) : Nat) : Int)) (by omega)) rfl <| .a rfl rfl <| .nl <| .bN <| .tN <| .rg <| .yv (.add rfl rfl (w64 (by omega) (by omega))) rfl <|
      .m rfl rfl <| .nl <| .tN <| .ag (k + 1) ⟨rfl, rfl, trivial⟩ ⟨rfl, rfl, trivial⟩ (fun _ s => s) (by omega) (by omega)
  · try simp only [decide_eq_false_iff_not] at h9
    obtain rfl : k = args.length := by omega
    rw [List.take_length]
    refine .ex <| .tE <| .tE <| .bE <| .tN <| .sq <| .rg <| .m rfl rfl <| .yv (.add rfl rfl (w64 (by omega) (by omega))) rfl <| .a rfl rfl <| .nl <| .tN <| .rt <| ?_
    exact Sx.ret1 (.inl rfl) rfl (.tmp rfl) fun W s => ⟨by rw [depth_mk]; rfl, s.ext⟩
set_option maxRecDepth 100000 in
theorem rexprDepth_any (e : Ex) : ∀ (H : Hp) (cs : List Value) (w : World), Rep H (dEx .i64 e) cs → e.depth ≤ 1000000 → Agr H w →
    Calls Tryd.prog 14 #[.agg cs.toArray] w fun r w' => r = .returned (.int .i64 (e.depth : Nat)) ∧ Ext w w' := by
  induction e using Ex.ind with | _ op nm nn args ih
  intro H cs w h he hA
  rw [depth_mk] at he
  obtain ⟨p, c, rfl, hs, hnm⟩ := ex_open h
  have hcap := hs.cap
  refine Sx.enter (H := H) Tryd.func14 rfl Tryd.ntmps14 rfl hA ?_
  refine .sq <| .rg <| .bx rfl rfl rfl fun b1 => .a rfl rfl <| .nl <| .tN <| .sq <| .rg <| .a rfl rfl <| .nl <| .tN <| .sq <| .sq <| .rg <| .yv (.fieldAddr rfl Fx.field26_3) rfl <|
    .yv (.load rfl Fx.agg24 (.head _) rfl) rfl <| .yv (.lenSl Fx.sl24 rfl) rfl <| .m rfl rfl <| .nl <| .tN <| .bk <| .lp (X := Nat) [(7, _), (8, _)] ⟨rfl, rfl, trivial⟩ [_] (fun k => [(3, .int .i64 (Ex.deeps (args.take k) : Nat)), (9, .int .i64 (k : Nat))]) (fun k => H) (fun k => []) (fun k => k ≤ args.length) (fun k => args.length - k) 0 (fun _ s => s) ⟨rfl, rfl, trivial⟩ (by omega) fun k hC => ?_
  refine .sq <| .rg <| .yv (.lss rfl rfl) rfl <| .nl <| .tN <| .sq <| .cd rfl (fun h10 => ?_) (fun h10 => ?_)
  · try simp only [decide_eq_true_eq] at h10
    have hk : k < args.length := by omega
    obtain ⟨b5, o5, c5, hp5, r5, l5, m5⟩ := hs.elem (map_at hk)
    cases hp5
    have h1 := deeps_take args k
    have h2 := deeps_at hk
    have h3 := deeps_succ hk
    exact .sk <| .tN <| .sq <| .bk <| .sq <| .rg <| .yv (.indexSl Fx.sl24 rfl rfl rfl (by omega) (q := o5 + k * 4) rfl) rfl <| .yv (.loadMW rfl Fx.agg26 m5 l5) rfl <|
      .al Fx.zero26 rfl fun b5 => .sV .head rfl rfl Fx.size26 l5 r5.one rfl <| .nl <| .tN <| .rg <| .m rfl rfl <| .yv (.loadW rfl Fx.agg26 (.head _) l5) rfl <| .yv (.call Fx.call14 rfl (fun W s => ih _ (List.getElem_mem hk) H c5 W r5 (by omega) s.agr)) rfl <|
      .yv (.max2 rfl rfl (c := ((Ex.deeps (args.take (k + 1)) : Nat) : Int)) (by omega)) rfl <| .a rfl rfl <| .nl <| .bN <| .tN <| .rg <| .yv (.add rfl rfl (w64 (by omega) (by omega))) rfl <|
      .m rfl rfl <| .nl <| .tN <| .ag (k + 1) ⟨rfl, rfl, trivial⟩ ⟨rfl, rfl, trivial⟩ (fun _ s => s.pick [1] [_] rfl rfl) (by omega) (by omega)
  · try simp only [decide_eq_false_iff_not] at h10
    obtain rfl : k = args.length := by omega
    rw [List.take_length]
    refine .ex <| .tE <| .tE <| .bE <| .tN <| .sq <| .rg <| .m rfl rfl <| .yv (.add rfl rfl (w64 (by omega) (by omega))) rfl <| .a rfl rfl <| .nl <| .tN <| .rt <| ?_
    exact Sx.ret1 (.inl rfl) rfl (.tmp rfl) fun W s => ⟨by rw [depth_mk]; rfl, s.ext⟩
end Go.Proofs.YtmbiojpcidccjaaDoor
/- Plain: bytes, words and symbols of the lexer. -/
namespace Go.Proofs.YtmbiojpcidccjaaDoor
open Go.RowKit Go.Par Go.Sx
def letB (c : UInt8) : Bool := (decide (97 ≤ c.toNat) && decide (c.toNat ≤ 122)) || (decide (65 ≤ c.toNat) && decide (c.toNat ≤ 90))
def digB (c : UInt8) : Bool := decide (48 ≤ c.toNat) && decide (c.toNat ≤ 57)
def insB (c : UInt8) : Bool := letB c || digB c || decide (c.toNat = 95)
def words : List Str := [[97, 102, 116, 101, 114], [97, 108, 119, 97, 121, 115], [97, 110, 100], [97, 114, 114, 105, 118, 101, 115], [98, 111, 111, 108], [99, 111, 109, 112, 111, 110, 101, 110, 116], [99, 111, 117, 110, 116], [100, 101, 108, 101, 116, 101], [100, 111], [101, 108, 115, 101], [101, 120, 105, 115, 116, 115], [102, 97, 108, 115, 101], [102, 101, 116, 99, 104], [102, 108, 97, 103], [102, 108, 101, 101, 116], [102, 111, 114, 97, 108, 108], [104, 97, 115], [105, 102], [105, 109, 112, 108, 105, 101, 115], [105, 110], [105, 110, 116], [108, 97, 116, 101, 110, 99, 121], [108, 105, 110, 107], [110, 111, 116], [110, 111, 119], [111, 110], [111, 110, 99, 101], [111, 114], [112, 114, 101, 118, 105, 111, 117, 115], [115, 101, 110, 100], [115, 105, 110, 99, 101], [115, 105, 122, 101], [115, 116, 111, 112], [115, 116, 111, 114, 101], [116, 97, 98, 108, 101], [116, 114, 117, 101], [118, 97, 114], [118, 101, 114, 115, 105, 111, 110], [119, 104, 105, 108, 101]]
def symbols : List Str := [[46, 46], [61, 61], [33, 61], [60, 61], [62, 61], [45, 62], [123], [125], [40], [41], [91], [93], [44], [59], [58], [46], [61], [60], [62], [43], [45], [42], [47], [37], [95]]
def pre (q : UInt8 → Bool) (l : Str) : Nat := (l.takeWhile q).length
theorem pre_le (q : UInt8 → Bool) (l : Str) : pre q l ≤ l.length := by
  unfold pre
  induction l with
  | nil => simp
  | cons a r ih => rw [List.takeWhile_cons]; split <;> simp; omega
theorem pre_step {q : UInt8 → Bool} : ∀ {l : Str} {k : Nat} (h : k < l.length), k ≤ pre q l → q l[k] = true → k + 1 ≤ pre q l
  | [], k, h, _, _ => by simp at h
  | a :: r, 0, h, _, hq => by
    unfold pre
    rw [List.takeWhile_cons]
    simp at hq
    simp [hq]
  | a :: r, k + 1, h, hk, hq => by
    unfold pre at hk ⊢
    rw [List.takeWhile_cons] at hk ⊢
    cases ha : q a with
    | false => rw [ha] at hk; simp at hk
    | true =>
      rw [ha] at hk
      simp at hk hq
      have := pre_step (l := r) (k := k) (by simpa using h) hk hq
      unfold pre at this
      simp; omega
theorem pre_stop {q : UInt8 → Bool} : ∀ {l : Str} {k : Nat} (h : k < l.length), k ≤ pre q l → q l[k] = false → k = pre q l
  | [], k, h, _, _ => by simp at h
  | a :: r, 0, h, _, hq => by
    unfold pre
    rw [List.takeWhile_cons]
    simp at hq
    simp [hq]
  | a :: r, k + 1, h, hk, hq => by
    unfold pre at hk ⊢
    rw [List.takeWhile_cons] at hk ⊢
    cases ha : q a with
    | false => rw [ha] at hk; simp at hk
    | true =>
      rw [ha] at hk
      simp at hk hq
      have := pre_stop (l := r) (k := k) (by simpa using h) hk hq
      unfold pre at this
      simp; omega
/-- The kind and the length of the token at the beginning of a text. -/
def readK (l : Str) : UInt8 × Nat :=
  let c := l.headD 0
  if letB c then
    if words.contains (l.take (pre insB l)) then (2, pre insB l) else if pre insB l ≤ 12 then (1, pre insB l) else (5, l.length)
  else if digB c then
    if pre digB l = 1 ∨ c ≠ 48 then (3, pre digB l) else (5, l.length)
  else match symbols.find? (fun x => x.isPrefixOf l) with
    | some x => (4, x.length)
    | none => (5, l.length)
def nameB (l : Str) : Bool := decide (l ≠ []) && (readK l).1 == 1 && decide ((readK l).2 = l.length)
def hasP (l m : Str) : Bool := decide (m.length ≤ l.length) && decide (l.take m.length = m)
theorem hasP_pre (l m : Str) : hasP l m = m.isPrefixOf l := by
  rw [Bool.eq_iff_iff]
  simp only [hasP, Bool.and_eq_true, decide_eq_true_eq, List.isPrefixOf_iff_prefix]
  constructor
  · rintro ⟨_, h⟩
    have := List.take_append_drop m.length l
    rw [h] at this
    exact ⟨_, this⟩
  · rintro ⟨t, rfl⟩; simp
theorem getD_at {α : Type} {l : List α} {k : Nat} (h : k < l.length) (d : α) : l.getD k d = l[k] := by simp [h]
theorem list_at {α β : Type} {f : α → β} {l : List α} {k : Nat} (h : k < l.length) (d : α) : (l.map f)[k]? = some (f (l.getD k d)) := by simp [h]
/-- What the operators and the kinds of statements require. -/
structure Shp where
  n : Nat
  nm : Bool
  lv : Nat
  tx : Str
structure Frm where
  nm : Bool
  hd : Bool
  lo : Nat
  hi : Nat
  th : Bool
  el : Bool
def shapes : List Shp := [⟨0, false, 0, []⟩, ⟨0, false, 7, []⟩, ⟨0, false, 7, [116, 114, 117, 101]⟩, ⟨0, false, 7, [102, 97, 108, 115, 101]⟩, ⟨0, false, 7, [110, 111, 119]⟩, ⟨0, true, 7, []⟩, ⟨1, true, 7, []⟩, ⟨1, true, 7, [104, 97, 115, 32]⟩, ⟨0, true, 7, [115, 105, 122, 101, 32]⟩, ⟨1, false, 6, [45]⟩, ⟨1, false, 6, [110, 111, 116, 32]⟩, ⟨2, false, 5, [32, 42, 32]⟩, ⟨2, false, 5, [32, 47, 32]⟩, ⟨2, false, 5, [32, 37, 32]⟩, ⟨2, false, 4, [32, 43, 32]⟩, ⟨2, false, 4, [32, 45, 32]⟩, ⟨2, false, 3, [32, 61, 61, 32]⟩, ⟨2, false, 3, [32, 33, 61, 32]⟩, ⟨2, false, 3, [32, 60, 32]⟩, ⟨2, false, 3, [32, 60, 61, 32]⟩, ⟨2, false, 3, [32, 62, 32]⟩, ⟨2, false, 3, [32, 62, 61, 32]⟩, ⟨2, false, 2, [32, 97, 110, 100, 32]⟩, ⟨2, false, 1, [32, 111, 114, 32]⟩]
def forms : List Frm := [⟨false, false, 0, 0, false, false⟩, ⟨true, false, 1, 1, false, false⟩, ⟨true, false, 2, 2, false, false⟩, ⟨true, false, 1, 1, false, false⟩, ⟨false, false, 1, 1, true, true⟩, ⟨false, false, 1, 1, true, false⟩, ⟨true, true, 0, 4, false, false⟩, ⟨false, true, 1, 5, false, false⟩, ⟨false, false, 2, 2, false, true⟩, ⟨true, false, 1, 1, false, true⟩, ⟨false, false, 0, 0, false, false⟩]
def shapeC (s : Shp) : List Value := [.int .i64 (s.n : Nat), .bool s.nm, .int .i64 (s.lv : Nat), strV s.tx]
def formC (s : Frm) : List Value := [.bool s.nm, .bool s.hd, .int .i64 (s.lo : Nat), .int .i64 (s.hi : Nat), .bool s.th, .bool s.el]
def okOp (op : UInt8) : Bool := decide (1 ≤ op.toNat) && decide (op.toNat ≤ 23)
def okKd (op : UInt8) : Bool := decide (1 ≤ op.toNat) && decide (op.toNat ≤ 10)
def shapeOf (op : UInt8) : Shp := if okOp op then shapes.getD op.toNat ⟨0, false, 0, []⟩ else ⟨0, false, 0, []⟩
def formOf (op : UInt8) : Frm := if okKd op then forms.getD op.toNat ⟨false, false, 0, 0, false, false⟩ else ⟨false, false, 0, 0, false, false⟩
theorem flat_at {α : Type} {f : α → List Value} {z : Nat} (hz : ∀ a, (f a).length = z) : ∀ {l : List α} {i : Nat} (d : α), i < l.length → ∀ (j : Nat) u, (f (l.getD i d))[j]? = some u → (l.flatMap f)[i * z + j]? = some u
  | [], i, d, h, j, u, e => by simp at h
  | a :: r, 0, d, h, j, u, e => by
    simp only [List.flatMap_cons, Nat.zero_mul, Nat.zero_add]
    simp at e
    rw [List.getElem?_append_left (List.getElem?_eq_some_iff.1 e).1]; exact e
  | a :: r, i + 1, d, h, j, u, e => by
    simp only [List.flatMap_cons]
    rw [List.getElem?_append_right (by rw [hz, Nat.succ_mul]; omega), hz, show (i + 1) * z + j - z = i * z + j by rw [Nat.succ_mul]; omega]
    exact flat_at hz d (by simpa using h) j u (by simpa using e)
structure Gl (H : Hp) : Prop where
  shapes : MemAt H 0 0 (shapes.flatMap shapeC)
  forms : MemAt H 2 0 (forms.flatMap formC)
  words : MemAt H 3 0 (words.map strV)
  symbols : MemAt H 1 0 (symbols.map strV)
theorem Gl.up {H H' : Hp} (g : Gl H) (u : Up H H') : Gl H' := ⟨g.shapes.up u, g.forms.up u, g.words.up u, g.symbols.up u⟩
end Go.Proofs.YtmbiojpcidccjaaDoor
/- Facts on types and functions. -/
namespace Go.Proofs.YtmbiojpcidccjaaDoor
open Go.RowKit Go.Par Go.Sx
theorem Fx.agg202 : aggN Tryd.prog 202 = Option.some (Option.some 39) := by kernel_rfl
theorem Fx.are202 : arrE Tryd.prog 202 = Bool.true := by kernel_rfl
theorem Fx.arr202 : arrN Tryd.prog 202 = Option.some (39, 1) := by kernel_rfl
theorem Fx.call86 : callN Tryd.prog 86 = Bool.true := by kernel_rfl
theorem Fx.call90 : callN Tryd.prog 90 = Bool.true := by kernel_rfl
theorem Fx.call105 : callN Tryd.prog 105 = Bool.true := by kernel_rfl
theorem Fx.str9 : isStr Tryd.prog 9 = Bool.true := by kernel_rfl
end Go.Proofs.YtmbiojpcidccjaaDoor
/- Contracts: the bytes of the lexer. -/
namespace Go.Proofs.YtmbiojpcidccjaaDoor
open Go.RowKit Go.Par Go.Sx
set_option maxRecDepth 100000 in
theorem letter_any (c : UInt8) (w : World) : Calls Tryd.prog 86 #[byteV c] w fun r w' => r = .returned (.bool (letB c)) ∧ Ext w w' := by
  refine Sx.enter (H := (fun _ => none)) Tryd.func86 rfl Tryd.ntmps86 rfl (fun _ _ e => by cases e) ?_
  refine .sq <| .rg <| .a rfl rfl <| .nl <| .tN <| .sq <| .rg <| .m rfl rfl <| .yv (.geq rfl rfl) rfl <| .m rfl rfl <| .b2 (fun h5 => ?_) (fun h5 => ?_)
  · try simp only [decide_eq_true_eq] at h5
    refine .gd rfl rfl <| .yv (.move rfl) rfl <| .gd rfl rfl <| .yv (.leq rfl rfl) rfl <| .yv (.pickT rfl rfl) rfl <| .m rfl rfl <| .b2 (fun h9 => ?_) (fun h9 => ?_)
    · try simp only [decide_eq_true_eq] at h9
      refine .gF rfl rfl rfl rfl <| .gF rfl rfl rfl rfl <| .gF rfl rfl rfl rfl <| .gU rfl rfl rfl <| .gU rfl rfl rfl <| .gF rfl rfl rfl rfl <| .yv (.pickT rfl rfl) rfl <|
        .a rfl rfl <| .nl <| .tN <| .rt <| ?_
      exact Sx.ret1 (.inl rfl) rfl (.tmp rfl) fun W s => ⟨retB (by simp only [letB, Bool.or_eq_true, Bool.and_eq_true, decide_eq_true_eq, reduceCtorEq, true_iff, false_iff, iff_true, iff_false, beq_iff_eq, Bool.true_eq_false, Bool.false_eq_true]; try omega), s.ext⟩
    · try simp only [decide_eq_false_iff_not] at h9
      refine .gd rfl rfl <| .yv (.move rfl) rfl <| .gd rfl rfl <| .yv (.geq rfl rfl) rfl <| .gd rfl rfl <| .yv (.move rfl) rfl <| .b2 (fun h12 => ?_) (fun h12 => ?_)
      · try simp only [decide_eq_true_eq] at h12
        refine .gd rfl rfl <| .yv (.move rfl) rfl <| .gd rfl rfl <| .yv (.leq rfl rfl) rfl <| .gd rfl rfl <| .yv (.pickT rfl rfl) rfl <| .yv (.pickF rfl rfl) rfl <| .a rfl rfl <|
          .nl <| .tN <| .rt <| ?_
        exact Sx.ret1 (.inl rfl) rfl (.tmp rfl) fun W s => ⟨retB (by simp only [letB, Bool.or_eq_true, Bool.and_eq_true, decide_eq_true_eq, reduceCtorEq, true_iff, false_iff, iff_true, iff_false, beq_iff_eq, Bool.true_eq_false, Bool.false_eq_true]; try omega), s.ext⟩
      · try simp only [decide_eq_false_iff_not] at h12
        refine .gF rfl rfl rfl rfl <| .gF rfl rfl rfl rfl <| .gd rfl rfl <| .yv (.pickF rfl rfl) rfl <| .yv (.pickF rfl rfl) rfl <| .a rfl rfl <| .nl <| .tN <| .rt <| ?_
        exact Sx.ret1 (.inl rfl) rfl (.tmp rfl) fun W s => ⟨retB (by simp only [letB, Bool.or_eq_true, Bool.and_eq_true, decide_eq_true_eq, reduceCtorEq, true_iff, false_iff, iff_true, iff_false, beq_iff_eq, Bool.true_eq_false, Bool.false_eq_true]; try omega), s.ext⟩
  · try simp only [decide_eq_false_iff_not] at h5
    refine .gF rfl rfl rfl rfl <| .gF rfl rfl rfl rfl <| .yv (.pickF rfl rfl) rfl <| .m rfl rfl <| .gd rfl rfl <| .yv (.move rfl) rfl <| .gd rfl rfl <| .yv (.geq rfl rfl) rfl <|
      .gd rfl rfl <| .yv (.move rfl) rfl <| .b2 (fun h12 => ?_) (fun h12 => ?_)
    · try simp only [decide_eq_true_eq] at h12
      refine .gd rfl rfl <| .yv (.move rfl) rfl <| .gd rfl rfl <| .yv (.leq rfl rfl) rfl <| .gd rfl rfl <| .yv (.pickT rfl rfl) rfl <| .yv (.pickF rfl rfl) rfl <| .a rfl rfl <|
        .nl <| .tN <| .rt <| ?_
      exact Sx.ret1 (.inl rfl) rfl (.tmp rfl) fun W s => ⟨retB (by simp only [letB, Bool.or_eq_true, Bool.and_eq_true, decide_eq_true_eq, reduceCtorEq, true_iff, false_iff, iff_true, iff_false, beq_iff_eq, Bool.true_eq_false, Bool.false_eq_true]; try omega), s.ext⟩
    · try simp only [decide_eq_false_iff_not] at h12
      refine .gF rfl rfl rfl rfl <| .gF rfl rfl rfl rfl <| .gd rfl rfl <| .yv (.pickF rfl rfl) rfl <| .yv (.pickF rfl rfl) rfl <| .a rfl rfl <| .nl <| .tN <| .rt <| ?_
      exact Sx.ret1 (.inl rfl) rfl (.tmp rfl) fun W s => ⟨retB (by simp only [letB, Bool.or_eq_true, Bool.and_eq_true, decide_eq_true_eq, reduceCtorEq, true_iff, false_iff, iff_true, iff_false, beq_iff_eq, Bool.true_eq_false, Bool.false_eq_true]; try omega), s.ext⟩
set_option maxRecDepth 100000 in
theorem digit_any (c : UInt8) (w : World) : Calls Tryd.prog 90 #[byteV c] w fun r w' => r = .returned (.bool (digB c)) ∧ Ext w w' := by
  refine Sx.enter (H := (fun _ => none)) Tryd.func90 rfl Tryd.ntmps90 rfl (fun _ _ e => by cases e) ?_
  refine .sq <| .rg <| .a rfl rfl <| .nl <| .tN <| .sq <| .rg <| .m rfl rfl <| .yv (.geq rfl rfl) rfl <| .m rfl rfl <| .b2 (fun h5 => ?_) (fun h5 => ?_)
  · try simp only [decide_eq_true_eq] at h5
    refine .gd rfl rfl <| .yv (.move rfl) rfl <| .gd rfl rfl <| .yv (.leq rfl rfl) rfl <| .yv (.pickT rfl rfl) rfl <| .a rfl rfl <| .nl <| .tN <| .rt <| ?_
    exact Sx.ret1 (.inl rfl) rfl (.tmp rfl) fun W s => ⟨retB (by simp only [digB, Bool.or_eq_true, Bool.and_eq_true, decide_eq_true_eq, reduceCtorEq, true_iff, false_iff, iff_true, iff_false, beq_iff_eq, Bool.true_eq_false, Bool.false_eq_true]; try omega), s.ext⟩
  · try simp only [decide_eq_false_iff_not] at h5
    refine .gF rfl rfl rfl rfl <| .gF rfl rfl rfl rfl <| .yv (.pickF rfl rfl) rfl <| .a rfl rfl <| .nl <| .tN <| .rt <| ?_
    exact Sx.ret1 (.inl rfl) rfl (.tmp rfl) fun W s => ⟨retB (by simp only [digB, Bool.or_eq_true, Bool.and_eq_true, decide_eq_true_eq, reduceCtorEq, true_iff, false_iff, iff_true, iff_false, beq_iff_eq, Bool.true_eq_false, Bool.false_eq_true]; try omega), s.ext⟩
end Go.Proofs.YtmbiojpcidccjaaDoor
