/- Whole clocks stored (types 26 and 27); a whole clock of type 27 loaded. -/
import Derived.Test.YtnmickfdflinpaaDoorVD
namespace Go.Proofs.YtnmickfdflinpaaDoor
open Go.RowKit Go.Par
def setCk (W : World) (b : Nat) (x : Nat → Int) : World := W.setCells b 0 (ckA x).toList
theorem ck_len (x : Nat → Int) : (ckA x).toList.length = 16 := rfl
theorem setCells_size (b : Nat) : ∀ (vs : List Value) (o : Nat) (W : World), (W.setCells b o vs).heap.size = W.heap.size
  | [], _, _ => rfl
  | v :: r, o, W => by rw [World.setCells, setCells_size b r]; simp
theorem setCells_ext (b : Nat) {a : World} (hb : a.heap.size ≤ b) : ∀ (vs : List Value) (o : Nat) (W : World), Ext a W → Ext a (W.setCells b o vs)
  | [], _, _, h => h
  | v :: r, o, W, h => by rw [World.setCells]; exact setCells_ext b hb r _ _ (h.setCell hb _)
theorem setCk_size (W : World) (b : Nat) (x : Nat → Int) : (setCk W b x).heap.size = W.heap.size := setCells_size b _ _ _
theorem setCk_ext {a W : World} {b : Nat} {x : Nat → Int} (h : Ext a W) (hb : a.heap.size ≤ b) : Ext a (setCk W b x) := setCells_ext b hb _ _ _ h
theorem CkAt.store {W : World} {b : Nat} {x y : Nat → Int} (h : CkAt W b y) : CkAt (setCk W b x) b x := by
  refine ⟨fun k hk => ⟨?_, ?_⟩, by rw [setCk_size]; exact h.2⟩
  · have := World.cell?_setCells_in b (ckA x).toList 0 W (fun j hj => by
      rw [Nat.zero_add, (h.1 j (by rw [ck_len] at hj; exact hj)).1]; rfl) k (by rw [ck_len]; exact hk)
    rw [Nat.zero_add] at this
    unfold setCk
    rw [this]
    have e := ck_get x k hk
    rw [← Array.getElem?_toList, List.getElem?_eq_getElem (by rw [ck_len]; exact hk)] at e
    exact e
  · unfold setCk
    rw [World.frozen?_setCells]
    exact (h.1 k hk).2
theorem setCk_cell {W : World} {b c o : Nat} {x : Nat → Int} (hn : ¬ c = b) : (setCk W b x).cell? ⟨c, o, none⟩ = W.cell? ⟨c, o, none⟩ :=
  World.cell?_setCells_out b _ _ _ _ (fun e => absurd e hn)
theorem setCk_frozen {W : World} {b : Nat} {p : Addr} {x : Nat → Int} : (setCk W b x).frozen? p = W.frozen? p := World.frozen?_setCells b _ _ _ _
theorem CkAt.keep {W : World} {b c : Nat} {x y : Nat → Int} (h : CkAt W c y) (hn : ¬ c = b) : CkAt (setCk W b x) c y :=
  ⟨fun k hk => ⟨(setCk_cell hn).trans (h.1 k hk).1, setCk_frozen.trans (h.1 k hk).2⟩, by rw [setCk_size]; exact h.2⟩
theorem ck_one (x : Nat → Int) : ∀ v ∈ (ckA x).toList, v.oneCell' = true := by
  intro v hv
  obtain ⟨i, hi, rfl⟩ := List.mem_iff_getElem.1 hv
  have e := ck_get x i (by rw [ck_len] at hi; exact hi)
  rw [← Array.getElem?_toList, List.getElem?_eq_getElem hi] at e
  rw [Option.some.inj e]
  rfl
theorem agg27 (W : World) : (isAgg 27).run Tryd.prog W = .ok true W := by simp [isAgg, go_sem]
theorem size27 (W : World) : (Go.sizeOf 27).run Tryd.prog W = .ok 16 W := by simp [go_sem]
theorem ck_storeAt {W : World} {b : Nat} {x y : Nat → Int} (t : TypeId) (ht : (Go.sizeOf t).run Tryd.prog W = .ok 16 W) (h : CkAt W b y) : (Instr.storeAt t (.pointer (some ⟨b, 0, none⟩)) (.agg (ckA x))).run Tryd.prog W = .ok () (setCk W b x) := by
  have hs := run_storeCells_cells (P := Tryd.prog) b 0 (ckA x).toList 0 W (fun j hj => by
      rw [Nat.zero_add, (h.1 j (by rw [ck_len] at hj; exact hj)).1]; rfl) (fun j hj => by
      rw [Nat.zero_add]; exact (h.1 j (by rw [ck_len] at hj; exact hj)).2) (ck_one x)
  unfold Instr.storeAt Instr.sureAddr storeVar
  simp only [Sem.run_bind, Sem.run_pure, Result.andThen, ht, Value.cells, ck_size, ne_eq, not_true, if_false]
  exact hs
theorem ck_loadAt27 {W : World} {b : Nat} {x : Nat → Int} (h : CkAt W b x) : (Instr.loadAt 27 (.pointer (some ⟨b, 0, none⟩))).run Tryd.prog W = .ok (.agg (ckA x)) W := by
  unfold Instr.loadAt Instr.sureAddr loadVar
  simp only [Sem.run_bind, Sem.run_pure, Result.andThen, agg27, size27, ck_load h, if_true]
section
variable {ops : Array Oper} {rest : List Oper} {o : Oper} {a : Act} {w : World} {Q : Exit → Act → World → Prop}
theorem wp_load27 (hg : o.guard = none) (s : Operand) (ho : o.op = .load 27 s) (b : Nat) (x : Nat → Int) (hp : a.eval s = .pointer (some ⟨b, 0, none⟩)) (hc : CkAt w b x)
    (h : wpList Tryd.prog ops Q rest (a.put o.dst (.agg (ckA x))) w) : wpList Tryd.prog ops Q (o :: rest) a w := by
  refine wpList_plain hg fun K hK => ?_
  have e : (execOp a.eval o).run Tryd.prog w = .ok (.value (.agg (ckA x))) w := by
    unfold execOp
    simp only [ho, hp, Sem.run_bind, Sem.run_pure, Result.andThen, ck_loadAt27 hc]
  show o.upon Tryd.prog a K Q ((execOp a.eval o).run Tryd.prog w)
  rw [e]
  exact hK _ _ h
theorem wp_store (t : TypeId) (ht : t = 26 ∨ t = 27) (hg : o.guard = none) (hd : o.dst = none) (s v : Operand) (ho : o.op = .store t s v) (b : Nat) (x y : Nat → Int) (hp : a.eval s = .pointer (some ⟨b, 0, none⟩)) (hv : a.eval v = .agg (ckA x)) (hc : CkAt w b y)
    (h : wpList Tryd.prog ops Q rest a (setCk w b x)) : wpList Tryd.prog ops Q (o :: rest) a w := by
  refine wpList_plain hg fun K hK => ?_
  have hz : (Go.sizeOf t).run Tryd.prog w = .ok 16 w := by
    rcases ht with rfl | rfl
    · exact size26 w
    · exact size27 w
  have e : (execOp a.eval o).run Tryd.prog w = .ok .skip (setCk w b x) := by
    unfold execOp
    simp only [ho, hp, hv, Sem.run_bind, Sem.run_pure, Result.andThen, ck_storeAt t hz hc]
  show o.upon Tryd.prog a K Q ((execOp a.eval o).run Tryd.prog w)
  rw [e]
  refine hK _ _ ?_
  rw [hd]
  exact h
end
end Go.Proofs.YtnmickfdflinpaaDoor
