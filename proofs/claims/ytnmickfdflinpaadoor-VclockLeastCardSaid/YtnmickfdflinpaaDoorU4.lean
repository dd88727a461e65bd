/- Contracts of the reference: Leq, Merge, Compare, Tick. -/
import Derived.Test.YtnmickfdflinpaaDoorF3
namespace Go.Proofs.YtnmickfdflinpaaDoor
open Go.RowKit Go.Par Go.Sx
theorem maxB {L : Sl} {H : Hp} {w0 : World} {bs : List Res} {d : Option Tmp} {ty : TypeId} {pos : String} {aft : Array Edge} {g : Option (Nat × Bool)} {p q : Operand} {a b : Int} (hp : ev L p = some (.int .u64 a)) (hq : ev L q = some (.int .u64 b)) :
    Yl Tryd.prog L H w0 bs ⟨d, .call ⟨.builtin .max, #[p, q], #[23, 23]⟩, ty, pos, aft, g⟩ (.int .u64 (mx a b)) := .of_run fun c W f _ => by
  have h : (Builtin.max_ #[23, 23] ty #[.int .u64 a, .int .u64 b]).run Tryd.prog W = .ok (.int .u64 (mx a b)) W := by
    have e : (if b > a then b else a) = mx a b := rfl
    simp [Builtin.max_, Builtin.max2, e]
  unfold execOp
  simp only [resolve, invoke, builtin, Sem.run_bind, Sem.run_pure, Result.andThen, List.map_toArray, List.map_cons, List.map_nil, f p _ hp, f q _ hq, h]
set_option maxRecDepth 100000 in
theorem rleq_any (x y : Nat → Int) (w : World) :
    Calls Tryd.prog 17 #[ck x, ck y] w fun e w' => e = .returned (.bool (leqF x y)) ∧ Ext w w' := by
  refine Sx.enter (H := (fun _ => none)) Tryd.func17 rfl Tryd.ntmps17 rfl (fun _ _ e => by cases e) ?_
  refine Sx.seq ?_
  refine Sx.region ?_
  refine Sx.cons ?_
  refine Sx.box (l := ckL x) rfl rfl rfl (fun b2 => ?_)
  refine Sx.cons ?_
  refine Sx.box (l := ckL y) rfl rfl rfl (fun b3 => ?_)
  refine Sx.cons ?_
  refine Sx.yl (.assign rfl) rfl ?_
  refine Sx.nil ?_
  refine Sx.thenN ?_
  refine Sx.seq ?_
  refine Sx.seq ?_
  refine Sx.region ?_
  refine Sx.cons ?_
  refine Sx.yl (.move rfl) rfl ?_
  refine Sx.nil ?_
  refine Sx.thenN ?_
  refine Sx.blk ?_
  -- live at the head, not kept: [4]
  refine Sx.loop (X := Nat) (fun k => [(2, .pointer (some ⟨b2, 0, none⟩)), (3, .pointer (some ⟨b3, 0, none⟩)), (6, .int .i64 k)]) (fun k => fun _ => none) (fun k => [.box b3 (ckL y) 27, .box b2 (ckL x) 27]) (fun k => k ≤ 16 ∧ ∀ j, j < k → x j ≤ y j) (fun k => 16 - k) 0 ⟨by omega, fun j hj => absurd hj (by omega)⟩ ⟨rfl, rfl, rfl, trivial⟩ (fun W s => s) ?_
  intro k hC
  have hk := hC.1
  refine Sx.seq ?_
  refine Sx.region ?_
  refine Sx.cons ?_
  refine Sx.yl (.lss rfl rfl) rfl ?_
  refine Sx.nil ?_
  refine Sx.thenN ?_
  refine Sx.seq ?_
  refine Sx.cond rfl (fun h7 => ?_) (fun h7 => ?_)
  · try simp only [decide_eq_true_eq] at h7
    refine Sx.skip ?_
    refine Sx.thenN ?_
    refine Sx.seq ?_
    refine Sx.blk ?_
    refine Sx.seq ?_
    refine Sx.region ?_
    refine Sx.cons ?_
    refine Sx.yl (.move rfl) rfl ?_
    refine Sx.cons ?_
    refine Sx.yl (.assign rfl) rfl ?_
    refine Sx.nil ?_
    refine Sx.thenN ?_
    refine Sx.seq ?_
    refine Sx.par (hd := [_, _, _, _, _, _]) 6 [] (by kernel_rfl) (by kernel_rfl) rfl (fun _ _ _ _ _ h => h) ?_
    refine Sx.rMove rfl rfl ?_
    refine Sx.rYl rfl (.indexArr Fx.arr27 rfl rfl rfl (by omega) (q := k) (by omega)) rfl ?_
    first
      | refine Sx.rYl rfl (.load rfl Fx.agg23 (.head _) (ck_at x (k := k) (by omega))) rfl ?_
      | refine Sx.rYl rfl (.load rfl Fx.agg23 (.tail _ (.head _)) (ck_at x (k := k) (by omega))) rfl ?_
    refine Sx.rMove rfl rfl ?_
    refine Sx.rYl rfl (.indexArr Fx.arr27 rfl rfl rfl (by omega) (q := k) (by omega)) rfl ?_
    first
      | refine Sx.rYl rfl (.load rfl Fx.agg23 (.head _) (ck_at y (k := k) (by omega))) rfl ?_
      | refine Sx.rYl rfl (.load rfl Fx.agg23 (.tail _ (.head _)) (ck_at y (k := k) (by omega))) rfl ?_
    refine Sx.rFin (tl := [_]) rfl ?_
    refine Sx.cons ?_
    refine Sx.yl (.gtr rfl rfl) rfl ?_
    refine Sx.nil ?_
    refine Sx.thenN ?_
    refine Sx.cond rfl (fun h15 => ?_) (fun h15 => ?_)
    · try simp only [decide_eq_true_eq] at h15
      refine Sx.seq ?_
      refine Sx.region ?_
      refine Sx.cons ?_
      refine Sx.yl (.assign rfl) rfl ?_
      refine Sx.nil ?_
      refine Sx.thenN ?_
      refine Sx.ret ?_
      refine Sx.blkR ?_
      refine Sx.thenR ?_
      refine Sx.thenR ?_
      refine Sx.blkR ?_
      refine Sx.thenR ?_
      refine Sx.ret1 (.inl rfl) rfl (.tmp rfl) (fun W s => ⟨?_, s.ext⟩)
      first | exact ret_bool (leq_false (k := k) (by omega) (by omega)).symm | (obtain rfl : k = 16 := (by omega); exact ret_bool (leq_true hC.2).symm)
    · try simp only [decide_eq_false_iff_not] at h15
      refine Sx.skip ?_
      refine Sx.blkN ?_
      refine Sx.thenN ?_
      refine Sx.region ?_
      refine Sx.cons ?_
      refine Sx.yl (.add rfl rfl (w64 (by omega) (by omega))) rfl ?_
      refine Sx.cons ?_
      refine Sx.yl (.move rfl) rfl ?_
      refine Sx.nil ?_
      refine Sx.thenN ?_
      exact Sx.again (k + 1) ⟨⟨by omega, fun j hj => (Nat.lt_or_ge j k).elim (fun h => hC.2 j h) (fun h => by obtain rfl : j = k := (by omega); omega)⟩, by omega⟩ ⟨rfl, rfl, rfl, trivial⟩ (fun W s => s)
  · try simp only [decide_eq_false_iff_not] at h7
    refine Sx.exit ?_
    refine Sx.thenE ?_
    refine Sx.thenE ?_
    refine Sx.blkE ?_
    refine Sx.thenN ?_
    refine Sx.seq ?_
    refine Sx.region ?_
    refine Sx.cons ?_
    refine Sx.yl (.assign rfl) rfl ?_
    refine Sx.nil ?_
    refine Sx.thenN ?_
    refine Sx.ret ?_
    refine Sx.ret1 (.inl rfl) rfl (.tmp rfl) (fun W s => ⟨?_, s.ext⟩)
    first | exact ret_bool (leq_false (k := k) (by omega) (by omega)).symm | (obtain rfl : k = 16 := (by omega); exact ret_bool (leq_true hC.2).symm)
set_option maxRecDepth 100000 in
theorem rmerge_any (x y : Nat → Int) (w : World) :
    Calls Tryd.prog 25 #[ck x, ck y] w fun e w' => e = .returned (ck (mergeF x y)) ∧ Ext w w' := by
  refine Sx.enter (H := (fun _ => none)) Tryd.func25 rfl Tryd.ntmps25 rfl (fun _ _ e => by cases e) ?_
  refine Sx.seq ?_
  refine Sx.region ?_
  refine Sx.cons ?_
  refine Sx.box (l := ckL x) rfl rfl rfl (fun b2 => ?_)
  refine Sx.cons ?_
  refine Sx.box (l := ckL y) rfl rfl rfl (fun b3 => ?_)
  refine Sx.cons ?_
  refine Sx.alloc Fx.zero27 rfl (fun b4 => ?_)
  refine Sx.nil ?_
  refine Sx.thenN ?_
  refine Sx.seq ?_
  refine Sx.seq ?_
  refine Sx.region ?_
  refine Sx.cons ?_
  refine Sx.yl (.move rfl) rfl ?_
  refine Sx.nil ?_
  refine Sx.thenN ?_
  refine Sx.blk ?_
  -- live at the head, not kept: []
  refine Sx.loop (X := Nat) (fun k => [(2, .pointer (some ⟨b2, 0, none⟩)), (3, .pointer (some ⟨b3, 0, none⟩)), (4, .pointer (some ⟨b4, 0, none⟩)), (6, .int .i64 k)]) (fun k => fun _ => none) (fun k => [.box b4 (ckL fun _ => 0) 27, .box b3 (ckL y) 27, .box b2 (ckL (partF x y k)) 27]) (fun k => k ≤ 16) (fun k => 16 - k) 0 (by omega) ⟨rfl, rfl, rfl, rfl, trivial⟩ (fun W s => by rw [part_zero]; exact s) ?_
  intro k hC
  refine Sx.seq ?_
  refine Sx.region ?_
  refine Sx.cons ?_
  refine Sx.yl (.lss rfl rfl) rfl ?_
  refine Sx.nil ?_
  refine Sx.thenN ?_
  refine Sx.seq ?_
  refine Sx.cond rfl (fun h7 => ?_) (fun h7 => ?_)
  · try simp only [decide_eq_true_eq] at h7
    refine Sx.skip ?_
    refine Sx.thenN ?_
    refine Sx.seq ?_
    refine Sx.blk ?_
    refine Sx.seq ?_
    refine Sx.region ?_
    refine Sx.cons ?_
    refine Sx.yl (.move rfl) rfl ?_
    refine Sx.cons ?_
    refine Sx.yl (.assign rfl) rfl ?_
    refine Sx.nil ?_
    refine Sx.thenN ?_
    refine Sx.par (hd := [_, _, _, _, _, _, _, _]) 8 [] (by kernel_rfl) (by kernel_rfl) rfl (fun _ _ _ _ _ h => h) ?_
    refine Sx.rMove rfl rfl ?_
    refine Sx.rMove rfl rfl ?_
    refine Sx.rYl rfl (.indexArr Fx.arr27 rfl rfl rfl (by omega) (q := k) (by omega)) rfl ?_
    first
      | refine Sx.rYl rfl (.load rfl Fx.agg23 (.head _) (ck_at (partF x y k) (k := k) (by omega))) rfl ?_
      | refine Sx.rYl rfl (.load rfl Fx.agg23 (.tail _ (.head _)) (ck_at (partF x y k) (k := k) (by omega))) rfl ?_
      | refine Sx.rYl rfl (.load rfl Fx.agg23 (.tail _ (.tail _ (.head _))) (ck_at (partF x y k) (k := k) (by omega))) rfl ?_
    refine Sx.rMove rfl rfl ?_
    refine Sx.rYl rfl (.indexArr Fx.arr27 rfl rfl rfl (by omega) (q := k) (by omega)) rfl ?_
    first
      | refine Sx.rYl rfl (.load rfl Fx.agg23 (.head _) (ck_at y (k := k) (by omega))) rfl ?_
      | refine Sx.rYl rfl (.load rfl Fx.agg23 (.tail _ (.head _)) (ck_at y (k := k) (by omega))) rfl ?_
      | refine Sx.rYl rfl (.load rfl Fx.agg23 (.tail _ (.tail _ (.head _))) (ck_at y (k := k) (by omega))) rfl ?_
    refine Sx.rYl rfl (maxB rfl rfl) rfl ?_
    refine Sx.rFin (tl := [_, _]) rfl ?_
    refine Sx.cons ?_
    refine Sx.yl (.indexArr Fx.arr27 rfl rfl rfl (by omega) (q := k) (by omega)) rfl ?_
    refine Sx.cons ?_
    first
      | refine Sx.store rfl rfl Fx.size23 rfl (.head) (by rw [ck_length]; omega) ((ck_set (partF x y k) k _ (by omega)).trans (by rw [show mx (partF x y k k) (y k) = mx (x k) (y k) by simp [partF], part_step])) ?_
      | refine Sx.store rfl rfl Fx.size23 rfl (.tail (.head)) (by rw [ck_length]; omega) ((ck_set (partF x y k) k _ (by omega)).trans (by rw [show mx (partF x y k k) (y k) = mx (x k) (y k) by simp [partF], part_step])) ?_
      | refine Sx.store rfl rfl Fx.size23 rfl (.tail (.tail (.head))) (by rw [ck_length]; omega) ((ck_set (partF x y k) k _ (by omega)).trans (by rw [show mx (partF x y k k) (y k) = mx (x k) (y k) by simp [partF], part_step])) ?_
    refine Sx.nil ?_
    refine Sx.blkN ?_
    refine Sx.thenN ?_
    refine Sx.region ?_
    refine Sx.cons ?_
    refine Sx.yl (.add rfl rfl (w64 (by omega) (by omega))) rfl ?_
    refine Sx.cons ?_
    refine Sx.yl (.move rfl) rfl ?_
    refine Sx.nil ?_
    refine Sx.thenN ?_
    exact Sx.again (k + 1) ⟨by omega, by omega⟩ ⟨rfl, rfl, rfl, rfl, trivial⟩ (fun W s => s)
  · try simp only [decide_eq_false_iff_not] at h7
    refine Sx.exit ?_
    refine Sx.thenE ?_
    refine Sx.thenE ?_
    refine Sx.blkE ?_
    refine Sx.thenN ?_
    refine Sx.seq ?_
    refine Sx.region ?_
    refine Sx.cons ?_
    first
      | refine Sx.yl (.loadW rfl Fx.agg27 (.head _) (ck_length _)) rfl ?_
      | refine Sx.yl (.loadW rfl Fx.agg27 (.tail _ (.head _)) (ck_length _)) rfl ?_
      | refine Sx.yl (.loadW rfl Fx.agg27 (.tail _ (.tail _ (.head _))) (ck_length _)) rfl ?_
    refine Sx.cons ?_
    first
      | refine Sx.storeW rfl rfl Fx.size27 (ckL_one _) (.head) rfl ?_
      | refine Sx.storeW rfl rfl Fx.size27 (ckL_one _) (.tail (.head)) rfl ?_
      | refine Sx.storeW rfl rfl Fx.size27 (ckL_one _) (.tail (.tail (.head))) rfl ?_
    refine Sx.nil ?_
    refine Sx.thenN ?_
    refine Sx.ret ?_
    first
      | refine Sx.ret1 (.inl rfl) rfl (.cell rfl Fx.agg27 (.head _) (ck_length _)) (fun W s => ⟨?_, s.ext⟩)
      | refine Sx.ret1 (.inl rfl) rfl (.cell rfl Fx.agg27 (.tail _ (.head _)) (ck_length _)) (fun W s => ⟨?_, s.ext⟩)
      | refine Sx.ret1 (.inl rfl) rfl (.cell rfl Fx.agg27 (.tail _ (.tail _ (.head _))) (ck_length _)) (fun W s => ⟨?_, s.ext⟩)
    obtain rfl : k = 16 := by omega
    show Ending.returned (.agg (ckA (partF x y 16))) = .returned (.agg (ckA (mergeF x y)))
    rw [ck_congr (x := partF x y 16) (y := mergeF x y) fun i hi => by simp [mergeF, partF, hi]]
set_option maxRecDepth 100000 in
theorem merge_any (x y : Nat → Int) (w : World) :
    Calls Tryd.prog 14 #[ck x, ck y] w fun e w' => e = .returned (ck (mergeF x y)) ∧ Ext w w' := by
  refine Sx.enter (H := (fun _ => none)) Tryd.func14 rfl Tryd.ntmps14 rfl (fun _ _ e => by cases e) ?_
  refine Sx.seq ?_
  refine Sx.region ?_
  refine Sx.cons ?_
  refine Sx.box (l := ckL x) rfl rfl rfl (fun b2 => ?_)
  refine Sx.cons ?_
  refine Sx.box (l := ckL y) rfl rfl rfl (fun b3 => ?_)
  refine Sx.cons ?_
  refine Sx.alloc Fx.zero26 rfl (fun b4 => ?_)
  refine Sx.nil ?_
  refine Sx.thenN ?_
  refine Sx.seq ?_
  refine Sx.seq ?_
  refine Sx.region ?_
  refine Sx.cons ?_
  refine Sx.yl (.move rfl) rfl ?_
  refine Sx.nil ?_
  refine Sx.thenN ?_
  refine Sx.blk ?_
  -- live at the head, not kept: []
  refine Sx.loop (X := Nat) (fun k => [(2, .pointer (some ⟨b2, 0, none⟩)), (3, .pointer (some ⟨b3, 0, none⟩)), (4, .pointer (some ⟨b4, 0, none⟩)), (6, .int .i64 k)]) (fun k => fun _ => none) (fun k => [.box b4 (ckL fun _ => 0) 26, .box b3 (ckL y) 26, .box b2 (ckL (partF x y k)) 26]) (fun k => k ≤ 16) (fun k => 16 - k) 0 (by omega) ⟨rfl, rfl, rfl, rfl, trivial⟩ (fun W s => by rw [part_zero]; exact s) ?_
  intro k hC
  refine Sx.seq ?_
  refine Sx.region ?_
  refine Sx.cons ?_
  refine Sx.yl (.lss rfl rfl) rfl ?_
  refine Sx.nil ?_
  refine Sx.thenN ?_
  refine Sx.seq ?_
  refine Sx.cond rfl (fun h7 => ?_) (fun h7 => ?_)
  · try simp only [decide_eq_true_eq] at h7
    refine Sx.skip ?_
    refine Sx.thenN ?_
    refine Sx.seq ?_
    refine Sx.blk ?_
    refine Sx.seq ?_
    refine Sx.region ?_
    refine Sx.cons ?_
    refine Sx.yl (.move rfl) rfl ?_
    refine Sx.cons ?_
    refine Sx.yl (.assign rfl) rfl ?_
    refine Sx.nil ?_
    refine Sx.thenN ?_
    refine Sx.par (hd := [_, _, _, _, _, _, _, _, _, _, _]) 11 [] (by kernel_rfl) (by kernel_rfl) rfl (fun _ _ _ _ _ h => h) ?_
    refine Sx.rMove rfl rfl ?_
    refine Sx.rMove rfl rfl ?_
    refine Sx.rYl rfl (.fieldAddr rfl Fx.field26_0) rfl ?_
    refine Sx.rYl rfl (.indexArr Fx.arr24 rfl rfl rfl (by omega) (q := k) (by omega)) rfl ?_
    first
      | refine Sx.rYl rfl (.load rfl Fx.agg23 (.head _) (ck_at (partF x y k) (k := k) (by omega))) rfl ?_
      | refine Sx.rYl rfl (.load rfl Fx.agg23 (.tail _ (.head _)) (ck_at (partF x y k) (k := k) (by omega))) rfl ?_
      | refine Sx.rYl rfl (.load rfl Fx.agg23 (.tail _ (.tail _ (.head _))) (ck_at (partF x y k) (k := k) (by omega))) rfl ?_
    refine Sx.rMove rfl rfl ?_
    refine Sx.rYl rfl (.fieldAddr rfl Fx.field26_0) rfl ?_
    refine Sx.rYl rfl (.indexArr Fx.arr24 rfl rfl rfl (by omega) (q := k) (by omega)) rfl ?_
    first
      | refine Sx.rYl rfl (.load rfl Fx.agg23 (.head _) (ck_at y (k := k) (by omega))) rfl ?_
      | refine Sx.rYl rfl (.load rfl Fx.agg23 (.tail _ (.head _)) (ck_at y (k := k) (by omega))) rfl ?_
      | refine Sx.rYl rfl (.load rfl Fx.agg23 (.tail _ (.tail _ (.head _))) (ck_at y (k := k) (by omega))) rfl ?_
    refine Sx.rYl rfl (maxB rfl rfl) rfl ?_
    refine Sx.rYl rfl (.fieldAddr rfl Fx.field26_0) rfl ?_
    refine Sx.rFin (tl := [_, _]) rfl ?_
    refine Sx.cons ?_
    refine Sx.yl (.indexArr Fx.arr24 rfl rfl rfl (by omega) (q := k) (by omega)) rfl ?_
    refine Sx.cons ?_
    first
      | refine Sx.store rfl rfl Fx.size23 rfl (.head) (by rw [ck_length]; omega) ((ck_set (partF x y k) k _ (by omega)).trans (by rw [show mx (partF x y k k) (y k) = mx (x k) (y k) by simp [partF], part_step])) ?_
      | refine Sx.store rfl rfl Fx.size23 rfl (.tail (.head)) (by rw [ck_length]; omega) ((ck_set (partF x y k) k _ (by omega)).trans (by rw [show mx (partF x y k k) (y k) = mx (x k) (y k) by simp [partF], part_step])) ?_
      | refine Sx.store rfl rfl Fx.size23 rfl (.tail (.tail (.head))) (by rw [ck_length]; omega) ((ck_set (partF x y k) k _ (by omega)).trans (by rw [show mx (partF x y k k) (y k) = mx (x k) (y k) by simp [partF], part_step])) ?_
    refine Sx.nil ?_
    refine Sx.blkN ?_
    refine Sx.thenN ?_
    refine Sx.region ?_
    refine Sx.cons ?_
    refine Sx.yl (.add rfl rfl (w64 (by omega) (by omega))) rfl ?_
    refine Sx.cons ?_
    refine Sx.yl (.move rfl) rfl ?_
    refine Sx.nil ?_
    refine Sx.thenN ?_
    exact Sx.again (k + 1) ⟨by omega, by omega⟩ ⟨rfl, rfl, rfl, rfl, trivial⟩ (fun W s => s)
  · try simp only [decide_eq_false_iff_not] at h7
    refine Sx.exit ?_
    refine Sx.thenE ?_
    refine Sx.thenE ?_
    refine Sx.blkE ?_
    refine Sx.thenN ?_
    refine Sx.seq ?_
    refine Sx.region ?_
    refine Sx.cons ?_
    first
      | refine Sx.yl (.loadW rfl Fx.agg26 (.head _) (ck_length _)) rfl ?_
      | refine Sx.yl (.loadW rfl Fx.agg26 (.tail _ (.head _)) (ck_length _)) rfl ?_
      | refine Sx.yl (.loadW rfl Fx.agg26 (.tail _ (.tail _ (.head _))) (ck_length _)) rfl ?_
    refine Sx.cons ?_
    first
      | refine Sx.storeW rfl rfl Fx.size26 (ckL_one _) (.head) rfl ?_
      | refine Sx.storeW rfl rfl Fx.size26 (ckL_one _) (.tail (.head)) rfl ?_
      | refine Sx.storeW rfl rfl Fx.size26 (ckL_one _) (.tail (.tail (.head))) rfl ?_
    refine Sx.nil ?_
    refine Sx.thenN ?_
    refine Sx.ret ?_
    first
      | refine Sx.ret1 (.inl rfl) rfl (.cell rfl Fx.agg26 (.head _) (ck_length _)) (fun W s => ⟨?_, s.ext⟩)
      | refine Sx.ret1 (.inl rfl) rfl (.cell rfl Fx.agg26 (.tail _ (.head _)) (ck_length _)) (fun W s => ⟨?_, s.ext⟩)
      | refine Sx.ret1 (.inl rfl) rfl (.cell rfl Fx.agg26 (.tail _ (.tail _ (.head _))) (ck_length _)) (fun W s => ⟨?_, s.ext⟩)
    obtain rfl : k = 16 := by omega
    show Ending.returned (.agg (ckA (partF x y 16))) = .returned (.agg (ckA (mergeF x y)))
    rw [ck_congr (x := partF x y 16) (y := mergeF x y) fun i hi => by simp [mergeF, partF, hi]]
theorem eq_arr27 (x y : Nat → Int) (w : World) : (binOp .eql 27 (.agg (ckL x).toArray) (.agg (ckL y).toArray)).run Tryd.prog w = .ok (.bool (eqF x y)) w := by
  obtain ⟨i, hi⟩ : ∃ i, Tryd.prog.info? 23 = some i := Option.isSome_iff_exists.1 (by kernel_rfl)
  show (binOp .eql 27 (.agg (ckA x)) (.agg (ckA y))).run Tryd.prog w = _
  rw [run_eql_struct, show (10000 : Nat) = 9998 + 1 + 1 from rfl, run_equalIn_array w (9998 + 1) (ckA x) (ckA y) Tryd.underlying27 hi, show Tryd.prog.cellsOf 23 = 1 by kernel_rfl]
  rw [eq_items x y 9998 w (List.range 16) (fun i hi => by simpa using hi)]
  rfl
theorem eqCk {L : Sl} {H : Hp} {w0 : World} {bs : List Res} {d : Option Tmp} {ty : TypeId} {pos : String} {aft : Array Edge} {g : Option (Nat × Bool)} {p q : Operand} {x y : Nat → Int} {T' : TypeId} (hp : ev L p = some (.agg (ckL x).toArray)) (hq : ev L q = some (.agg (ckL y).toArray)) :
    Yl Tryd.prog L H w0 bs ⟨d, .binOp .eql 27 p q T', ty, pos, aft, g⟩ (.bool (eqF x y)) := .of_run fun c W f _ => by
  have hgt : Tryd.prog.eqGuardType Tryd.prog.depth 27 = false := by kernel_rfl
  have hgd := run_eqGuard_agg (P := Tryd.prog) W .eql 27 p q (ckL x).toArray (ckL y).toArray hgt
  unfold execOp
  simp only [f p _ hp, f q _ hq, Sem.run_bind, Sem.run_pure, Result.andThen, eq_arr27, hgd]
set_option maxRecDepth 100000 in
theorem rcompare_any (x y : Nat → Int) (w : World) :
    Calls Tryd.prog 19 #[ck x, ck y] w fun e w' => e = .returned (.int .i64 (cmpF x y)) ∧ Ext w w' := by
  refine Sx.enter (H := (fun _ => none)) Tryd.func19 rfl Tryd.ntmps19 rfl (fun _ _ e => by cases e) ?_
  refine Sx.seq ?_
  refine Sx.region ?_
  refine Sx.cons ?_
  refine Sx.box (l := ckL x) rfl rfl rfl (fun b2 => ?_)
  refine Sx.cons ?_
  refine Sx.box (l := ckL y) rfl rfl rfl (fun b3 => ?_)
  refine Sx.cons ?_
  refine Sx.yl (.assign rfl) rfl ?_
  refine Sx.nil ?_
  refine Sx.thenN ?_
  refine Sx.seq ?_
  refine Sx.blk ?_
  refine Sx.seq ?_
  refine Sx.region ?_
  refine Sx.cons ?_
  first
    | refine Sx.yl (.loadW rfl Fx.agg27 (.head _) (ck_length _)) rfl ?_
    | refine Sx.yl (.loadW rfl Fx.agg27 (.tail _ (.head _)) (ck_length _)) rfl ?_
  refine Sx.cons ?_
  first
    | refine Sx.yl (.loadW rfl Fx.agg27 (.head _) (ck_length _)) rfl ?_
    | refine Sx.yl (.loadW rfl Fx.agg27 (.tail _ (.head _)) (ck_length _)) rfl ?_
  refine Sx.cons ?_
  refine Sx.yl (eqCk rfl rfl) rfl ?_
  refine Sx.cons ?_
  refine Sx.yl (.assign rfl) rfl ?_
  refine Sx.nil ?_
  refine Sx.thenN ?_
  refine Sx.cond rfl (fun h5 => ?_) (fun h5 => ?_)
  · try simp only [decide_eq_true_eq] at h5
    refine Sx.seq ?_
    refine Sx.region ?_
    refine Sx.cons ?_
    refine Sx.yl (.assign rfl) rfl ?_
    refine Sx.nil ?_
    refine Sx.thenN ?_
    refine Sx.ret ?_
    refine Sx.blkR ?_
    refine Sx.thenR ?_
    refine Sx.ret1 (.inl rfl) rfl (.tmp rfl) (fun W s => ⟨?_, s.ext⟩)
    simp [cmpF, *]
  · try simp only [decide_eq_false_iff_not] at h5
    refine Sx.seq ?_
    refine Sx.region ?_
    refine Sx.cons ?_
    first
      | refine Sx.yl (.loadW rfl Fx.agg27 (.head _) (ck_length _)) rfl ?_
      | refine Sx.yl (.loadW rfl Fx.agg27 (.tail _ (.head _)) (ck_length _)) rfl ?_
    refine Sx.cons ?_
    first
      | refine Sx.yl (.loadW rfl Fx.agg27 (.head _) (ck_length _)) rfl ?_
      | refine Sx.yl (.loadW rfl Fx.agg27 (.tail _ (.head _)) (ck_length _)) rfl ?_
    refine Sx.cons ?_
    refine Sx.yl (.call Fx.call17 rfl (fun W s => rleq_any x y W)) rfl ?_
    refine Sx.cons ?_
    refine Sx.yl (.assign rfl) rfl ?_
    refine Sx.nil ?_
    refine Sx.thenN ?_
    refine Sx.cond rfl (fun h9 => ?_) (fun h9 => ?_)
    · try simp only [decide_eq_true_eq] at h9
      refine Sx.seq ?_
      refine Sx.region ?_
      refine Sx.cons ?_
      refine Sx.yl (.assign rfl) rfl ?_
      refine Sx.nil ?_
      refine Sx.thenN ?_
      refine Sx.ret ?_
      refine Sx.blkR ?_
      refine Sx.thenR ?_
      refine Sx.ret1 (.inl rfl) rfl (.tmp rfl) (fun W s => ⟨?_, s.ext⟩)
      simp [cmpF, *]
    · try simp only [decide_eq_false_iff_not] at h9
      refine Sx.seq ?_
      refine Sx.region ?_
      refine Sx.cons ?_
      first
        | refine Sx.yl (.loadW rfl Fx.agg27 (.head _) (ck_length _)) rfl ?_
        | refine Sx.yl (.loadW rfl Fx.agg27 (.tail _ (.head _)) (ck_length _)) rfl ?_
      refine Sx.cons ?_
      first
        | refine Sx.yl (.loadW rfl Fx.agg27 (.head _) (ck_length _)) rfl ?_
        | refine Sx.yl (.loadW rfl Fx.agg27 (.tail _ (.head _)) (ck_length _)) rfl ?_
      refine Sx.cons ?_
      refine Sx.yl (.call Fx.call17 rfl (fun W s => rleq_any y x W)) rfl ?_
      refine Sx.cons ?_
      refine Sx.yl (.assign rfl) rfl ?_
      refine Sx.nil ?_
      refine Sx.thenN ?_
      refine Sx.cond rfl (fun h13 => ?_) (fun h13 => ?_)
      · try simp only [decide_eq_true_eq] at h13
        refine Sx.seq ?_
        refine Sx.region ?_
        refine Sx.cons ?_
        refine Sx.yl (.assign rfl) rfl ?_
        refine Sx.nil ?_
        refine Sx.thenN ?_
        refine Sx.ret ?_
        refine Sx.blkR ?_
        refine Sx.thenR ?_
        refine Sx.ret1 (.inl rfl) rfl (.tmp rfl) (fun W s => ⟨?_, s.ext⟩)
        simp [cmpF, *]
      · try simp only [decide_eq_false_iff_not] at h13
        refine Sx.skip ?_
        refine Sx.blkN ?_
        refine Sx.thenN ?_
        refine Sx.seq ?_
        refine Sx.region ?_
        refine Sx.cons ?_
        refine Sx.yl (.assign rfl) rfl ?_
        refine Sx.nil ?_
        refine Sx.thenN ?_
        refine Sx.ret ?_
        refine Sx.ret1 (.inl rfl) rfl (.tmp rfl) (fun W s => ⟨?_, s.ext⟩)
        simp [cmpF, *]
theorem wrap_next {a : Int} (h0 : 0 ≤ a) (h1 : a < 18446744073709551616) : IntKind.u64.wrap (a + 1) = if a = 18446744073709551615 then 0 else a + 1 := by
  split
  · rename_i h; subst h; rfl
  · exact wu64 (by omega) (by omega)
set_option maxRecDepth 100000 in
theorem rtick_any (x : Nat → Int) (hU : U64 x) (i : Int) (w : World) :
    Calls Tryd.prog 29 #[ck x, .int .i64 i] w fun e w' => e = .returned (ck (tickF x i)) ∧ Ext w w' := by
  refine Sx.enter (H := (fun _ => none)) Tryd.func29 rfl Tryd.ntmps29 rfl (fun _ _ e => by cases e) ?_
  refine Sx.seq ?_
  refine Sx.region ?_
  refine Sx.cons ?_
  refine Sx.box (l := ckL x) rfl rfl rfl (fun b2 => ?_)
  refine Sx.cons ?_
  refine Sx.alloc Fx.zero27 rfl (fun b4 => ?_)
  refine Sx.nil ?_
  refine Sx.thenN ?_
  refine Sx.seq ?_
  refine Sx.seq ?_
  refine Sx.region ?_
  refine Sx.cons ?_
  refine Sx.yl (.move rfl) rfl ?_
  refine Sx.cons ?_
  refine Sx.yl (.geq rfl rfl) rfl ?_
  refine Sx.cons ?_
  refine Sx.yl (.move rfl) rfl ?_
  refine Sx.bool (fun h7 => ?_) (fun h7 => ?_)
  · simp only [decide_eq_true_eq] at h7
    obtain ⟨k, rfl⟩ := Int.eq_ofNat_of_zero_le h7
    refine Sx.cons ?_
    refine Sx.guardT rfl rfl ?_
    refine Sx.yl (.move rfl) rfl ?_
    refine Sx.cons ?_
    refine Sx.guardT rfl rfl ?_
    refine Sx.yl (.lss rfl rfl) rfl ?_
    refine Sx.cons ?_
    refine Sx.yl (.pickT rfl rfl) rfl ?_
    refine Sx.cons ?_
    refine Sx.yl (.move rfl) rfl ?_
    refine Sx.bool (fun h11 => ?_) (fun h11 => ?_)
    · simp only [decide_eq_true_eq] at h11
      have hx := hU k
      refine Sx.cons ?_
      refine Sx.guardT rfl rfl ?_
      refine Sx.yl (.move rfl) rfl ?_
      refine Sx.cons ?_
      refine Sx.guardT rfl rfl ?_
      refine Sx.yl (.indexArr Fx.arr27 rfl rfl rfl (by omega) (q := k) (by omega)) rfl ?_
      refine Sx.cons ?_
      refine Sx.guardT rfl rfl ?_
      first
        | refine Sx.yl (.load rfl Fx.agg23 (.head _) (ck_at x (k := k) (by omega))) rfl ?_
        | refine Sx.yl (.load rfl Fx.agg23 (.tail _ (.head _)) (ck_at x (k := k) (by omega))) rfl ?_
      refine Sx.cons ?_
      refine Sx.guardT rfl rfl ?_
      refine Sx.yl (.add rfl rfl (c := if x k = 18446744073709551615 then 0 else x k + 1) (wrap_next (by omega) (by omega))) rfl ?_
      refine Sx.cons ?_
      refine Sx.guardT rfl rfl ?_
      refine Sx.yl (.gtr rfl rfl) rfl ?_
      refine Sx.cons ?_
      refine Sx.yl (.pickT rfl rfl) rfl ?_
      refine Sx.nil ?_
      refine Sx.thenN ?_
      refine Sx.cond rfl (fun h17 => ?_) (fun h17 => ?_)
      · simp only [decide_eq_true_eq] at h17
        split at h17
        · omega
        refine Sx.region ?_
        refine Sx.cons ?_
        refine Sx.yl (.move rfl) rfl ?_
        refine Sx.cons ?_
        refine Sx.yl (.indexArr Fx.arr27 rfl rfl rfl (by omega) (q := k) (by omega)) rfl ?_
        refine Sx.cons ?_
        first
          | refine Sx.yl (.load rfl Fx.agg23 (.head _) (ck_at x (k := k) (by omega))) rfl ?_
          | refine Sx.yl (.load rfl Fx.agg23 (.tail _ (.head _)) (ck_at x (k := k) (by omega))) rfl ?_
        refine Sx.cons ?_
        refine Sx.yl (.add rfl rfl (wu64 (by omega) (by omega))) rfl ?_
        refine Sx.cons ?_
        refine Sx.yl (.indexArr Fx.arr27 rfl rfl rfl (by omega) (q := k) (by omega)) rfl ?_
        refine Sx.cons ?_
        first
          | refine Sx.store rfl rfl Fx.size23 rfl (.head) (by rw [ck_length]; omega) (ck_set x k (x k + 1) (by omega)) ?_
          | refine Sx.store rfl rfl Fx.size23 rfl (.tail (.head)) (by rw [ck_length]; omega) (ck_set x k (x k + 1) (by omega)) ?_
        refine Sx.nil ?_
        refine Sx.thenN ?_
        refine Sx.seq ?_
        refine Sx.region ?_
        refine Sx.cons ?_
        first
          | refine Sx.yl (.loadW rfl Fx.agg27 (.head _) (ck_length _)) rfl ?_
          | refine Sx.yl (.loadW rfl Fx.agg27 (.tail _ (.head _)) (ck_length _)) rfl ?_
        refine Sx.cons ?_
        first
          | refine Sx.storeW rfl rfl Fx.size27 (ckL_one _) (.head) rfl ?_
          | refine Sx.storeW rfl rfl Fx.size27 (ckL_one _) (.tail (.head)) rfl ?_
        refine Sx.nil ?_
        refine Sx.thenN ?_
        refine Sx.ret ?_
        first
          | refine Sx.ret1 (.inl rfl) rfl (.cell rfl Fx.agg27 (.head _) (ck_length _)) (fun W s => ⟨?_, s.ext⟩)
          | refine Sx.ret1 (.inl rfl) rfl (.cell rfl Fx.agg27 (.tail _ (.head _)) (ck_length _)) (fun W s => ⟨?_, s.ext⟩)
        unfold tickF
        first | rw [if_pos (by simp; omega)] | rw [if_neg (by simp; omega)]
        try rfl
      · simp only [decide_eq_false_iff_not] at h17
        have h18 : x k = 18446744073709551615 := by split at h17 <;> omega
        refine Sx.skip ?_
        refine Sx.thenN ?_
        refine Sx.seq ?_
        refine Sx.region ?_
        refine Sx.cons ?_
        first
          | refine Sx.yl (.loadW rfl Fx.agg27 (.head _) (ck_length _)) rfl ?_
          | refine Sx.yl (.loadW rfl Fx.agg27 (.tail _ (.head _)) (ck_length _)) rfl ?_
        refine Sx.cons ?_
        first
          | refine Sx.storeW rfl rfl Fx.size27 (ckL_one _) (.head) rfl ?_
          | refine Sx.storeW rfl rfl Fx.size27 (ckL_one _) (.tail (.head)) rfl ?_
        refine Sx.nil ?_
        refine Sx.thenN ?_
        refine Sx.ret ?_
        first
          | refine Sx.ret1 (.inl rfl) rfl (.cell rfl Fx.agg27 (.head _) (ck_length _)) (fun W s => ⟨?_, s.ext⟩)
          | refine Sx.ret1 (.inl rfl) rfl (.cell rfl Fx.agg27 (.tail _ (.head _)) (ck_length _)) (fun W s => ⟨?_, s.ext⟩)
        unfold tickF
        first | rw [if_pos (by simp; omega)] | rw [if_neg (by simp; omega)]
        try rfl
    · try simp only [decide_eq_false_iff_not] at h11
      refine Sx.cons ?_
      refine Sx.guardF rfl rfl rfl rfl ?_
      refine Sx.cons ?_
      refine Sx.guardF rfl rfl rfl rfl ?_
      refine Sx.cons ?_
      refine Sx.guardF rfl rfl rfl rfl ?_
      refine Sx.cons ?_
      refine Sx.guardF rfl rfl rfl rfl ?_
      refine Sx.cons ?_
      refine Sx.guardF rfl rfl rfl rfl ?_
      refine Sx.cons ?_
      refine Sx.yl (.pickF rfl rfl) rfl ?_
      refine Sx.nil ?_
      refine Sx.thenN ?_
      refine Sx.condF rfl ?_
      refine Sx.skip ?_
      refine Sx.thenN ?_
      refine Sx.seq ?_
      refine Sx.region ?_
      refine Sx.cons ?_
      first
        | refine Sx.yl (.loadW rfl Fx.agg27 (.head _) (ck_length _)) rfl ?_
        | refine Sx.yl (.loadW rfl Fx.agg27 (.tail _ (.head _)) (ck_length _)) rfl ?_
      refine Sx.cons ?_
      first
        | refine Sx.storeW rfl rfl Fx.size27 (ckL_one _) (.head) rfl ?_
        | refine Sx.storeW rfl rfl Fx.size27 (ckL_one _) (.tail (.head)) rfl ?_
      refine Sx.nil ?_
      refine Sx.thenN ?_
      refine Sx.ret ?_
      first
        | refine Sx.ret1 (.inl rfl) rfl (.cell rfl Fx.agg27 (.head _) (ck_length _)) (fun W s => ⟨?_, s.ext⟩)
        | refine Sx.ret1 (.inl rfl) rfl (.cell rfl Fx.agg27 (.tail _ (.head _)) (ck_length _)) (fun W s => ⟨?_, s.ext⟩)
      unfold tickF
      first | rw [if_pos (by simp; omega)] | rw [if_neg (by simp; omega)]
      try rfl
  · try simp only [decide_eq_false_iff_not] at h7
    refine Sx.cons ?_
    refine Sx.guardF rfl rfl rfl rfl ?_
    refine Sx.cons ?_
    refine Sx.guardF rfl rfl rfl rfl ?_
    refine Sx.cons ?_
    refine Sx.yl (.pickF rfl rfl) rfl ?_
    refine Sx.cons ?_
    refine Sx.yl (.move rfl) rfl ?_
    refine Sx.cons ?_
    refine Sx.guardF rfl rfl rfl rfl ?_
    refine Sx.cons ?_
    refine Sx.guardF rfl rfl rfl rfl ?_
    refine Sx.cons ?_
    refine Sx.guardF rfl rfl rfl rfl ?_
    refine Sx.cons ?_
    refine Sx.guardF rfl rfl rfl rfl ?_
    refine Sx.cons ?_
    refine Sx.guardF rfl rfl rfl rfl ?_
    refine Sx.cons ?_
    refine Sx.yl (.pickF rfl rfl) rfl ?_
    refine Sx.nil ?_
    refine Sx.thenN ?_
    refine Sx.condF rfl ?_
    refine Sx.skip ?_
    refine Sx.thenN ?_
    refine Sx.seq ?_
    refine Sx.region ?_
    refine Sx.cons ?_
    first
      | refine Sx.yl (.loadW rfl Fx.agg27 (.head _) (ck_length _)) rfl ?_
      | refine Sx.yl (.loadW rfl Fx.agg27 (.tail _ (.head _)) (ck_length _)) rfl ?_
    refine Sx.cons ?_
    first
      | refine Sx.storeW rfl rfl Fx.size27 (ckL_one _) (.head) rfl ?_
      | refine Sx.storeW rfl rfl Fx.size27 (ckL_one _) (.tail (.head)) rfl ?_
    refine Sx.nil ?_
    refine Sx.thenN ?_
    refine Sx.ret ?_
    first
      | refine Sx.ret1 (.inl rfl) rfl (.cell rfl Fx.agg27 (.head _) (ck_length _)) (fun W s => ⟨?_, s.ext⟩)
      | refine Sx.ret1 (.inl rfl) rfl (.cell rfl Fx.agg27 (.tail _ (.head _)) (ck_length _)) (fun W s => ⟨?_, s.ext⟩)
    unfold tickF
    first | rw [if_pos (by simp; omega)] | rw [if_neg (by simp; omega)]
    try rfl
end Go.Proofs.YtnmickfdflinpaaDoor
