/- Contract of the reference Length. -/
import Derived.Test.YtnmickfdflinpaaDoorF2
namespace Go.Proofs.YtnmickfdflinpaaDoor
open Go.RowKit Go.Par Go.Sx
theorem ck_index27 (x : Nat → Int) {k : Nat} (h : k < 16) (W : World) : (Instr.index 27 (.agg (ckL x).toArray) (.int .i64 k)).run Tryd.prog W = .ok (.int .u64 (x k)) W := by
  have h1 : (underlying 27).run Tryd.prog W = .ok (.array 16 23) W := by simp [go_sem]
  have h2 : (Go.sizeOf 23).run Tryd.prog W = .ok 1 W := by simp [go_sem]
  have h3 : (part 23 (ckL x).toArray k).run Tryd.prog W = .ok (.int .u64 (x k)) W := part23 x k h W
  unfold Instr.index
  simp only [asIntOf, Sem.run_bind, Sem.run_pure, Result.andThen, h1]
  rw [if_pos (by omega)]
  simp only [Sem.run_bind, h2, Result.andThen, Int.toNat_natCast, Nat.mul_one, h3]
theorem ckIndex {L : Sl} {H : Hp} {w0 : World} {bs : List Res} {d : Option Tmp} {ty : TypeId} {pos : String} {aft : Array Edge} {g : Option (Nat × Bool)} {p q : Operand} {x : Nat → Int} {k : Nat} (hx : ev L p = some (.agg (ckL x).toArray)) (hi : ev L q = some (.int .i64 k)) (h : k < 16) :
    Yl Tryd.prog L H w0 bs ⟨d, .index 27 p q, ty, pos, aft, g⟩ (.int .u64 (x k)) := .of_run fun a W f _ => by
  unfold execOp
  simp only [f p _ hx, f q _ hi, Sem.run_bind, ck_index27 x h, Result.andThen, Sem.run_pure]
set_option maxRecDepth 100000 in
theorem rlength_any (x : Nat → Int) (hU : U64 x) (w : World) :
    Calls Tryd.prog 40 #[ck x] w fun e w' => e = .returned (.int .i64 (lenK x 16)) ∧ Ext w w' := by
  refine Sx.enter (H := (fun _ => none)) Tryd.func40 rfl Tryd.ntmps40 rfl (fun _ _ e => by cases e) ?_
  refine Sx.seq ?_
  refine Sx.region ?_
  refine Sx.cons ?_
  refine Sx.box (l := ckL x) rfl rfl rfl (fun b1 => ?_)
  refine Sx.cons ?_
  refine Sx.yl (.assign rfl) rfl ?_
  refine Sx.nil ?_
  refine Sx.thenN ?_
  refine Sx.seq ?_
  refine Sx.region ?_
  refine Sx.cons ?_
  refine Sx.yl (.assign rfl) rfl ?_
  refine Sx.nil ?_
  refine Sx.thenN ?_
  refine Sx.seq ?_
  refine Sx.seq ?_
  refine Sx.region ?_
  refine Sx.cons ?_
  refine Sx.yl (.loadW rfl Fx.agg27 (.head _) (ck_length _)) rfl ?_
  refine Sx.cons ?_
  refine Sx.yl (.move rfl) rfl ?_
  refine Sx.nil ?_
  refine Sx.thenN ?_
  refine Sx.blk ?_
  -- live at the head, not kept: [2]
  refine Sx.loop (X := Nat) (fun k => [(1, .pointer (some ⟨b1, 0, none⟩)), (3, .int .i64 (lenK x k)), (6, .agg (ckL x).toArray), (7, .int .i64 k)]) (fun k => fun _ => none) (fun k => [.box b1 (ckL x) 27]) (fun k => k ≤ 16) (fun k => 16 - k) 0 (by omega) ⟨rfl, rfl, rfl, rfl, trivial⟩ (fun W s => s) ?_
  intro k hC
  have hx := hU k
  have hl := lenK_le x k
  refine Sx.seq ?_
  refine Sx.region ?_
  refine Sx.cons ?_
  refine Sx.yl (.lss rfl rfl) rfl ?_
  refine Sx.nil ?_
  refine Sx.thenN ?_
  refine Sx.seq ?_
  refine Sx.cond rfl (fun h8 => ?_) (fun h8 => ?_)
  · try simp only [decide_eq_true_eq] at h8
    refine Sx.skip ?_
    refine Sx.thenN ?_
    refine Sx.seq ?_
    refine Sx.blk ?_
    refine Sx.seq ?_
    refine Sx.region ?_
    refine Sx.cons ?_
    refine Sx.yl (.move rfl) rfl ?_
    refine Sx.cons ?_
    refine Sx.yl (ckIndex rfl rfl (by omega)) rfl ?_
    refine Sx.cons ?_
    refine Sx.yl (.assign rfl) rfl ?_
    refine Sx.cons ?_
    refine Sx.yl (.assign rfl) rfl ?_
    refine Sx.nil ?_
    refine Sx.thenN ?_
    refine Sx.seq ?_
    refine Sx.region ?_
    refine Sx.cons ?_
    refine Sx.yl (.move rfl) rfl ?_
    refine Sx.cons ?_
    refine Sx.yl (.gtr rfl rfl) rfl ?_
    refine Sx.nil ?_
    refine Sx.thenN ?_
    refine Sx.cond rfl (fun h12 => ?_) (fun h12 => ?_)
    · try simp only [decide_eq_true_eq] at h12
      refine Sx.region ?_
      refine Sx.cons ?_
      refine Sx.yl (.move rfl) rfl ?_
      refine Sx.cons ?_
      refine Sx.yl (.add rfl rfl (w64 (by omega) (by omega))) rfl ?_
      refine Sx.cons ?_
      refine Sx.yl (.assign rfl) rfl ?_
      refine Sx.nil ?_
      refine Sx.blkN ?_
      refine Sx.thenN ?_
      refine Sx.region ?_
      refine Sx.cons ?_
      refine Sx.yl (.add rfl rfl (w64 (by omega) (by omega))) rfl ?_
      refine Sx.cons ?_
      refine Sx.yl (.move rfl) rfl ?_
      refine Sx.nil ?_
      refine Sx.thenN ?_
      exact Sx.again (k + 1) ⟨by omega, by omega⟩ ⟨rfl, by rw [lenK, if_neg (by omega)]; rfl, rfl, rfl, trivial⟩ (fun W s => s)
    · try simp only [decide_eq_false_iff_not] at h12
      refine Sx.skip ?_
      refine Sx.blkN ?_
      refine Sx.thenN ?_
      refine Sx.region ?_
      refine Sx.cons ?_
      refine Sx.yl (.add rfl rfl (w64 (by omega) (by omega))) rfl ?_
      refine Sx.cons ?_
      refine Sx.yl (.move rfl) rfl ?_
      refine Sx.nil ?_
      refine Sx.thenN ?_
      exact Sx.again (k + 1) ⟨by omega, by omega⟩ ⟨rfl, by rw [lenK, if_pos (by omega)]; rfl, rfl, rfl, trivial⟩ (fun W s => s)
  · try simp only [decide_eq_false_iff_not] at h8
    refine Sx.exit ?_
    refine Sx.thenE ?_
    refine Sx.thenE ?_
    refine Sx.blkE ?_
    refine Sx.thenN ?_
    refine Sx.seq ?_
    refine Sx.region ?_
    refine Sx.cons ?_
    refine Sx.yl (.move rfl) rfl ?_
    refine Sx.cons ?_
    refine Sx.yl (.assign rfl) rfl ?_
    refine Sx.nil ?_
    refine Sx.thenN ?_
    refine Sx.ret ?_
    refine Sx.ret1 (.inl rfl) rfl (.tmp rfl) (fun W s => ⟨?_, s.ext⟩)
    obtain rfl : k = 16 := by omega
    rfl
end Go.Proofs.YtnmickfdflinpaaDoor
