/- Contracts of Tick. -/
import Derived.Test.YtnmickfdflinpaaDoorF1
namespace Go.Proofs.YtnmickfdflinpaaDoor
open Go.RowKit Go.Par Go.Sx
def zeroF : Nat → Int := fun _ => 0
def tickF (x : Nat → Int) (i : Int) : Nat → Int := if 0 ≤ i ∧ i < 16 ∧ x i.toNat < 18446744073709551615 then upd x i.toNat (x i.toNat + 1) else x
set_option maxRecDepth 100000 in
theorem tick_any (x : Nat → Int) (hU : U64 x) (i : Int) (w : World) :
    Calls Tryd.prog 23 #[ck x, .int .i64 i] w fun e w' => e = .returned (ck (tickF x i)) ∧ Ext w w' := by
  refine Sx.enter (H := (fun _ => none)) Tryd.func23 rfl Tryd.ntmps23 rfl (fun _ _ e => by cases e) ?_
  refine Sx.seq ?_
  refine Sx.region ?_
  refine Sx.cons ?_
  refine Sx.box (l := ckL x) rfl rfl rfl (fun b2 => ?_)
  refine Sx.cons ?_
  refine Sx.alloc Fx.zero26 rfl (fun b4 => ?_)
  refine Sx.nil ?_
  refine Sx.thenN ?_
  refine Sx.seq ?_
  refine Sx.seq ?_
  refine Sx.region ?_
  refine Sx.cons ?_
  refine Sx.yl (.move rfl) rfl ?_
  refine Sx.cons ?_
  refine Sx.yl (.leq rfl rfl) rfl ?_
  refine Sx.cons ?_
  refine Sx.yl (.move rfl) rfl ?_
  refine Sx.bool (fun h7 => ?_) (fun h7 => ?_)
  · simp only [decide_eq_true_eq] at h7
    obtain ⟨k, rfl⟩ := Int.eq_ofNat_of_zero_le h7
    refine Sx.cons ?_
    refine Sx.guardT rfl rfl ?_
    refine Sx.yl (.move rfl) rfl ?_
    refine Sx.cons ?_
    refine Sx.guardT rfl rfl ?_
    refine Sx.yl (.lss rfl rfl) rfl ?_
    refine Sx.cons ?_
    refine Sx.yl (.pickT rfl rfl) rfl ?_
    refine Sx.cons ?_
    refine Sx.yl (.move rfl) rfl ?_
    refine Sx.bool (fun h11 => ?_) (fun h11 => ?_)
    · simp only [decide_eq_true_eq] at h11
      have hx := hU k
      refine Sx.cons ?_
      refine Sx.guardT rfl rfl ?_
      refine Sx.yl (.move rfl) rfl ?_
      refine Sx.cons ?_
      refine Sx.guardT rfl rfl ?_
      refine Sx.yl (.fieldAddr rfl Fx.field26_0) rfl ?_
      refine Sx.cons ?_
      refine Sx.guardT rfl rfl ?_
      refine Sx.yl (.indexArr Fx.arr24 rfl rfl rfl (by omega) (q := k) (by omega)) rfl ?_
      refine Sx.cons ?_
      refine Sx.guardT rfl rfl ?_
      first
        | refine Sx.yl (.load rfl Fx.agg23 (.head _) (ck_at x (k := k) (by omega))) rfl ?_
        | refine Sx.yl (.load rfl Fx.agg23 (.tail _ (.head _)) (ck_at x (k := k) (by omega))) rfl ?_
      refine Sx.cons ?_
      refine Sx.guardT rfl rfl ?_
      refine Sx.yl (.lss rfl rfl) rfl ?_
      refine Sx.cons ?_
      refine Sx.yl (.pickT rfl rfl) rfl ?_
      refine Sx.nil ?_
      refine Sx.thenN ?_
      refine Sx.cond rfl (fun h17 => ?_) (fun h17 => ?_)
      · try simp only [decide_eq_true_eq] at h17
        refine Sx.region ?_
        refine Sx.cons ?_
        refine Sx.yl (.move rfl) rfl ?_
        refine Sx.cons ?_
        refine Sx.yl (.fieldAddr rfl Fx.field26_0) rfl ?_
        refine Sx.cons ?_
        refine Sx.yl (.indexArr Fx.arr24 rfl rfl rfl (by omega) (q := k) (by omega)) rfl ?_
        refine Sx.cons ?_
        first
          | refine Sx.yl (.load rfl Fx.agg23 (.head _) (ck_at x (k := k) (by omega))) rfl ?_
          | refine Sx.yl (.load rfl Fx.agg23 (.tail _ (.head _)) (ck_at x (k := k) (by omega))) rfl ?_
        refine Sx.cons ?_
        refine Sx.yl (.add rfl rfl (wu64 (by omega) (by omega))) rfl ?_
        refine Sx.cons ?_
        refine Sx.yl (.fieldAddr rfl Fx.field26_0) rfl ?_
        refine Sx.cons ?_
        refine Sx.yl (.indexArr Fx.arr24 rfl rfl rfl (by omega) (q := k) (by omega)) rfl ?_
        refine Sx.cons ?_
        first
          | refine Sx.store rfl rfl Fx.size23 rfl (.head) (by rw [ck_length]; omega) (ck_set x k (x k + 1) (by omega)) ?_
          | refine Sx.store rfl rfl Fx.size23 rfl (.tail (.head)) (by rw [ck_length]; omega) (ck_set x k (x k + 1) (by omega)) ?_
        refine Sx.nil ?_
        refine Sx.thenN ?_
        refine Sx.seq ?_
        refine Sx.region ?_
        refine Sx.cons ?_
        first
          | refine Sx.yl (.loadW rfl Fx.agg26 (.head _) (ck_length _)) rfl ?_
          | refine Sx.yl (.loadW rfl Fx.agg26 (.tail _ (.head _)) (ck_length _)) rfl ?_
        refine Sx.cons ?_
        first
          | refine Sx.storeW rfl rfl Fx.size26 (ckL_one _) (.head) rfl ?_
          | refine Sx.storeW rfl rfl Fx.size26 (ckL_one _) (.tail (.head)) rfl ?_
        refine Sx.nil ?_
        refine Sx.thenN ?_
        refine Sx.ret ?_
        first
          | refine Sx.ret1 (.inl rfl) rfl (.cell rfl Fx.agg26 (.head _) (ck_length _)) (fun W s => ⟨?_, s.ext⟩)
          | refine Sx.ret1 (.inl rfl) rfl (.cell rfl Fx.agg26 (.tail _ (.head _)) (ck_length _)) (fun W s => ⟨?_, s.ext⟩)
        unfold tickF
        first | rw [if_pos (by simp; omega)] | rw [if_neg (by simp; omega)]
        try rfl
      · try simp only [decide_eq_false_iff_not] at h17
        refine Sx.skip ?_
        refine Sx.thenN ?_
        refine Sx.seq ?_
        refine Sx.region ?_
        refine Sx.cons ?_
        first
          | refine Sx.yl (.loadW rfl Fx.agg26 (.head _) (ck_length _)) rfl ?_
          | refine Sx.yl (.loadW rfl Fx.agg26 (.tail _ (.head _)) (ck_length _)) rfl ?_
        refine Sx.cons ?_
        first
          | refine Sx.storeW rfl rfl Fx.size26 (ckL_one _) (.head) rfl ?_
          | refine Sx.storeW rfl rfl Fx.size26 (ckL_one _) (.tail (.head)) rfl ?_
        refine Sx.nil ?_
        refine Sx.thenN ?_
        refine Sx.ret ?_
        first
          | refine Sx.ret1 (.inl rfl) rfl (.cell rfl Fx.agg26 (.head _) (ck_length _)) (fun W s => ⟨?_, s.ext⟩)
          | refine Sx.ret1 (.inl rfl) rfl (.cell rfl Fx.agg26 (.tail _ (.head _)) (ck_length _)) (fun W s => ⟨?_, s.ext⟩)
        unfold tickF
        first | rw [if_pos (by simp; omega)] | rw [if_neg (by simp; omega)]
        try rfl
    · try simp only [decide_eq_false_iff_not] at h11
      refine Sx.cons ?_
      refine Sx.guardF rfl rfl rfl rfl ?_
      refine Sx.cons ?_
      refine Sx.guardF rfl rfl rfl rfl ?_
      refine Sx.cons ?_
      refine Sx.guardF rfl rfl rfl rfl ?_
      refine Sx.cons ?_
      refine Sx.guardF rfl rfl rfl rfl ?_
      refine Sx.cons ?_
      refine Sx.guardF rfl rfl rfl rfl ?_
      refine Sx.cons ?_
      refine Sx.yl (.pickF rfl rfl) rfl ?_
      refine Sx.nil ?_
      refine Sx.thenN ?_
      refine Sx.condF rfl ?_
      refine Sx.skip ?_
      refine Sx.thenN ?_
      refine Sx.seq ?_
      refine Sx.region ?_
      refine Sx.cons ?_
      first
        | refine Sx.yl (.loadW rfl Fx.agg26 (.head _) (ck_length _)) rfl ?_
        | refine Sx.yl (.loadW rfl Fx.agg26 (.tail _ (.head _)) (ck_length _)) rfl ?_
      refine Sx.cons ?_
      first
        | refine Sx.storeW rfl rfl Fx.size26 (ckL_one _) (.head) rfl ?_
        | refine Sx.storeW rfl rfl Fx.size26 (ckL_one _) (.tail (.head)) rfl ?_
      refine Sx.nil ?_
      refine Sx.thenN ?_
      refine Sx.ret ?_
      first
        | refine Sx.ret1 (.inl rfl) rfl (.cell rfl Fx.agg26 (.head _) (ck_length _)) (fun W s => ⟨?_, s.ext⟩)
        | refine Sx.ret1 (.inl rfl) rfl (.cell rfl Fx.agg26 (.tail _ (.head _)) (ck_length _)) (fun W s => ⟨?_, s.ext⟩)
      unfold tickF
      first | rw [if_pos (by simp; omega)] | rw [if_neg (by simp; omega)]
      try rfl
  · try simp only [decide_eq_false_iff_not] at h7
    refine Sx.cons ?_
    refine Sx.guardF rfl rfl rfl rfl ?_
    refine Sx.cons ?_
    refine Sx.guardF rfl rfl rfl rfl ?_
    refine Sx.cons ?_
    refine Sx.yl (.pickF rfl rfl) rfl ?_
    refine Sx.cons ?_
    refine Sx.yl (.move rfl) rfl ?_
    refine Sx.cons ?_
    refine Sx.guardF rfl rfl rfl rfl ?_
    refine Sx.cons ?_
    refine Sx.guardF rfl rfl rfl rfl ?_
    refine Sx.cons ?_
    refine Sx.guardF rfl rfl rfl rfl ?_
    refine Sx.cons ?_
    refine Sx.guardF rfl rfl rfl rfl ?_
    refine Sx.cons ?_
    refine Sx.guardF rfl rfl rfl rfl ?_
    refine Sx.cons ?_
    refine Sx.yl (.pickF rfl rfl) rfl ?_
    refine Sx.nil ?_
    refine Sx.thenN ?_
    refine Sx.condF rfl ?_
    refine Sx.skip ?_
    refine Sx.thenN ?_
    refine Sx.seq ?_
    refine Sx.region ?_
    refine Sx.cons ?_
    first
      | refine Sx.yl (.loadW rfl Fx.agg26 (.head _) (ck_length _)) rfl ?_
      | refine Sx.yl (.loadW rfl Fx.agg26 (.tail _ (.head _)) (ck_length _)) rfl ?_
    refine Sx.cons ?_
    first
      | refine Sx.storeW rfl rfl Fx.size26 (ckL_one _) (.head) rfl ?_
      | refine Sx.storeW rfl rfl Fx.size26 (ckL_one _) (.tail (.head)) rfl ?_
    refine Sx.nil ?_
    refine Sx.thenN ?_
    refine Sx.ret ?_
    first
      | refine Sx.ret1 (.inl rfl) rfl (.cell rfl Fx.agg26 (.head _) (ck_length _)) (fun W s => ⟨?_, s.ext⟩)
      | refine Sx.ret1 (.inl rfl) rfl (.cell rfl Fx.agg26 (.tail _ (.head _)) (ck_length _)) (fun W s => ⟨?_, s.ext⟩)
    unfold tickF
    first | rw [if_pos (by simp; omega)] | rw [if_neg (by simp; omega)]
    try rfl
end Go.Proofs.YtnmickfdflinpaaDoor
