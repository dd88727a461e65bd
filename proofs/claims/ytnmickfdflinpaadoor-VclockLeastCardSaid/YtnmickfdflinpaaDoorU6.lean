/- Contracts: both, is. -/
import Derived.Test.YtnmickfdflinpaaDoorF5
namespace Go.Proofs.YtnmickfdflinpaaDoor
open Go.RowKit Go.Par Go.Sx
theorem get_nat (x : Nat → Int) (k : Nat) (h : k < 16) (w : World) : Calls Tryd.prog 39 #[ck x, .int .i64 k] w fun e w' => e = .returned (.int .u64 (x k)) ∧ Ext w w' := by
  have := get_any x k w
  have e : getF x k = x k := by unfold getF; rw [if_pos (by omega)]; simp
  rwa [e] at this
theorem get_out (x : Nat → Int) (i : Int) (h : i < 0 ∨ 16 ≤ i) (w : World) : Calls Tryd.prog 39 #[ck x, .int .i64 i] w fun e w' => e = .returned (.int .u64 0) ∧ Ext w w' := by
  have := get_any x i w
  have e : getF x i = 0 := by unfold getF; rw [if_neg (by omega)]
  rwa [e] at this
theorem sl_take {H : Hp} {p : Option Addr} {n c k : Nat} {xs : List Int} (h : SlAt H (.slice p n c) n (u64L xs)) (hk : k ≤ n) : SlAt H (.slice p k c) k (u64L (xs.take k)) := by
  obtain ⟨hn, p', c', e, hc, hcm, hs⟩ := h
  injection e with e1 e2 e3
  subst e1 e3
  rw [u64L_length] at hn
  refine ⟨by rw [u64L_length]; simp; omega, p, c, rfl, by omega, hcm, ?_⟩
  rcases hs with hs | ⟨b, off, arr, t, m, rfl, hb, ha⟩
  · left
    have : xs = [] := by simpa [u64L] using hs
    subst this; simp [u64L]
  · right
    refine ⟨b, off, arr, t, m, rfl, hb, fun j u hu => ha j u ?_⟩
    have hj : j < k := by
      have := (List.getElem?_eq_some_iff.1 hu).1
      rw [u64L_length] at this; simp at this; omega
    rw [← hu]
    unfold u64L
    rw [List.map_take, List.getElem?_take_of_lt hj]
set_option maxHeartbeats 4000000 in
set_option maxRecDepth 100000 in
theorem both_any (H : Hp) (v : Value) (n : Nat) (xs : List Int) (hv : SlAt H v n (u64L xs)) (w : World) (hA : Agr H w) :
    Calls Tryd.prog 13 #[v] w fun e w' => e = .returned (.tuple #[ck (ofF (xs.take 16)), ck (ofF (xs.take 16)), .bool true]) ∧ Ext w w' := by
  have hv0 := hv
  obtain ⟨hn, p, c, rfl, hc, hcm, hs⟩ := hv
  rw [u64L_length] at hn
  have hsp : 16 < n → ∀ q, p = some q → q.spot = none := by
    intro hbig
    rcases hs with hs | ⟨b, off, arr, t, m, rfl, hb, ha⟩
    · have := congrArg List.length hs
      rw [u64L_length, List.length_nil] at this
      omega
    · intro q e; rw [← Option.some.inj e]
  refine Sx.enter (H := H) Tryd.func13 rfl Tryd.ntmps13 rfl hA ?_
  refine Sx.seq ?_
  refine Sx.region ?_
  refine Sx.cons ?_
  refine Sx.alloc Fx.zero26 rfl (fun b2 => ?_)
  refine Sx.cons ?_
  refine Sx.alloc Fx.zero27 rfl (fun b3 => ?_)
  refine Sx.cons ?_
  refine Sx.yl (.assign rfl) rfl ?_
  refine Sx.nil ?_
  refine Sx.thenN ?_
  refine Sx.cutS (X := Value × Nat) (fun z => [(0, z.1), (2, .pointer (some ⟨b2, 0, none⟩)), (3, .pointer (some ⟨b3, 0, none⟩))]) (fun z => H) (fun z => [.box b3 (ckL fun _ => 0) 27, .box b2 (ckL fun _ => 0) 26]) (fun z => SlAt H z.1 z.2 (u64L (xs.take 16))) ?_ ?_
  ·
    refine Sx.seq ?_
    refine Sx.region ?_
    refine Sx.cons ?_
    refine Sx.yl (.move rfl) rfl ?_
    refine Sx.cons ?_
    refine Sx.yl (.lenSl Fx.sl22 rfl) rfl ?_
    refine Sx.cons ?_
    refine Sx.yl (.gtr rfl rfl) rfl ?_
    refine Sx.nil ?_
    refine Sx.thenN ?_
    refine Sx.cond rfl (fun h11 => ?_) (fun h11 => ?_)
    · try simp only [decide_eq_true_eq] at h11
      refine Sx.region ?_
      refine Sx.cons ?_
      refine Sx.yl (.move rfl) rfl ?_
      refine Sx.cons ?_
      refine Sx.yl (.cutHi Fx.sl22 rfl rfl rfl (h := 16) (by omega) (hsp (by omega))) rfl ?_
      refine Sx.cons ?_
      refine Sx.yl (.assign rfl) rfl ?_
      refine Sx.nil ?_
      refine Sx.thenN ?_
      exact Sx.meet (_, 16) (sl_take (k := 16) hv0 (by omega)) ⟨rfl, rfl, rfl, trivial⟩ (fun W s => s)
    · try simp only [decide_eq_false_iff_not] at h11
      refine Sx.skip ?_
      refine Sx.thenN ?_
      exact Sx.meet (_, n) (by rw [List.take_of_length_le (by omega)]; exact hv0) ⟨rfl, rfl, rfl, trivial⟩ (fun W s => s)
  · intro z hC
    obtain ⟨v, m⟩ := z
    have hv : SlAt H v m (u64L (xs.take 16)) := hC
    refine Sx.seq ?_
    refine Sx.region ?_
    refine Sx.cons ?_
    refine Sx.yl (.move rfl) rfl ?_
    refine Sx.cons ?_
    refine Sx.yl (.call Fx.call27 rfl (fun W s => of_any H _ _ (xs.take 16) hv (by simp; omega) W s.agr)) rfl ?_
    refine Sx.cons ?_
    refine Sx.yl (.move rfl) rfl ?_
    refine Sx.cons ?_
    refine Sx.yl (.extract rfl rfl) rfl ?_
    refine Sx.cons ?_
    refine Sx.yl (.extract rfl rfl) rfl ?_
    refine Sx.cons ?_
    refine Sx.alloc Fx.zero26 rfl (fun b5 => ?_)
    refine Sx.cons ?_
    first
      | refine Sx.storeW rfl rfl Fx.size26 (ckL_one _) (.head) rfl ?_
      | refine Sx.storeW rfl rfl Fx.size26 (ckL_one _) (.tail (.head)) rfl ?_
      | refine Sx.storeW rfl rfl Fx.size26 (ckL_one _) (.tail (.tail (.head))) rfl ?_
    refine Sx.cons ?_
    refine Sx.yl (.assign rfl) rfl ?_
    refine Sx.nil ?_
    refine Sx.thenN ?_
    refine Sx.seq ?_
    refine Sx.region ?_
    refine Sx.cons ?_
    refine Sx.yl (.move rfl) rfl ?_
    refine Sx.cons ?_
    refine Sx.yl (.call Fx.call28 rfl (fun W s => rof_any H _ _ (xs.take 16) hv (by simp; omega) W s.agr)) rfl ?_
    refine Sx.cons ?_
    refine Sx.yl (.move rfl) rfl ?_
    refine Sx.cons ?_
    refine Sx.yl (.extract rfl rfl) rfl ?_
    refine Sx.cons ?_
    refine Sx.yl (.extract rfl rfl) rfl ?_
    refine Sx.cons ?_
    refine Sx.alloc Fx.zero27 rfl (fun b7 => ?_)
    refine Sx.cons ?_
    first
      | refine Sx.storeW rfl rfl Fx.size27 (ckL_one _) (.head) rfl ?_
      | refine Sx.storeW rfl rfl Fx.size27 (ckL_one _) (.tail (.head)) rfl ?_
      | refine Sx.storeW rfl rfl Fx.size27 (ckL_one _) (.tail (.tail (.head))) rfl ?_
      | refine Sx.storeW rfl rfl Fx.size27 (ckL_one _) (.tail (.tail (.tail (.head)))) rfl ?_
    refine Sx.cons ?_
    refine Sx.yl (.assign rfl) rfl ?_
    refine Sx.nil ?_
    refine Sx.thenN ?_
    refine Sx.seq ?_
    refine Sx.anyRegion 7 #[false, false, false, false, false, false, false] (by kernel_rfl) rfl rfl ?_
    refine Sx.anyStep 0 [1, 2] (by kernel_rfl) ⟨?_, ?_, ?_, trivial⟩
    ·
      refine Sx.anyOp #[true, false, false, false, false, false, false] rfl rfl ?_
      first
        | refine Sx.yl (.loadW rfl Fx.agg26 (.head _) (ck_length _)) rfl ?_
        | refine Sx.yl (.loadW rfl Fx.agg26 (.tail _ (.head _)) (ck_length _)) rfl ?_
        | refine Sx.yl (.loadW rfl Fx.agg26 (.tail _ (.tail _ (.head _))) (ck_length _)) rfl ?_
        | refine Sx.yl (.loadW rfl Fx.agg26 (.tail _ (.tail _ (.tail _ (.head _)))) (ck_length _)) rfl ?_
      refine Sx.anyStep 1 [2, 4] (by kernel_rfl) ⟨?_, ?_, ?_, trivial⟩
      ·
        refine Sx.anyOp #[true, true, false, false, false, false, false] rfl rfl ?_
        first
          | refine Sx.yl (.loadW rfl Fx.agg27 (.head _) (ck_length _)) rfl ?_
          | refine Sx.yl (.loadW rfl Fx.agg27 (.tail _ (.head _)) (ck_length _)) rfl ?_
          | refine Sx.yl (.loadW rfl Fx.agg27 (.tail _ (.tail _ (.head _))) (ck_length _)) rfl ?_
          | refine Sx.yl (.loadW rfl Fx.agg27 (.tail _ (.tail _ (.tail _ (.head _)))) (ck_length _)) rfl ?_
        refine Sx.anyStep 2 [4] (by kernel_rfl) ⟨?_, ?_, trivial⟩
        ·
          refine Sx.anyOp #[true, true, true, false, false, false, false] rfl rfl ?_
          refine Sx.yl (.move rfl) rfl ?_
          refine Sx.anyStep 3 [4] (by kernel_rfl) ⟨?_, ?_, trivial⟩
          ·
            refine Sx.anyOp #[true, true, true, true, false, false, false] rfl rfl ?_
            refine Sx.yl (.eql rfl rfl) rfl ?_
            refine Sx.anyStep 4 [] (by kernel_rfl) ⟨?_, trivial⟩
            ·
              refine Sx.anyOp #[true, true, true, true, true, false, false] rfl rfl ?_
              first
                | refine Sx.storeW rfl rfl Fx.size26 (ckL_one _) (.head) rfl ?_
                | refine Sx.storeW rfl rfl Fx.size26 (ckL_one _) (.tail (.head)) rfl ?_
                | refine Sx.storeW rfl rfl Fx.size26 (ckL_one _) (.tail (.tail (.head))) rfl ?_
                | refine Sx.storeW rfl rfl Fx.size26 (ckL_one _) (.tail (.tail (.tail (.head)))) rfl ?_
              refine Sx.anyStep 5 [] (by kernel_rfl) ⟨?_, trivial⟩
              ·
                refine Sx.anyOp #[true, true, true, true, true, true, false] rfl rfl ?_
                first
                  | refine Sx.storeW rfl rfl Fx.size27 (ckL_one _) (.head) rfl ?_
                  | refine Sx.storeW rfl rfl Fx.size27 (ckL_one _) (.tail (.head)) rfl ?_
                  | refine Sx.storeW rfl rfl Fx.size27 (ckL_one _) (.tail (.tail (.head))) rfl ?_
                  | refine Sx.storeW rfl rfl Fx.size27 (ckL_one _) (.tail (.tail (.tail (.head)))) rfl ?_
                refine Sx.anyStep 6 [] (by kernel_rfl) ⟨?_, trivial⟩
                ·
                  refine Sx.anyOp #[true, true, true, true, true, true, true] rfl rfl ?_
                  refine Sx.yl (.assign rfl) rfl ?_
                  refine Sx.anyEnd (by kernel_rfl) ?_
                  refine Sx.thenN ?_
                  refine Sx.ret ?_
                  first
                    | refine Sx.retN (.inl rfl) rfl (.cons (.cell rfl Fx.agg26 (.head _) (ck_length _)) (.cons (.cell rfl Fx.agg27 (.tail _ (.tail _ (.head _))) (ck_length _)) (.cons (.tmp rfl) .nil))) rfl (fun W s => ⟨rfl, s.ext⟩)
                    | refine Sx.retN (.inl rfl) rfl (.cons (.cell rfl Fx.agg26 (.tail _ (.head _)) (ck_length _)) (.cons (.cell rfl Fx.agg27 (.tail _ (.tail _ (.head _))) (ck_length _)) (.cons (.tmp rfl) .nil))) rfl (fun W s => ⟨rfl, s.ext⟩)
                    | refine Sx.retN (.inl rfl) rfl (.cons (.cell rfl Fx.agg26 (.tail _ (.tail _ (.head _))) (ck_length _)) (.cons (.cell rfl Fx.agg27 (.tail _ (.tail _ (.head _))) (ck_length _)) (.cons (.tmp rfl) .nil))) rfl (fun W s => ⟨rfl, s.ext⟩)
                    | refine Sx.retN (.inl rfl) rfl (.cons (.cell rfl Fx.agg26 (.tail _ (.tail _ (.tail _ (.head _)))) (ck_length _)) (.cons (.cell rfl Fx.agg27 (.tail _ (.tail _ (.head _))) (ck_length _)) (.cons (.tmp rfl) .nil))) rfl (fun W s => ⟨rfl, s.ext⟩)
          ·
            refine Sx.anyOp #[true, true, true, false, true, false, false] rfl rfl ?_
            first
              | refine Sx.storeW rfl rfl Fx.size26 (ckL_one _) (.head) rfl ?_
              | refine Sx.storeW rfl rfl Fx.size26 (ckL_one _) (.tail (.head)) rfl ?_
              | refine Sx.storeW rfl rfl Fx.size26 (ckL_one _) (.tail (.tail (.head))) rfl ?_
              | refine Sx.storeW rfl rfl Fx.size26 (ckL_one _) (.tail (.tail (.tail (.head)))) rfl ?_
            refine Sx.anyStep 3 [5] (by kernel_rfl) ⟨?_, ?_, trivial⟩
            ·
              refine Sx.anyOp #[true, true, true, true, true, false, false] rfl rfl ?_
              refine Sx.yl (.eql rfl rfl) rfl ?_
              refine Sx.anyStep 5 [] (by kernel_rfl) ⟨?_, trivial⟩
              ·
                refine Sx.anyOp #[true, true, true, true, true, true, false] rfl rfl ?_
                first
                  | refine Sx.storeW rfl rfl Fx.size27 (ckL_one _) (.head) rfl ?_
                  | refine Sx.storeW rfl rfl Fx.size27 (ckL_one _) (.tail (.head)) rfl ?_
                  | refine Sx.storeW rfl rfl Fx.size27 (ckL_one _) (.tail (.tail (.head))) rfl ?_
                  | refine Sx.storeW rfl rfl Fx.size27 (ckL_one _) (.tail (.tail (.tail (.head)))) rfl ?_
                refine Sx.anyStep 6 [] (by kernel_rfl) ⟨?_, trivial⟩
                ·
                  refine Sx.anyOp #[true, true, true, true, true, true, true] rfl rfl ?_
                  refine Sx.yl (.assign rfl) rfl ?_
                  refine Sx.anyEnd (by kernel_rfl) ?_
                  refine Sx.thenN ?_
                  refine Sx.ret ?_
                  first
                    | refine Sx.retN (.inl rfl) rfl (.cons (.cell rfl Fx.agg26 (.head _) (ck_length _)) (.cons (.cell rfl Fx.agg27 (.tail _ (.tail _ (.head _))) (ck_length _)) (.cons (.tmp rfl) .nil))) rfl (fun W s => ⟨rfl, s.ext⟩)
                    | refine Sx.retN (.inl rfl) rfl (.cons (.cell rfl Fx.agg26 (.tail _ (.head _)) (ck_length _)) (.cons (.cell rfl Fx.agg27 (.tail _ (.tail _ (.head _))) (ck_length _)) (.cons (.tmp rfl) .nil))) rfl (fun W s => ⟨rfl, s.ext⟩)
                    | refine Sx.retN (.inl rfl) rfl (.cons (.cell rfl Fx.agg26 (.tail _ (.tail _ (.head _))) (ck_length _)) (.cons (.cell rfl Fx.agg27 (.tail _ (.tail _ (.head _))) (ck_length _)) (.cons (.tmp rfl) .nil))) rfl (fun W s => ⟨rfl, s.ext⟩)
                    | refine Sx.retN (.inl rfl) rfl (.cons (.cell rfl Fx.agg26 (.tail _ (.tail _ (.tail _ (.head _)))) (ck_length _)) (.cons (.cell rfl Fx.agg27 (.tail _ (.tail _ (.head _))) (ck_length _)) (.cons (.tmp rfl) .nil))) rfl (fun W s => ⟨rfl, s.ext⟩)
            ·
              refine Sx.anyOp #[true, true, true, false, true, true, false] rfl rfl ?_
              first
                | refine Sx.storeW rfl rfl Fx.size27 (ckL_one _) (.head) rfl ?_
                | refine Sx.storeW rfl rfl Fx.size27 (ckL_one _) (.tail (.head)) rfl ?_
                | refine Sx.storeW rfl rfl Fx.size27 (ckL_one _) (.tail (.tail (.head))) rfl ?_
                | refine Sx.storeW rfl rfl Fx.size27 (ckL_one _) (.tail (.tail (.tail (.head)))) rfl ?_
              refine Sx.anyStep 3 [] (by kernel_rfl) ⟨?_, trivial⟩
              ·
                refine Sx.anyOp #[true, true, true, true, true, true, false] rfl rfl ?_
                refine Sx.yl (.eql rfl rfl) rfl ?_
                refine Sx.anyStep 6 [] (by kernel_rfl) ⟨?_, trivial⟩
                ·
                  refine Sx.anyOp #[true, true, true, true, true, true, true] rfl rfl ?_
                  refine Sx.yl (.assign rfl) rfl ?_
                  refine Sx.anyEnd (by kernel_rfl) ?_
                  refine Sx.thenN ?_
                  refine Sx.ret ?_
                  first
                    | refine Sx.retN (.inl rfl) rfl (.cons (.cell rfl Fx.agg26 (.head _) (ck_length _)) (.cons (.cell rfl Fx.agg27 (.tail _ (.tail _ (.head _))) (ck_length _)) (.cons (.tmp rfl) .nil))) rfl (fun W s => ⟨rfl, s.ext⟩)
                    | refine Sx.retN (.inl rfl) rfl (.cons (.cell rfl Fx.agg26 (.tail _ (.head _)) (ck_length _)) (.cons (.cell rfl Fx.agg27 (.tail _ (.tail _ (.head _))) (ck_length _)) (.cons (.tmp rfl) .nil))) rfl (fun W s => ⟨rfl, s.ext⟩)
                    | refine Sx.retN (.inl rfl) rfl (.cons (.cell rfl Fx.agg26 (.tail _ (.tail _ (.head _))) (ck_length _)) (.cons (.cell rfl Fx.agg27 (.tail _ (.tail _ (.head _))) (ck_length _)) (.cons (.tmp rfl) .nil))) rfl (fun W s => ⟨rfl, s.ext⟩)
                    | refine Sx.retN (.inl rfl) rfl (.cons (.cell rfl Fx.agg26 (.tail _ (.tail _ (.tail _ (.head _)))) (ck_length _)) (.cons (.cell rfl Fx.agg27 (.tail _ (.tail _ (.head _))) (ck_length _)) (.cons (.tmp rfl) .nil))) rfl (fun W s => ⟨rfl, s.ext⟩)
        ·
          refine Sx.anyOp #[true, true, false, false, true, false, false] rfl rfl ?_
          first
            | refine Sx.storeW rfl rfl Fx.size26 (ckL_one _) (.head) rfl ?_
            | refine Sx.storeW rfl rfl Fx.size26 (ckL_one _) (.tail (.head)) rfl ?_
            | refine Sx.storeW rfl rfl Fx.size26 (ckL_one _) (.tail (.tail (.head))) rfl ?_
            | refine Sx.storeW rfl rfl Fx.size26 (ckL_one _) (.tail (.tail (.tail (.head)))) rfl ?_
          refine Sx.anyStep 2 [5] (by kernel_rfl) ⟨?_, ?_, trivial⟩
          ·
            refine Sx.anyOp #[true, true, true, false, true, false, false] rfl rfl ?_
            refine Sx.yl (.move rfl) rfl ?_
            refine Sx.anyStep 3 [5] (by kernel_rfl) ⟨?_, ?_, trivial⟩
            ·
              refine Sx.anyOp #[true, true, true, true, true, false, false] rfl rfl ?_
              refine Sx.yl (.eql rfl rfl) rfl ?_
              refine Sx.anyStep 5 [] (by kernel_rfl) ⟨?_, trivial⟩
              ·
                refine Sx.anyOp #[true, true, true, true, true, true, false] rfl rfl ?_
                first
                  | refine Sx.storeW rfl rfl Fx.size27 (ckL_one _) (.head) rfl ?_
                  | refine Sx.storeW rfl rfl Fx.size27 (ckL_one _) (.tail (.head)) rfl ?_
                  | refine Sx.storeW rfl rfl Fx.size27 (ckL_one _) (.tail (.tail (.head))) rfl ?_
                  | refine Sx.storeW rfl rfl Fx.size27 (ckL_one _) (.tail (.tail (.tail (.head)))) rfl ?_
                refine Sx.anyStep 6 [] (by kernel_rfl) ⟨?_, trivial⟩
                ·
                  refine Sx.anyOp #[true, true, true, true, true, true, true] rfl rfl ?_
                  refine Sx.yl (.assign rfl) rfl ?_
                  refine Sx.anyEnd (by kernel_rfl) ?_
                  refine Sx.thenN ?_
                  refine Sx.ret ?_
                  first
                    | refine Sx.retN (.inl rfl) rfl (.cons (.cell rfl Fx.agg26 (.head _) (ck_length _)) (.cons (.cell rfl Fx.agg27 (.tail _ (.tail _ (.head _))) (ck_length _)) (.cons (.tmp rfl) .nil))) rfl (fun W s => ⟨rfl, s.ext⟩)
                    | refine Sx.retN (.inl rfl) rfl (.cons (.cell rfl Fx.agg26 (.tail _ (.head _)) (ck_length _)) (.cons (.cell rfl Fx.agg27 (.tail _ (.tail _ (.head _))) (ck_length _)) (.cons (.tmp rfl) .nil))) rfl (fun W s => ⟨rfl, s.ext⟩)
                    | refine Sx.retN (.inl rfl) rfl (.cons (.cell rfl Fx.agg26 (.tail _ (.tail _ (.head _))) (ck_length _)) (.cons (.cell rfl Fx.agg27 (.tail _ (.tail _ (.head _))) (ck_length _)) (.cons (.tmp rfl) .nil))) rfl (fun W s => ⟨rfl, s.ext⟩)
                    | refine Sx.retN (.inl rfl) rfl (.cons (.cell rfl Fx.agg26 (.tail _ (.tail _ (.tail _ (.head _)))) (ck_length _)) (.cons (.cell rfl Fx.agg27 (.tail _ (.tail _ (.head _))) (ck_length _)) (.cons (.tmp rfl) .nil))) rfl (fun W s => ⟨rfl, s.ext⟩)
            ·
              refine Sx.anyOp #[true, true, true, false, true, true, false] rfl rfl ?_
              first
                | refine Sx.storeW rfl rfl Fx.size27 (ckL_one _) (.head) rfl ?_
                | refine Sx.storeW rfl rfl Fx.size27 (ckL_one _) (.tail (.head)) rfl ?_
                | refine Sx.storeW rfl rfl Fx.size27 (ckL_one _) (.tail (.tail (.head))) rfl ?_
                | refine Sx.storeW rfl rfl Fx.size27 (ckL_one _) (.tail (.tail (.tail (.head)))) rfl ?_
              refine Sx.anyStep 3 [] (by kernel_rfl) ⟨?_, trivial⟩
              ·
                refine Sx.anyOp #[true, true, true, true, true, true, false] rfl rfl ?_
                refine Sx.yl (.eql rfl rfl) rfl ?_
                refine Sx.anyStep 6 [] (by kernel_rfl) ⟨?_, trivial⟩
                ·
                  refine Sx.anyOp #[true, true, true, true, true, true, true] rfl rfl ?_
                  refine Sx.yl (.assign rfl) rfl ?_
                  refine Sx.anyEnd (by kernel_rfl) ?_
                  refine Sx.thenN ?_
                  refine Sx.ret ?_
                  first
                    | refine Sx.retN (.inl rfl) rfl (.cons (.cell rfl Fx.agg26 (.head _) (ck_length _)) (.cons (.cell rfl Fx.agg27 (.tail _ (.tail _ (.head _))) (ck_length _)) (.cons (.tmp rfl) .nil))) rfl (fun W s => ⟨rfl, s.ext⟩)
                    | refine Sx.retN (.inl rfl) rfl (.cons (.cell rfl Fx.agg26 (.tail _ (.head _)) (ck_length _)) (.cons (.cell rfl Fx.agg27 (.tail _ (.tail _ (.head _))) (ck_length _)) (.cons (.tmp rfl) .nil))) rfl (fun W s => ⟨rfl, s.ext⟩)
                    | refine Sx.retN (.inl rfl) rfl (.cons (.cell rfl Fx.agg26 (.tail _ (.tail _ (.head _))) (ck_length _)) (.cons (.cell rfl Fx.agg27 (.tail _ (.tail _ (.head _))) (ck_length _)) (.cons (.tmp rfl) .nil))) rfl (fun W s => ⟨rfl, s.ext⟩)
                    | refine Sx.retN (.inl rfl) rfl (.cons (.cell rfl Fx.agg26 (.tail _ (.tail _ (.tail _ (.head _)))) (ck_length _)) (.cons (.cell rfl Fx.agg27 (.tail _ (.tail _ (.head _))) (ck_length _)) (.cons (.tmp rfl) .nil))) rfl (fun W s => ⟨rfl, s.ext⟩)
          ·
            refine Sx.anyOp #[true, true, false, false, true, true, false] rfl rfl ?_
            first
              | refine Sx.storeW rfl rfl Fx.size27 (ckL_one _) (.head) rfl ?_
              | refine Sx.storeW rfl rfl Fx.size27 (ckL_one _) (.tail (.head)) rfl ?_
              | refine Sx.storeW rfl rfl Fx.size27 (ckL_one _) (.tail (.tail (.head))) rfl ?_
              | refine Sx.storeW rfl rfl Fx.size27 (ckL_one _) (.tail (.tail (.tail (.head)))) rfl ?_
            refine Sx.anyStep 2 [] (by kernel_rfl) ⟨?_, trivial⟩
            ·
              refine Sx.anyOp #[true, true, true, false, true, true, false] rfl rfl ?_
              refine Sx.yl (.move rfl) rfl ?_
              refine Sx.anyStep 3 [] (by kernel_rfl) ⟨?_, trivial⟩
              ·
                refine Sx.anyOp #[true, true, true, true, true, true, false] rfl rfl ?_
                refine Sx.yl (.eql rfl rfl) rfl ?_
                refine Sx.anyStep 6 [] (by kernel_rfl) ⟨?_, trivial⟩
                ·
                  refine Sx.anyOp #[true, true, true, true, true, true, true] rfl rfl ?_
                  refine Sx.yl (.assign rfl) rfl ?_
                  refine Sx.anyEnd (by kernel_rfl) ?_
                  refine Sx.thenN ?_
                  refine Sx.ret ?_
                  first
                    | refine Sx.retN (.inl rfl) rfl (.cons (.cell rfl Fx.agg26 (.head _) (ck_length _)) (.cons (.cell rfl Fx.agg27 (.tail _ (.tail _ (.head _))) (ck_length _)) (.cons (.tmp rfl) .nil))) rfl (fun W s => ⟨rfl, s.ext⟩)
                    | refine Sx.retN (.inl rfl) rfl (.cons (.cell rfl Fx.agg26 (.tail _ (.head _)) (ck_length _)) (.cons (.cell rfl Fx.agg27 (.tail _ (.tail _ (.head _))) (ck_length _)) (.cons (.tmp rfl) .nil))) rfl (fun W s => ⟨rfl, s.ext⟩)
                    | refine Sx.retN (.inl rfl) rfl (.cons (.cell rfl Fx.agg26 (.tail _ (.tail _ (.head _))) (ck_length _)) (.cons (.cell rfl Fx.agg27 (.tail _ (.tail _ (.head _))) (ck_length _)) (.cons (.tmp rfl) .nil))) rfl (fun W s => ⟨rfl, s.ext⟩)
                    | refine Sx.retN (.inl rfl) rfl (.cons (.cell rfl Fx.agg26 (.tail _ (.tail _ (.tail _ (.head _)))) (ck_length _)) (.cons (.cell rfl Fx.agg27 (.tail _ (.tail _ (.head _))) (ck_length _)) (.cons (.tmp rfl) .nil))) rfl (fun W s => ⟨rfl, s.ext⟩)
      ·
        refine Sx.anyOp #[true, false, true, false, false, false, false] rfl rfl ?_
        refine Sx.yl (.move rfl) rfl ?_
        refine Sx.anyStep 1 [3, 4] (by kernel_rfl) ⟨?_, ?_, ?_, trivial⟩
        ·
          refine Sx.anyOp #[true, true, true, false, false, false, false] rfl rfl ?_
          first
            | refine Sx.yl (.loadW rfl Fx.agg27 (.head _) (ck_length _)) rfl ?_
            | refine Sx.yl (.loadW rfl Fx.agg27 (.tail _ (.head _)) (ck_length _)) rfl ?_
            | refine Sx.yl (.loadW rfl Fx.agg27 (.tail _ (.tail _ (.head _))) (ck_length _)) rfl ?_
            | refine Sx.yl (.loadW rfl Fx.agg27 (.tail _ (.tail _ (.tail _ (.head _)))) (ck_length _)) rfl ?_
          refine Sx.anyStep 3 [4] (by kernel_rfl) ⟨?_, ?_, trivial⟩
          ·
            refine Sx.anyOp #[true, true, true, true, false, false, false] rfl rfl ?_
            refine Sx.yl (.eql rfl rfl) rfl ?_
            refine Sx.anyStep 4 [] (by kernel_rfl) ⟨?_, trivial⟩
            ·
              refine Sx.anyOp #[true, true, true, true, true, false, false] rfl rfl ?_
              first
                | refine Sx.storeW rfl rfl Fx.size26 (ckL_one _) (.head) rfl ?_
                | refine Sx.storeW rfl rfl Fx.size26 (ckL_one _) (.tail (.head)) rfl ?_
                | refine Sx.storeW rfl rfl Fx.size26 (ckL_one _) (.tail (.tail (.head))) rfl ?_
                | refine Sx.storeW rfl rfl Fx.size26 (ckL_one _) (.tail (.tail (.tail (.head)))) rfl ?_
              refine Sx.anyStep 5 [] (by kernel_rfl) ⟨?_, trivial⟩
              ·
                refine Sx.anyOp #[true, true, true, true, true, true, false] rfl rfl ?_
                first
                  | refine Sx.storeW rfl rfl Fx.size27 (ckL_one _) (.head) rfl ?_
                  | refine Sx.storeW rfl rfl Fx.size27 (ckL_one _) (.tail (.head)) rfl ?_
                  | refine Sx.storeW rfl rfl Fx.size27 (ckL_one _) (.tail (.tail (.head))) rfl ?_
                  | refine Sx.storeW rfl rfl Fx.size27 (ckL_one _) (.tail (.tail (.tail (.head)))) rfl ?_
                refine Sx.anyStep 6 [] (by kernel_rfl) ⟨?_, trivial⟩
                ·
                  refine Sx.anyOp #[true, true, true, true, true, true, true] rfl rfl ?_
                  refine Sx.yl (.assign rfl) rfl ?_
                  refine Sx.anyEnd (by kernel_rfl) ?_
                  refine Sx.thenN ?_
                  refine Sx.ret ?_
                  first
                    | refine Sx.retN (.inl rfl) rfl (.cons (.cell rfl Fx.agg26 (.head _) (ck_length _)) (.cons (.cell rfl Fx.agg27 (.tail _ (.tail _ (.head _))) (ck_length _)) (.cons (.tmp rfl) .nil))) rfl (fun W s => ⟨rfl, s.ext⟩)
                    | refine Sx.retN (.inl rfl) rfl (.cons (.cell rfl Fx.agg26 (.tail _ (.head _)) (ck_length _)) (.cons (.cell rfl Fx.agg27 (.tail _ (.tail _ (.head _))) (ck_length _)) (.cons (.tmp rfl) .nil))) rfl (fun W s => ⟨rfl, s.ext⟩)
                    | refine Sx.retN (.inl rfl) rfl (.cons (.cell rfl Fx.agg26 (.tail _ (.tail _ (.head _))) (ck_length _)) (.cons (.cell rfl Fx.agg27 (.tail _ (.tail _ (.head _))) (ck_length _)) (.cons (.tmp rfl) .nil))) rfl (fun W s => ⟨rfl, s.ext⟩)
                    | refine Sx.retN (.inl rfl) rfl (.cons (.cell rfl Fx.agg26 (.tail _ (.tail _ (.tail _ (.head _)))) (ck_length _)) (.cons (.cell rfl Fx.agg27 (.tail _ (.tail _ (.head _))) (ck_length _)) (.cons (.tmp rfl) .nil))) rfl (fun W s => ⟨rfl, s.ext⟩)
          ·
            refine Sx.anyOp #[true, true, true, false, true, false, false] rfl rfl ?_
            first
              | refine Sx.storeW rfl rfl Fx.size26 (ckL_one _) (.head) rfl ?_
              | refine Sx.storeW rfl rfl Fx.size26 (ckL_one _) (.tail (.head)) rfl ?_
              | refine Sx.storeW rfl rfl Fx.size26 (ckL_one _) (.tail (.tail (.head))) rfl ?_
              | refine Sx.storeW rfl rfl Fx.size26 (ckL_one _) (.tail (.tail (.tail (.head)))) rfl ?_
            refine Sx.anyStep 3 [5] (by kernel_rfl) ⟨?_, ?_, trivial⟩
            ·
              refine Sx.anyOp #[true, true, true, true, true, false, false] rfl rfl ?_
              refine Sx.yl (.eql rfl rfl) rfl ?_
              refine Sx.anyStep 5 [] (by kernel_rfl) ⟨?_, trivial⟩
              ·
                refine Sx.anyOp #[true, true, true, true, true, true, false] rfl rfl ?_
                first
                  | refine Sx.storeW rfl rfl Fx.size27 (ckL_one _) (.head) rfl ?_
                  | refine Sx.storeW rfl rfl Fx.size27 (ckL_one _) (.tail (.head)) rfl ?_
                  | refine Sx.storeW rfl rfl Fx.size27 (ckL_one _) (.tail (.tail (.head))) rfl ?_
                  | refine Sx.storeW rfl rfl Fx.size27 (ckL_one _) (.tail (.tail (.tail (.head)))) rfl ?_
                refine Sx.anyStep 6 [] (by kernel_rfl) ⟨?_, trivial⟩
                ·
                  refine Sx.anyOp #[true, true, true, true, true, true, true] rfl rfl ?_
                  refine Sx.yl (.assign rfl) rfl ?_
                  refine Sx.anyEnd (by kernel_rfl) ?_
                  refine Sx.thenN ?_
                  refine Sx.ret ?_
                  first
                    | refine Sx.retN (.inl rfl) rfl (.cons (.cell rfl Fx.agg26 (.head _) (ck_length _)) (.cons (.cell rfl Fx.agg27 (.tail _ (.tail _ (.head _))) (ck_length _)) (.cons (.tmp rfl) .nil))) rfl (fun W s => ⟨rfl, s.ext⟩)
                    | refine Sx.retN (.inl rfl) rfl (.cons (.cell rfl Fx.agg26 (.tail _ (.head _)) (ck_length _)) (.cons (.cell rfl Fx.agg27 (.tail _ (.tail _ (.head _))) (ck_length _)) (.cons (.tmp rfl) .nil))) rfl (fun W s => ⟨rfl, s.ext⟩)
                    | refine Sx.retN (.inl rfl) rfl (.cons (.cell rfl Fx.agg26 (.tail _ (.tail _ (.head _))) (ck_length _)) (.cons (.cell rfl Fx.agg27 (.tail _ (.tail _ (.head _))) (ck_length _)) (.cons (.tmp rfl) .nil))) rfl (fun W s => ⟨rfl, s.ext⟩)
                    | refine Sx.retN (.inl rfl) rfl (.cons (.cell rfl Fx.agg26 (.tail _ (.tail _ (.tail _ (.head _)))) (ck_length _)) (.cons (.cell rfl Fx.agg27 (.tail _ (.tail _ (.head _))) (ck_length _)) (.cons (.tmp rfl) .nil))) rfl (fun W s => ⟨rfl, s.ext⟩)
            ·
              refine Sx.anyOp #[true, true, true, false, true, true, false] rfl rfl ?_
              first
                | refine Sx.storeW rfl rfl Fx.size27 (ckL_one _) (.head) rfl ?_
                | refine Sx.storeW rfl rfl Fx.size27 (ckL_one _) (.tail (.head)) rfl ?_
                | refine Sx.storeW rfl rfl Fx.size27 (ckL_one _) (.tail (.tail (.head))) rfl ?_
                | refine Sx.storeW rfl rfl Fx.size27 (ckL_one _) (.tail (.tail (.tail (.head)))) rfl ?_
              refine Sx.anyStep 3 [] (by kernel_rfl) ⟨?_, trivial⟩
              ·
                refine Sx.anyOp #[true, true, true, true, true, true, false] rfl rfl ?_
                refine Sx.yl (.eql rfl rfl) rfl ?_
                refine Sx.anyStep 6 [] (by kernel_rfl) ⟨?_, trivial⟩
                ·
                  refine Sx.anyOp #[true, true, true, true, true, true, true] rfl rfl ?_
                  refine Sx.yl (.assign rfl) rfl ?_
                  refine Sx.anyEnd (by kernel_rfl) ?_
                  refine Sx.thenN ?_
                  refine Sx.ret ?_
                  first
                    | refine Sx.retN (.inl rfl) rfl (.cons (.cell rfl Fx.agg26 (.head _) (ck_length _)) (.cons (.cell rfl Fx.agg27 (.tail _ (.tail _ (.head _))) (ck_length _)) (.cons (.tmp rfl) .nil))) rfl (fun W s => ⟨rfl, s.ext⟩)
                    | refine Sx.retN (.inl rfl) rfl (.cons (.cell rfl Fx.agg26 (.tail _ (.head _)) (ck_length _)) (.cons (.cell rfl Fx.agg27 (.tail _ (.tail _ (.head _))) (ck_length _)) (.cons (.tmp rfl) .nil))) rfl (fun W s => ⟨rfl, s.ext⟩)
                    | refine Sx.retN (.inl rfl) rfl (.cons (.cell rfl Fx.agg26 (.tail _ (.tail _ (.head _))) (ck_length _)) (.cons (.cell rfl Fx.agg27 (.tail _ (.tail _ (.head _))) (ck_length _)) (.cons (.tmp rfl) .nil))) rfl (fun W s => ⟨rfl, s.ext⟩)
                    | refine Sx.retN (.inl rfl) rfl (.cons (.cell rfl Fx.agg26 (.tail _ (.tail _ (.tail _ (.head _)))) (ck_length _)) (.cons (.cell rfl Fx.agg27 (.tail _ (.tail _ (.head _))) (ck_length _)) (.cons (.tmp rfl) .nil))) rfl (fun W s => ⟨rfl, s.ext⟩)
        ·
          refine Sx.anyOp #[true, false, true, true, false, false, false] rfl rfl ?_
          refine Sx.yl (.eql rfl rfl) rfl ?_
          refine Sx.anyStep 1 [4] (by kernel_rfl) ⟨?_, ?_, trivial⟩
          ·
            refine Sx.anyOp #[true, true, true, true, false, false, false] rfl rfl ?_
            first
              | refine Sx.yl (.loadW rfl Fx.agg27 (.head _) (ck_length _)) rfl ?_
              | refine Sx.yl (.loadW rfl Fx.agg27 (.tail _ (.head _)) (ck_length _)) rfl ?_
              | refine Sx.yl (.loadW rfl Fx.agg27 (.tail _ (.tail _ (.head _))) (ck_length _)) rfl ?_
              | refine Sx.yl (.loadW rfl Fx.agg27 (.tail _ (.tail _ (.tail _ (.head _)))) (ck_length _)) rfl ?_
            refine Sx.anyStep 4 [] (by kernel_rfl) ⟨?_, trivial⟩
            ·
              refine Sx.anyOp #[true, true, true, true, true, false, false] rfl rfl ?_
              first
                | refine Sx.storeW rfl rfl Fx.size26 (ckL_one _) (.head) rfl ?_
                | refine Sx.storeW rfl rfl Fx.size26 (ckL_one _) (.tail (.head)) rfl ?_
                | refine Sx.storeW rfl rfl Fx.size26 (ckL_one _) (.tail (.tail (.head))) rfl ?_
                | refine Sx.storeW rfl rfl Fx.size26 (ckL_one _) (.tail (.tail (.tail (.head)))) rfl ?_
              refine Sx.anyStep 5 [] (by kernel_rfl) ⟨?_, trivial⟩
              ·
                refine Sx.anyOp #[true, true, true, true, true, true, false] rfl rfl ?_
                first
                  | refine Sx.storeW rfl rfl Fx.size27 (ckL_one _) (.head) rfl ?_
                  | refine Sx.storeW rfl rfl Fx.size27 (ckL_one _) (.tail (.head)) rfl ?_
                  | refine Sx.storeW rfl rfl Fx.size27 (ckL_one _) (.tail (.tail (.head))) rfl ?_
                  | refine Sx.storeW rfl rfl Fx.size27 (ckL_one _) (.tail (.tail (.tail (.head)))) rfl ?_
                refine Sx.anyStep 6 [] (by kernel_rfl) ⟨?_, trivial⟩
                ·
                  refine Sx.anyOp #[true, true, true, true, true, true, true] rfl rfl ?_
                  refine Sx.yl (.assign rfl) rfl ?_
                  refine Sx.anyEnd (by kernel_rfl) ?_
                  refine Sx.thenN ?_
                  refine Sx.ret ?_
                  first
                    | refine Sx.retN (.inl rfl) rfl (.cons (.cell rfl Fx.agg26 (.head _) (ck_length _)) (.cons (.cell rfl Fx.agg27 (.tail _ (.tail _ (.head _))) (ck_length _)) (.cons (.tmp rfl) .nil))) rfl (fun W s => ⟨rfl, s.ext⟩)
                    | refine Sx.retN (.inl rfl) rfl (.cons (.cell rfl Fx.agg26 (.tail _ (.head _)) (ck_length _)) (.cons (.cell rfl Fx.agg27 (.tail _ (.tail _ (.head _))) (ck_length _)) (.cons (.tmp rfl) .nil))) rfl (fun W s => ⟨rfl, s.ext⟩)
                    | refine Sx.retN (.inl rfl) rfl (.cons (.cell rfl Fx.agg26 (.tail _ (.tail _ (.head _))) (ck_length _)) (.cons (.cell rfl Fx.agg27 (.tail _ (.tail _ (.head _))) (ck_length _)) (.cons (.tmp rfl) .nil))) rfl (fun W s => ⟨rfl, s.ext⟩)
                    | refine Sx.retN (.inl rfl) rfl (.cons (.cell rfl Fx.agg26 (.tail _ (.tail _ (.tail _ (.head _)))) (ck_length _)) (.cons (.cell rfl Fx.agg27 (.tail _ (.tail _ (.head _))) (ck_length _)) (.cons (.tmp rfl) .nil))) rfl (fun W s => ⟨rfl, s.ext⟩)
          ·
            refine Sx.anyOp #[true, false, true, true, true, false, false] rfl rfl ?_
            first
              | refine Sx.storeW rfl rfl Fx.size26 (ckL_one _) (.head) rfl ?_
              | refine Sx.storeW rfl rfl Fx.size26 (ckL_one _) (.tail (.head)) rfl ?_
              | refine Sx.storeW rfl rfl Fx.size26 (ckL_one _) (.tail (.tail (.head))) rfl ?_
              | refine Sx.storeW rfl rfl Fx.size26 (ckL_one _) (.tail (.tail (.tail (.head)))) rfl ?_
            refine Sx.anyStep 1 [] (by kernel_rfl) ⟨?_, trivial⟩
            ·
              refine Sx.anyOp #[true, true, true, true, true, false, false] rfl rfl ?_
              first
                | refine Sx.yl (.loadW rfl Fx.agg27 (.head _) (ck_length _)) rfl ?_
                | refine Sx.yl (.loadW rfl Fx.agg27 (.tail _ (.head _)) (ck_length _)) rfl ?_
                | refine Sx.yl (.loadW rfl Fx.agg27 (.tail _ (.tail _ (.head _))) (ck_length _)) rfl ?_
                | refine Sx.yl (.loadW rfl Fx.agg27 (.tail _ (.tail _ (.tail _ (.head _)))) (ck_length _)) rfl ?_
              refine Sx.anyStep 5 [] (by kernel_rfl) ⟨?_, trivial⟩
              ·
                refine Sx.anyOp #[true, true, true, true, true, true, false] rfl rfl ?_
                first
                  | refine Sx.storeW rfl rfl Fx.size27 (ckL_one _) (.head) rfl ?_
                  | refine Sx.storeW rfl rfl Fx.size27 (ckL_one _) (.tail (.head)) rfl ?_
                  | refine Sx.storeW rfl rfl Fx.size27 (ckL_one _) (.tail (.tail (.head))) rfl ?_
                  | refine Sx.storeW rfl rfl Fx.size27 (ckL_one _) (.tail (.tail (.tail (.head)))) rfl ?_
                refine Sx.anyStep 6 [] (by kernel_rfl) ⟨?_, trivial⟩
                ·
                  refine Sx.anyOp #[true, true, true, true, true, true, true] rfl rfl ?_
                  refine Sx.yl (.assign rfl) rfl ?_
                  refine Sx.anyEnd (by kernel_rfl) ?_
                  refine Sx.thenN ?_
                  refine Sx.ret ?_
                  first
                    | refine Sx.retN (.inl rfl) rfl (.cons (.cell rfl Fx.agg26 (.head _) (ck_length _)) (.cons (.cell rfl Fx.agg27 (.tail _ (.tail _ (.head _))) (ck_length _)) (.cons (.tmp rfl) .nil))) rfl (fun W s => ⟨rfl, s.ext⟩)
                    | refine Sx.retN (.inl rfl) rfl (.cons (.cell rfl Fx.agg26 (.tail _ (.head _)) (ck_length _)) (.cons (.cell rfl Fx.agg27 (.tail _ (.tail _ (.head _))) (ck_length _)) (.cons (.tmp rfl) .nil))) rfl (fun W s => ⟨rfl, s.ext⟩)
                    | refine Sx.retN (.inl rfl) rfl (.cons (.cell rfl Fx.agg26 (.tail _ (.tail _ (.head _))) (ck_length _)) (.cons (.cell rfl Fx.agg27 (.tail _ (.tail _ (.head _))) (ck_length _)) (.cons (.tmp rfl) .nil))) rfl (fun W s => ⟨rfl, s.ext⟩)
                    | refine Sx.retN (.inl rfl) rfl (.cons (.cell rfl Fx.agg26 (.tail _ (.tail _ (.tail _ (.head _)))) (ck_length _)) (.cons (.cell rfl Fx.agg27 (.tail _ (.tail _ (.head _))) (ck_length _)) (.cons (.tmp rfl) .nil))) rfl (fun W s => ⟨rfl, s.ext⟩)
        ·
          refine Sx.anyOp #[true, false, true, false, true, false, false] rfl rfl ?_
          first
            | refine Sx.storeW rfl rfl Fx.size26 (ckL_one _) (.head) rfl ?_
            | refine Sx.storeW rfl rfl Fx.size26 (ckL_one _) (.tail (.head)) rfl ?_
            | refine Sx.storeW rfl rfl Fx.size26 (ckL_one _) (.tail (.tail (.head))) rfl ?_
            | refine Sx.storeW rfl rfl Fx.size26 (ckL_one _) (.tail (.tail (.tail (.head)))) rfl ?_
          refine Sx.anyStep 1 [3] (by kernel_rfl) ⟨?_, ?_, trivial⟩
          ·
            refine Sx.anyOp #[true, true, true, false, true, false, false] rfl rfl ?_
            first
              | refine Sx.yl (.loadW rfl Fx.agg27 (.head _) (ck_length _)) rfl ?_
              | refine Sx.yl (.loadW rfl Fx.agg27 (.tail _ (.head _)) (ck_length _)) rfl ?_
              | refine Sx.yl (.loadW rfl Fx.agg27 (.tail _ (.tail _ (.head _))) (ck_length _)) rfl ?_
              | refine Sx.yl (.loadW rfl Fx.agg27 (.tail _ (.tail _ (.tail _ (.head _)))) (ck_length _)) rfl ?_
            refine Sx.anyStep 3 [5] (by kernel_rfl) ⟨?_, ?_, trivial⟩
            ·
              refine Sx.anyOp #[true, true, true, true, true, false, false] rfl rfl ?_
              refine Sx.yl (.eql rfl rfl) rfl ?_
              refine Sx.anyStep 5 [] (by kernel_rfl) ⟨?_, trivial⟩
              ·
                refine Sx.anyOp #[true, true, true, true, true, true, false] rfl rfl ?_
                first
                  | refine Sx.storeW rfl rfl Fx.size27 (ckL_one _) (.head) rfl ?_
                  | refine Sx.storeW rfl rfl Fx.size27 (ckL_one _) (.tail (.head)) rfl ?_
                  | refine Sx.storeW rfl rfl Fx.size27 (ckL_one _) (.tail (.tail (.head))) rfl ?_
                  | refine Sx.storeW rfl rfl Fx.size27 (ckL_one _) (.tail (.tail (.tail (.head)))) rfl ?_
                refine Sx.anyStep 6 [] (by kernel_rfl) ⟨?_, trivial⟩
                ·
                  refine Sx.anyOp #[true, true, true, true, true, true, true] rfl rfl ?_
                  refine Sx.yl (.assign rfl) rfl ?_
                  refine Sx.anyEnd (by kernel_rfl) ?_
                  refine Sx.thenN ?_
                  refine Sx.ret ?_
                  first
                    | refine Sx.retN (.inl rfl) rfl (.cons (.cell rfl Fx.agg26 (.head _) (ck_length _)) (.cons (.cell rfl Fx.agg27 (.tail _ (.tail _ (.head _))) (ck_length _)) (.cons (.tmp rfl) .nil))) rfl (fun W s => ⟨rfl, s.ext⟩)
                    | refine Sx.retN (.inl rfl) rfl (.cons (.cell rfl Fx.agg26 (.tail _ (.head _)) (ck_length _)) (.cons (.cell rfl Fx.agg27 (.tail _ (.tail _ (.head _))) (ck_length _)) (.cons (.tmp rfl) .nil))) rfl (fun W s => ⟨rfl, s.ext⟩)
                    | refine Sx.retN (.inl rfl) rfl (.cons (.cell rfl Fx.agg26 (.tail _ (.tail _ (.head _))) (ck_length _)) (.cons (.cell rfl Fx.agg27 (.tail _ (.tail _ (.head _))) (ck_length _)) (.cons (.tmp rfl) .nil))) rfl (fun W s => ⟨rfl, s.ext⟩)
                    | refine Sx.retN (.inl rfl) rfl (.cons (.cell rfl Fx.agg26 (.tail _ (.tail _ (.tail _ (.head _)))) (ck_length _)) (.cons (.cell rfl Fx.agg27 (.tail _ (.tail _ (.head _))) (ck_length _)) (.cons (.tmp rfl) .nil))) rfl (fun W s => ⟨rfl, s.ext⟩)
            ·
              refine Sx.anyOp #[true, true, true, false, true, true, false] rfl rfl ?_
              first
                | refine Sx.storeW rfl rfl Fx.size27 (ckL_one _) (.head) rfl ?_
                | refine Sx.storeW rfl rfl Fx.size27 (ckL_one _) (.tail (.head)) rfl ?_
                | refine Sx.storeW rfl rfl Fx.size27 (ckL_one _) (.tail (.tail (.head))) rfl ?_
                | refine Sx.storeW rfl rfl Fx.size27 (ckL_one _) (.tail (.tail (.tail (.head)))) rfl ?_
              refine Sx.anyStep 3 [] (by kernel_rfl) ⟨?_, trivial⟩
              ·
                refine Sx.anyOp #[true, true, true, true, true, true, false] rfl rfl ?_
                refine Sx.yl (.eql rfl rfl) rfl ?_
                refine Sx.anyStep 6 [] (by kernel_rfl) ⟨?_, trivial⟩
                ·
                  refine Sx.anyOp #[true, true, true, true, true, true, true] rfl rfl ?_
                  refine Sx.yl (.assign rfl) rfl ?_
                  refine Sx.anyEnd (by kernel_rfl) ?_
                  refine Sx.thenN ?_
                  refine Sx.ret ?_
                  first
                    | refine Sx.retN (.inl rfl) rfl (.cons (.cell rfl Fx.agg26 (.head _) (ck_length _)) (.cons (.cell rfl Fx.agg27 (.tail _ (.tail _ (.head _))) (ck_length _)) (.cons (.tmp rfl) .nil))) rfl (fun W s => ⟨rfl, s.ext⟩)
                    | refine Sx.retN (.inl rfl) rfl (.cons (.cell rfl Fx.agg26 (.tail _ (.head _)) (ck_length _)) (.cons (.cell rfl Fx.agg27 (.tail _ (.tail _ (.head _))) (ck_length _)) (.cons (.tmp rfl) .nil))) rfl (fun W s => ⟨rfl, s.ext⟩)
                    | refine Sx.retN (.inl rfl) rfl (.cons (.cell rfl Fx.agg26 (.tail _ (.tail _ (.head _))) (ck_length _)) (.cons (.cell rfl Fx.agg27 (.tail _ (.tail _ (.head _))) (ck_length _)) (.cons (.tmp rfl) .nil))) rfl (fun W s => ⟨rfl, s.ext⟩)
                    | refine Sx.retN (.inl rfl) rfl (.cons (.cell rfl Fx.agg26 (.tail _ (.tail _ (.tail _ (.head _)))) (ck_length _)) (.cons (.cell rfl Fx.agg27 (.tail _ (.tail _ (.head _))) (ck_length _)) (.cons (.tmp rfl) .nil))) rfl (fun W s => ⟨rfl, s.ext⟩)
          ·
            refine Sx.anyOp #[true, false, true, true, true, false, false] rfl rfl ?_
            refine Sx.yl (.eql rfl rfl) rfl ?_
            refine Sx.anyStep 1 [] (by kernel_rfl) ⟨?_, trivial⟩
            ·
              refine Sx.anyOp #[true, true, true, true, true, false, false] rfl rfl ?_
              first
                | refine Sx.yl (.loadW rfl Fx.agg27 (.head _) (ck_length _)) rfl ?_
                | refine Sx.yl (.loadW rfl Fx.agg27 (.tail _ (.head _)) (ck_length _)) rfl ?_
                | refine Sx.yl (.loadW rfl Fx.agg27 (.tail _ (.tail _ (.head _))) (ck_length _)) rfl ?_
                | refine Sx.yl (.loadW rfl Fx.agg27 (.tail _ (.tail _ (.tail _ (.head _)))) (ck_length _)) rfl ?_
              refine Sx.anyStep 5 [] (by kernel_rfl) ⟨?_, trivial⟩
              ·
                refine Sx.anyOp #[true, true, true, true, true, true, false] rfl rfl ?_
                first
                  | refine Sx.storeW rfl rfl Fx.size27 (ckL_one _) (.head) rfl ?_
                  | refine Sx.storeW rfl rfl Fx.size27 (ckL_one _) (.tail (.head)) rfl ?_
                  | refine Sx.storeW rfl rfl Fx.size27 (ckL_one _) (.tail (.tail (.head))) rfl ?_
                  | refine Sx.storeW rfl rfl Fx.size27 (ckL_one _) (.tail (.tail (.tail (.head)))) rfl ?_
                refine Sx.anyStep 6 [] (by kernel_rfl) ⟨?_, trivial⟩
                ·
                  refine Sx.anyOp #[true, true, true, true, true, true, true] rfl rfl ?_
                  refine Sx.yl (.assign rfl) rfl ?_
                  refine Sx.anyEnd (by kernel_rfl) ?_
                  refine Sx.thenN ?_
                  refine Sx.ret ?_
                  first
                    | refine Sx.retN (.inl rfl) rfl (.cons (.cell rfl Fx.agg26 (.head _) (ck_length _)) (.cons (.cell rfl Fx.agg27 (.tail _ (.tail _ (.head _))) (ck_length _)) (.cons (.tmp rfl) .nil))) rfl (fun W s => ⟨rfl, s.ext⟩)
                    | refine Sx.retN (.inl rfl) rfl (.cons (.cell rfl Fx.agg26 (.tail _ (.head _)) (ck_length _)) (.cons (.cell rfl Fx.agg27 (.tail _ (.tail _ (.head _))) (ck_length _)) (.cons (.tmp rfl) .nil))) rfl (fun W s => ⟨rfl, s.ext⟩)
                    | refine Sx.retN (.inl rfl) rfl (.cons (.cell rfl Fx.agg26 (.tail _ (.tail _ (.head _))) (ck_length _)) (.cons (.cell rfl Fx.agg27 (.tail _ (.tail _ (.head _))) (ck_length _)) (.cons (.tmp rfl) .nil))) rfl (fun W s => ⟨rfl, s.ext⟩)
                    | refine Sx.retN (.inl rfl) rfl (.cons (.cell rfl Fx.agg26 (.tail _ (.tail _ (.tail _ (.head _)))) (ck_length _)) (.cons (.cell rfl Fx.agg27 (.tail _ (.tail _ (.head _))) (ck_length _)) (.cons (.tmp rfl) .nil))) rfl (fun W s => ⟨rfl, s.ext⟩)
      ·
        refine Sx.anyOp #[true, false, false, false, true, false, false] rfl rfl ?_
        first
          | refine Sx.storeW rfl rfl Fx.size26 (ckL_one _) (.head) rfl ?_
          | refine Sx.storeW rfl rfl Fx.size26 (ckL_one _) (.tail (.head)) rfl ?_
          | refine Sx.storeW rfl rfl Fx.size26 (ckL_one _) (.tail (.tail (.head))) rfl ?_
          | refine Sx.storeW rfl rfl Fx.size26 (ckL_one _) (.tail (.tail (.tail (.head)))) rfl ?_
        refine Sx.anyStep 1 [2] (by kernel_rfl) ⟨?_, ?_, trivial⟩
        ·
          refine Sx.anyOp #[true, true, false, false, true, false, false] rfl rfl ?_
          first
            | refine Sx.yl (.loadW rfl Fx.agg27 (.head _) (ck_length _)) rfl ?_
            | refine Sx.yl (.loadW rfl Fx.agg27 (.tail _ (.head _)) (ck_length _)) rfl ?_
            | refine Sx.yl (.loadW rfl Fx.agg27 (.tail _ (.tail _ (.head _))) (ck_length _)) rfl ?_
            | refine Sx.yl (.loadW rfl Fx.agg27 (.tail _ (.tail _ (.tail _ (.head _)))) (ck_length _)) rfl ?_
          refine Sx.anyStep 2 [5] (by kernel_rfl) ⟨?_, ?_, trivial⟩
          ·
            refine Sx.anyOp #[true, true, true, false, true, false, false] rfl rfl ?_
            refine Sx.yl (.move rfl) rfl ?_
            refine Sx.anyStep 3 [5] (by kernel_rfl) ⟨?_, ?_, trivial⟩
            ·
              refine Sx.anyOp #[true, true, true, true, true, false, false] rfl rfl ?_
              refine Sx.yl (.eql rfl rfl) rfl ?_
              refine Sx.anyStep 5 [] (by kernel_rfl) ⟨?_, trivial⟩
              ·
                refine Sx.anyOp #[true, true, true, true, true, true, false] rfl rfl ?_
                first
                  | refine Sx.storeW rfl rfl Fx.size27 (ckL_one _) (.head) rfl ?_
                  | refine Sx.storeW rfl rfl Fx.size27 (ckL_one _) (.tail (.head)) rfl ?_
                  | refine Sx.storeW rfl rfl Fx.size27 (ckL_one _) (.tail (.tail (.head))) rfl ?_
                  | refine Sx.storeW rfl rfl Fx.size27 (ckL_one _) (.tail (.tail (.tail (.head)))) rfl ?_
                refine Sx.anyStep 6 [] (by kernel_rfl) ⟨?_, trivial⟩
                ·
                  refine Sx.anyOp #[true, true, true, true, true, true, true] rfl rfl ?_
                  refine Sx.yl (.assign rfl) rfl ?_
                  refine Sx.anyEnd (by kernel_rfl) ?_
                  refine Sx.thenN ?_
                  refine Sx.ret ?_
                  first
                    | refine Sx.retN (.inl rfl) rfl (.cons (.cell rfl Fx.agg26 (.head _) (ck_length _)) (.cons (.cell rfl Fx.agg27 (.tail _ (.tail _ (.head _))) (ck_length _)) (.cons (.tmp rfl) .nil))) rfl (fun W s => ⟨rfl, s.ext⟩)
                    | refine Sx.retN (.inl rfl) rfl (.cons (.cell rfl Fx.agg26 (.tail _ (.head _)) (ck_length _)) (.cons (.cell rfl Fx.agg27 (.tail _ (.tail _ (.head _))) (ck_length _)) (.cons (.tmp rfl) .nil))) rfl (fun W s => ⟨rfl, s.ext⟩)
                    | refine Sx.retN (.inl rfl) rfl (.cons (.cell rfl Fx.agg26 (.tail _ (.tail _ (.head _))) (ck_length _)) (.cons (.cell rfl Fx.agg27 (.tail _ (.tail _ (.head _))) (ck_length _)) (.cons (.tmp rfl) .nil))) rfl (fun W s => ⟨rfl, s.ext⟩)
                    | refine Sx.retN (.inl rfl) rfl (.cons (.cell rfl Fx.agg26 (.tail _ (.tail _ (.tail _ (.head _)))) (ck_length _)) (.cons (.cell rfl Fx.agg27 (.tail _ (.tail _ (.head _))) (ck_length _)) (.cons (.tmp rfl) .nil))) rfl (fun W s => ⟨rfl, s.ext⟩)
            ·
              refine Sx.anyOp #[true, true, true, false, true, true, false] rfl rfl ?_
              first
                | refine Sx.storeW rfl rfl Fx.size27 (ckL_one _) (.head) rfl ?_
                | refine Sx.storeW rfl rfl Fx.size27 (ckL_one _) (.tail (.head)) rfl ?_
                | refine Sx.storeW rfl rfl Fx.size27 (ckL_one _) (.tail (.tail (.head))) rfl ?_
                | refine Sx.storeW rfl rfl Fx.size27 (ckL_one _) (.tail (.tail (.tail (.head)))) rfl ?_
              refine Sx.anyStep 3 [] (by kernel_rfl) ⟨?_, trivial⟩
              ·
                refine Sx.anyOp #[true, true, true, true, true, true, false] rfl rfl ?_
                refine Sx.yl (.eql rfl rfl) rfl ?_
                refine Sx.anyStep 6 [] (by kernel_rfl) ⟨?_, trivial⟩
                ·
                  refine Sx.anyOp #[true, true, true, true, true, true, true] rfl rfl ?_
                  refine Sx.yl (.assign rfl) rfl ?_
                  refine Sx.anyEnd (by kernel_rfl) ?_
                  refine Sx.thenN ?_
                  refine Sx.ret ?_
                  first
                    | refine Sx.retN (.inl rfl) rfl (.cons (.cell rfl Fx.agg26 (.head _) (ck_length _)) (.cons (.cell rfl Fx.agg27 (.tail _ (.tail _ (.head _))) (ck_length _)) (.cons (.tmp rfl) .nil))) rfl (fun W s => ⟨rfl, s.ext⟩)
                    | refine Sx.retN (.inl rfl) rfl (.cons (.cell rfl Fx.agg26 (.tail _ (.head _)) (ck_length _)) (.cons (.cell rfl Fx.agg27 (.tail _ (.tail _ (.head _))) (ck_length _)) (.cons (.tmp rfl) .nil))) rfl (fun W s => ⟨rfl, s.ext⟩)
                    | refine Sx.retN (.inl rfl) rfl (.cons (.cell rfl Fx.agg26 (.tail _ (.tail _ (.head _))) (ck_length _)) (.cons (.cell rfl Fx.agg27 (.tail _ (.tail _ (.head _))) (ck_length _)) (.cons (.tmp rfl) .nil))) rfl (fun W s => ⟨rfl, s.ext⟩)
                    | refine Sx.retN (.inl rfl) rfl (.cons (.cell rfl Fx.agg26 (.tail _ (.tail _ (.tail _ (.head _)))) (ck_length _)) (.cons (.cell rfl Fx.agg27 (.tail _ (.tail _ (.head _))) (ck_length _)) (.cons (.tmp rfl) .nil))) rfl (fun W s => ⟨rfl, s.ext⟩)
          ·
            refine Sx.anyOp #[true, true, false, false, true, true, false] rfl rfl ?_
            first
              | refine Sx.storeW rfl rfl Fx.size27 (ckL_one _) (.head) rfl ?_
              | refine Sx.storeW rfl rfl Fx.size27 (ckL_one _) (.tail (.head)) rfl ?_
              | refine Sx.storeW rfl rfl Fx.size27 (ckL_one _) (.tail (.tail (.head))) rfl ?_
              | refine Sx.storeW rfl rfl Fx.size27 (ckL_one _) (.tail (.tail (.tail (.head)))) rfl ?_
            refine Sx.anyStep 2 [] (by kernel_rfl) ⟨?_, trivial⟩
            ·
              refine Sx.anyOp #[true, true, true, false, true, true, false] rfl rfl ?_
              refine Sx.yl (.move rfl) rfl ?_
              refine Sx.anyStep 3 [] (by kernel_rfl) ⟨?_, trivial⟩
              ·
                refine Sx.anyOp #[true, true, true, true, true, true, false] rfl rfl ?_
                refine Sx.yl (.eql rfl rfl) rfl ?_
                refine Sx.anyStep 6 [] (by kernel_rfl) ⟨?_, trivial⟩
                ·
                  refine Sx.anyOp #[true, true, true, true, true, true, true] rfl rfl ?_
                  refine Sx.yl (.assign rfl) rfl ?_
                  refine Sx.anyEnd (by kernel_rfl) ?_
                  refine Sx.thenN ?_
                  refine Sx.ret ?_
                  first
                    | refine Sx.retN (.inl rfl) rfl (.cons (.cell rfl Fx.agg26 (.head _) (ck_length _)) (.cons (.cell rfl Fx.agg27 (.tail _ (.tail _ (.head _))) (ck_length _)) (.cons (.tmp rfl) .nil))) rfl (fun W s => ⟨rfl, s.ext⟩)
                    | refine Sx.retN (.inl rfl) rfl (.cons (.cell rfl Fx.agg26 (.tail _ (.head _)) (ck_length _)) (.cons (.cell rfl Fx.agg27 (.tail _ (.tail _ (.head _))) (ck_length _)) (.cons (.tmp rfl) .nil))) rfl (fun W s => ⟨rfl, s.ext⟩)
                    | refine Sx.retN (.inl rfl) rfl (.cons (.cell rfl Fx.agg26 (.tail _ (.tail _ (.head _))) (ck_length _)) (.cons (.cell rfl Fx.agg27 (.tail _ (.tail _ (.head _))) (ck_length _)) (.cons (.tmp rfl) .nil))) rfl (fun W s => ⟨rfl, s.ext⟩)
                    | refine Sx.retN (.inl rfl) rfl (.cons (.cell rfl Fx.agg26 (.tail _ (.tail _ (.tail _ (.head _)))) (ck_length _)) (.cons (.cell rfl Fx.agg27 (.tail _ (.tail _ (.head _))) (ck_length _)) (.cons (.tmp rfl) .nil))) rfl (fun W s => ⟨rfl, s.ext⟩)
        ·
          refine Sx.anyOp #[true, false, true, false, true, false, false] rfl rfl ?_
          refine Sx.yl (.move rfl) rfl ?_
          refine Sx.anyStep 1 [3] (by kernel_rfl) ⟨?_, ?_, trivial⟩
          ·
            refine Sx.anyOp #[true, true, true, false, true, false, false] rfl rfl ?_
            first
              | refine Sx.yl (.loadW rfl Fx.agg27 (.head _) (ck_length _)) rfl ?_
              | refine Sx.yl (.loadW rfl Fx.agg27 (.tail _ (.head _)) (ck_length _)) rfl ?_
              | refine Sx.yl (.loadW rfl Fx.agg27 (.tail _ (.tail _ (.head _))) (ck_length _)) rfl ?_
              | refine Sx.yl (.loadW rfl Fx.agg27 (.tail _ (.tail _ (.tail _ (.head _)))) (ck_length _)) rfl ?_
            refine Sx.anyStep 3 [5] (by kernel_rfl) ⟨?_, ?_, trivial⟩
            ·
              refine Sx.anyOp #[true, true, true, true, true, false, false] rfl rfl ?_
              refine Sx.yl (.eql rfl rfl) rfl ?_
              refine Sx.anyStep 5 [] (by kernel_rfl) ⟨?_, trivial⟩
              ·
                refine Sx.anyOp #[true, true, true, true, true, true, false] rfl rfl ?_
                first
                  | refine Sx.storeW rfl rfl Fx.size27 (ckL_one _) (.head) rfl ?_
                  | refine Sx.storeW rfl rfl Fx.size27 (ckL_one _) (.tail (.head)) rfl ?_
                  | refine Sx.storeW rfl rfl Fx.size27 (ckL_one _) (.tail (.tail (.head))) rfl ?_
                  | refine Sx.storeW rfl rfl Fx.size27 (ckL_one _) (.tail (.tail (.tail (.head)))) rfl ?_
                refine Sx.anyStep 6 [] (by kernel_rfl) ⟨?_, trivial⟩
                ·
                  refine Sx.anyOp #[true, true, true, true, true, true, true] rfl rfl ?_
                  refine Sx.yl (.assign rfl) rfl ?_
                  refine Sx.anyEnd (by kernel_rfl) ?_
                  refine Sx.thenN ?_
                  refine Sx.ret ?_
                  first
                    | refine Sx.retN (.inl rfl) rfl (.cons (.cell rfl Fx.agg26 (.head _) (ck_length _)) (.cons (.cell rfl Fx.agg27 (.tail _ (.tail _ (.head _))) (ck_length _)) (.cons (.tmp rfl) .nil))) rfl (fun W s => ⟨rfl, s.ext⟩)
                    | refine Sx.retN (.inl rfl) rfl (.cons (.cell rfl Fx.agg26 (.tail _ (.head _)) (ck_length _)) (.cons (.cell rfl Fx.agg27 (.tail _ (.tail _ (.head _))) (ck_length _)) (.cons (.tmp rfl) .nil))) rfl (fun W s => ⟨rfl, s.ext⟩)
                    | refine Sx.retN (.inl rfl) rfl (.cons (.cell rfl Fx.agg26 (.tail _ (.tail _ (.head _))) (ck_length _)) (.cons (.cell rfl Fx.agg27 (.tail _ (.tail _ (.head _))) (ck_length _)) (.cons (.tmp rfl) .nil))) rfl (fun W s => ⟨rfl, s.ext⟩)
                    | refine Sx.retN (.inl rfl) rfl (.cons (.cell rfl Fx.agg26 (.tail _ (.tail _ (.tail _ (.head _)))) (ck_length _)) (.cons (.cell rfl Fx.agg27 (.tail _ (.tail _ (.head _))) (ck_length _)) (.cons (.tmp rfl) .nil))) rfl (fun W s => ⟨rfl, s.ext⟩)
            ·
              refine Sx.anyOp #[true, true, true, false, true, true, false] rfl rfl ?_
              first
                | refine Sx.storeW rfl rfl Fx.size27 (ckL_one _) (.head) rfl ?_
                | refine Sx.storeW rfl rfl Fx.size27 (ckL_one _) (.tail (.head)) rfl ?_
                | refine Sx.storeW rfl rfl Fx.size27 (ckL_one _) (.tail (.tail (.head))) rfl ?_
                | refine Sx.storeW rfl rfl Fx.size27 (ckL_one _) (.tail (.tail (.tail (.head)))) rfl ?_
              refine Sx.anyStep 3 [] (by kernel_rfl) ⟨?_, trivial⟩
              ·
                refine Sx.anyOp #[true, true, true, true, true, true, false] rfl rfl ?_
                refine Sx.yl (.eql rfl rfl) rfl ?_
                refine Sx.anyStep 6 [] (by kernel_rfl) ⟨?_, trivial⟩
                ·
                  refine Sx.anyOp #[true, true, true, true, true, true, true] rfl rfl ?_
                  refine Sx.yl (.assign rfl) rfl ?_
                  refine Sx.anyEnd (by kernel_rfl) ?_
                  refine Sx.thenN ?_
                  refine Sx.ret ?_
                  first
                    | refine Sx.retN (.inl rfl) rfl (.cons (.cell rfl Fx.agg26 (.head _) (ck_length _)) (.cons (.cell rfl Fx.agg27 (.tail _ (.tail _ (.head _))) (ck_length _)) (.cons (.tmp rfl) .nil))) rfl (fun W s => ⟨rfl, s.ext⟩)
                    | refine Sx.retN (.inl rfl) rfl (.cons (.cell rfl Fx.agg26 (.tail _ (.head _)) (ck_length _)) (.cons (.cell rfl Fx.agg27 (.tail _ (.tail _ (.head _))) (ck_length _)) (.cons (.tmp rfl) .nil))) rfl (fun W s => ⟨rfl, s.ext⟩)
                    | refine Sx.retN (.inl rfl) rfl (.cons (.cell rfl Fx.agg26 (.tail _ (.tail _ (.head _))) (ck_length _)) (.cons (.cell rfl Fx.agg27 (.tail _ (.tail _ (.head _))) (ck_length _)) (.cons (.tmp rfl) .nil))) rfl (fun W s => ⟨rfl, s.ext⟩)
                    | refine Sx.retN (.inl rfl) rfl (.cons (.cell rfl Fx.agg26 (.tail _ (.tail _ (.tail _ (.head _)))) (ck_length _)) (.cons (.cell rfl Fx.agg27 (.tail _ (.tail _ (.head _))) (ck_length _)) (.cons (.tmp rfl) .nil))) rfl (fun W s => ⟨rfl, s.ext⟩)
          ·
            refine Sx.anyOp #[true, false, true, true, true, false, false] rfl rfl ?_
            refine Sx.yl (.eql rfl rfl) rfl ?_
            refine Sx.anyStep 1 [] (by kernel_rfl) ⟨?_, trivial⟩
            ·
              refine Sx.anyOp #[true, true, true, true, true, false, false] rfl rfl ?_
              first
                | refine Sx.yl (.loadW rfl Fx.agg27 (.head _) (ck_length _)) rfl ?_
                | refine Sx.yl (.loadW rfl Fx.agg27 (.tail _ (.head _)) (ck_length _)) rfl ?_
                | refine Sx.yl (.loadW rfl Fx.agg27 (.tail _ (.tail _ (.head _))) (ck_length _)) rfl ?_
                | refine Sx.yl (.loadW rfl Fx.agg27 (.tail _ (.tail _ (.tail _ (.head _)))) (ck_length _)) rfl ?_
              refine Sx.anyStep 5 [] (by kernel_rfl) ⟨?_, trivial⟩
              ·
                refine Sx.anyOp #[true, true, true, true, true, true, false] rfl rfl ?_
                first
                  | refine Sx.storeW rfl rfl Fx.size27 (ckL_one _) (.head) rfl ?_
                  | refine Sx.storeW rfl rfl Fx.size27 (ckL_one _) (.tail (.head)) rfl ?_
                  | refine Sx.storeW rfl rfl Fx.size27 (ckL_one _) (.tail (.tail (.head))) rfl ?_
                  | refine Sx.storeW rfl rfl Fx.size27 (ckL_one _) (.tail (.tail (.tail (.head)))) rfl ?_
                refine Sx.anyStep 6 [] (by kernel_rfl) ⟨?_, trivial⟩
                ·
                  refine Sx.anyOp #[true, true, true, true, true, true, true] rfl rfl ?_
                  refine Sx.yl (.assign rfl) rfl ?_
                  refine Sx.anyEnd (by kernel_rfl) ?_
                  refine Sx.thenN ?_
                  refine Sx.ret ?_
                  first
                    | refine Sx.retN (.inl rfl) rfl (.cons (.cell rfl Fx.agg26 (.head _) (ck_length _)) (.cons (.cell rfl Fx.agg27 (.tail _ (.tail _ (.head _))) (ck_length _)) (.cons (.tmp rfl) .nil))) rfl (fun W s => ⟨rfl, s.ext⟩)
                    | refine Sx.retN (.inl rfl) rfl (.cons (.cell rfl Fx.agg26 (.tail _ (.head _)) (ck_length _)) (.cons (.cell rfl Fx.agg27 (.tail _ (.tail _ (.head _))) (ck_length _)) (.cons (.tmp rfl) .nil))) rfl (fun W s => ⟨rfl, s.ext⟩)
                    | refine Sx.retN (.inl rfl) rfl (.cons (.cell rfl Fx.agg26 (.tail _ (.tail _ (.head _))) (ck_length _)) (.cons (.cell rfl Fx.agg27 (.tail _ (.tail _ (.head _))) (ck_length _)) (.cons (.tmp rfl) .nil))) rfl (fun W s => ⟨rfl, s.ext⟩)
                    | refine Sx.retN (.inl rfl) rfl (.cons (.cell rfl Fx.agg26 (.tail _ (.tail _ (.tail _ (.head _)))) (ck_length _)) (.cons (.cell rfl Fx.agg27 (.tail _ (.tail _ (.head _))) (ck_length _)) (.cons (.tmp rfl) .nil))) rfl (fun W s => ⟨rfl, s.ext⟩)
    ·
      refine Sx.anyOp #[false, true, false, false, false, false, false] rfl rfl ?_
      first
        | refine Sx.yl (.loadW rfl Fx.agg27 (.head _) (ck_length _)) rfl ?_
        | refine Sx.yl (.loadW rfl Fx.agg27 (.tail _ (.head _)) (ck_length _)) rfl ?_
        | refine Sx.yl (.loadW rfl Fx.agg27 (.tail _ (.tail _ (.head _))) (ck_length _)) rfl ?_
        | refine Sx.yl (.loadW rfl Fx.agg27 (.tail _ (.tail _ (.tail _ (.head _)))) (ck_length _)) rfl ?_
      refine Sx.anyStep 0 [2] (by kernel_rfl) ⟨?_, ?_, trivial⟩
      ·
        refine Sx.anyOp #[true, true, false, false, false, false, false] rfl rfl ?_
        first
          | refine Sx.yl (.loadW rfl Fx.agg26 (.head _) (ck_length _)) rfl ?_
          | refine Sx.yl (.loadW rfl Fx.agg26 (.tail _ (.head _)) (ck_length _)) rfl ?_
          | refine Sx.yl (.loadW rfl Fx.agg26 (.tail _ (.tail _ (.head _))) (ck_length _)) rfl ?_
          | refine Sx.yl (.loadW rfl Fx.agg26 (.tail _ (.tail _ (.tail _ (.head _)))) (ck_length _)) rfl ?_
        refine Sx.anyStep 2 [4] (by kernel_rfl) ⟨?_, ?_, trivial⟩
        ·
          refine Sx.anyOp #[true, true, true, false, false, false, false] rfl rfl ?_
          refine Sx.yl (.move rfl) rfl ?_
          refine Sx.anyStep 3 [4] (by kernel_rfl) ⟨?_, ?_, trivial⟩
          ·
            refine Sx.anyOp #[true, true, true, true, false, false, false] rfl rfl ?_
            refine Sx.yl (.eql rfl rfl) rfl ?_
            refine Sx.anyStep 4 [] (by kernel_rfl) ⟨?_, trivial⟩
            ·
              refine Sx.anyOp #[true, true, true, true, true, false, false] rfl rfl ?_
              first
                | refine Sx.storeW rfl rfl Fx.size26 (ckL_one _) (.head) rfl ?_
                | refine Sx.storeW rfl rfl Fx.size26 (ckL_one _) (.tail (.head)) rfl ?_
                | refine Sx.storeW rfl rfl Fx.size26 (ckL_one _) (.tail (.tail (.head))) rfl ?_
                | refine Sx.storeW rfl rfl Fx.size26 (ckL_one _) (.tail (.tail (.tail (.head)))) rfl ?_
              refine Sx.anyStep 5 [] (by kernel_rfl) ⟨?_, trivial⟩
              ·
                refine Sx.anyOp #[true, true, true, true, true, true, false] rfl rfl ?_
                first
                  | refine Sx.storeW rfl rfl Fx.size27 (ckL_one _) (.head) rfl ?_
                  | refine Sx.storeW rfl rfl Fx.size27 (ckL_one _) (.tail (.head)) rfl ?_
                  | refine Sx.storeW rfl rfl Fx.size27 (ckL_one _) (.tail (.tail (.head))) rfl ?_
                  | refine Sx.storeW rfl rfl Fx.size27 (ckL_one _) (.tail (.tail (.tail (.head)))) rfl ?_
                refine Sx.anyStep 6 [] (by kernel_rfl) ⟨?_, trivial⟩
                ·
                  refine Sx.anyOp #[true, true, true, true, true, true, true] rfl rfl ?_
                  refine Sx.yl (.assign rfl) rfl ?_
                  refine Sx.anyEnd (by kernel_rfl) ?_
                  refine Sx.thenN ?_
                  refine Sx.ret ?_
                  first
                    | refine Sx.retN (.inl rfl) rfl (.cons (.cell rfl Fx.agg26 (.head _) (ck_length _)) (.cons (.cell rfl Fx.agg27 (.tail _ (.tail _ (.head _))) (ck_length _)) (.cons (.tmp rfl) .nil))) rfl (fun W s => ⟨rfl, s.ext⟩)
                    | refine Sx.retN (.inl rfl) rfl (.cons (.cell rfl Fx.agg26 (.tail _ (.head _)) (ck_length _)) (.cons (.cell rfl Fx.agg27 (.tail _ (.tail _ (.head _))) (ck_length _)) (.cons (.tmp rfl) .nil))) rfl (fun W s => ⟨rfl, s.ext⟩)
                    | refine Sx.retN (.inl rfl) rfl (.cons (.cell rfl Fx.agg26 (.tail _ (.tail _ (.head _))) (ck_length _)) (.cons (.cell rfl Fx.agg27 (.tail _ (.tail _ (.head _))) (ck_length _)) (.cons (.tmp rfl) .nil))) rfl (fun W s => ⟨rfl, s.ext⟩)
                    | refine Sx.retN (.inl rfl) rfl (.cons (.cell rfl Fx.agg26 (.tail _ (.tail _ (.tail _ (.head _)))) (ck_length _)) (.cons (.cell rfl Fx.agg27 (.tail _ (.tail _ (.head _))) (ck_length _)) (.cons (.tmp rfl) .nil))) rfl (fun W s => ⟨rfl, s.ext⟩)
          ·
            refine Sx.anyOp #[true, true, true, false, true, false, false] rfl rfl ?_
            first
              | refine Sx.storeW rfl rfl Fx.size26 (ckL_one _) (.head) rfl ?_
              | refine Sx.storeW rfl rfl Fx.size26 (ckL_one _) (.tail (.head)) rfl ?_
              | refine Sx.storeW rfl rfl Fx.size26 (ckL_one _) (.tail (.tail (.head))) rfl ?_
              | refine Sx.storeW rfl rfl Fx.size26 (ckL_one _) (.tail (.tail (.tail (.head)))) rfl ?_
            refine Sx.anyStep 3 [5] (by kernel_rfl) ⟨?_, ?_, trivial⟩
            ·
              refine Sx.anyOp #[true, true, true, true, true, false, false] rfl rfl ?_
              refine Sx.yl (.eql rfl rfl) rfl ?_
              refine Sx.anyStep 5 [] (by kernel_rfl) ⟨?_, trivial⟩
              ·
                refine Sx.anyOp #[true, true, true, true, true, true, false] rfl rfl ?_
                first
                  | refine Sx.storeW rfl rfl Fx.size27 (ckL_one _) (.head) rfl ?_
                  | refine Sx.storeW rfl rfl Fx.size27 (ckL_one _) (.tail (.head)) rfl ?_
                  | refine Sx.storeW rfl rfl Fx.size27 (ckL_one _) (.tail (.tail (.head))) rfl ?_
                  | refine Sx.storeW rfl rfl Fx.size27 (ckL_one _) (.tail (.tail (.tail (.head)))) rfl ?_
                refine Sx.anyStep 6 [] (by kernel_rfl) ⟨?_, trivial⟩
                ·
                  refine Sx.anyOp #[true, true, true, true, true, true, true] rfl rfl ?_
                  refine Sx.yl (.assign rfl) rfl ?_
                  refine Sx.anyEnd (by kernel_rfl) ?_
                  refine Sx.thenN ?_
                  refine Sx.ret ?_
                  first
                    | refine Sx.retN (.inl rfl) rfl (.cons (.cell rfl Fx.agg26 (.head _) (ck_length _)) (.cons (.cell rfl Fx.agg27 (.tail _ (.tail _ (.head _))) (ck_length _)) (.cons (.tmp rfl) .nil))) rfl (fun W s => ⟨rfl, s.ext⟩)
                    | refine Sx.retN (.inl rfl) rfl (.cons (.cell rfl Fx.agg26 (.tail _ (.head _)) (ck_length _)) (.cons (.cell rfl Fx.agg27 (.tail _ (.tail _ (.head _))) (ck_length _)) (.cons (.tmp rfl) .nil))) rfl (fun W s => ⟨rfl, s.ext⟩)
                    | refine Sx.retN (.inl rfl) rfl (.cons (.cell rfl Fx.agg26 (.tail _ (.tail _ (.head _))) (ck_length _)) (.cons (.cell rfl Fx.agg27 (.tail _ (.tail _ (.head _))) (ck_length _)) (.cons (.tmp rfl) .nil))) rfl (fun W s => ⟨rfl, s.ext⟩)
                    | refine Sx.retN (.inl rfl) rfl (.cons (.cell rfl Fx.agg26 (.tail _ (.tail _ (.tail _ (.head _)))) (ck_length _)) (.cons (.cell rfl Fx.agg27 (.tail _ (.tail _ (.head _))) (ck_length _)) (.cons (.tmp rfl) .nil))) rfl (fun W s => ⟨rfl, s.ext⟩)
            ·
              refine Sx.anyOp #[true, true, true, false, true, true, false] rfl rfl ?_
              first
                | refine Sx.storeW rfl rfl Fx.size27 (ckL_one _) (.head) rfl ?_
                | refine Sx.storeW rfl rfl Fx.size27 (ckL_one _) (.tail (.head)) rfl ?_
                | refine Sx.storeW rfl rfl Fx.size27 (ckL_one _) (.tail (.tail (.head))) rfl ?_
                | refine Sx.storeW rfl rfl Fx.size27 (ckL_one _) (.tail (.tail (.tail (.head)))) rfl ?_
              refine Sx.anyStep 3 [] (by kernel_rfl) ⟨?_, trivial⟩
              ·
                refine Sx.anyOp #[true, true, true, true, true, true, false] rfl rfl ?_
                refine Sx.yl (.eql rfl rfl) rfl ?_
                refine Sx.anyStep 6 [] (by kernel_rfl) ⟨?_, trivial⟩
                ·
                  refine Sx.anyOp #[true, true, true, true, true, true, true] rfl rfl ?_
                  refine Sx.yl (.assign rfl) rfl ?_
                  refine Sx.anyEnd (by kernel_rfl) ?_
                  refine Sx.thenN ?_
                  refine Sx.ret ?_
                  first
                    | refine Sx.retN (.inl rfl) rfl (.cons (.cell rfl Fx.agg26 (.head _) (ck_length _)) (.cons (.cell rfl Fx.agg27 (.tail _ (.tail _ (.head _))) (ck_length _)) (.cons (.tmp rfl) .nil))) rfl (fun W s => ⟨rfl, s.ext⟩)
                    | refine Sx.retN (.inl rfl) rfl (.cons (.cell rfl Fx.agg26 (.tail _ (.head _)) (ck_length _)) (.cons (.cell rfl Fx.agg27 (.tail _ (.tail _ (.head _))) (ck_length _)) (.cons (.tmp rfl) .nil))) rfl (fun W s => ⟨rfl, s.ext⟩)
                    | refine Sx.retN (.inl rfl) rfl (.cons (.cell rfl Fx.agg26 (.tail _ (.tail _ (.head _))) (ck_length _)) (.cons (.cell rfl Fx.agg27 (.tail _ (.tail _ (.head _))) (ck_length _)) (.cons (.tmp rfl) .nil))) rfl (fun W s => ⟨rfl, s.ext⟩)
                    | refine Sx.retN (.inl rfl) rfl (.cons (.cell rfl Fx.agg26 (.tail _ (.tail _ (.tail _ (.head _)))) (ck_length _)) (.cons (.cell rfl Fx.agg27 (.tail _ (.tail _ (.head _))) (ck_length _)) (.cons (.tmp rfl) .nil))) rfl (fun W s => ⟨rfl, s.ext⟩)
        ·
          refine Sx.anyOp #[true, true, false, false, true, false, false] rfl rfl ?_
          first
            | refine Sx.storeW rfl rfl Fx.size26 (ckL_one _) (.head) rfl ?_
            | refine Sx.storeW rfl rfl Fx.size26 (ckL_one _) (.tail (.head)) rfl ?_
            | refine Sx.storeW rfl rfl Fx.size26 (ckL_one _) (.tail (.tail (.head))) rfl ?_
            | refine Sx.storeW rfl rfl Fx.size26 (ckL_one _) (.tail (.tail (.tail (.head)))) rfl ?_
          refine Sx.anyStep 2 [5] (by kernel_rfl) ⟨?_, ?_, trivial⟩
          ·
            refine Sx.anyOp #[true, true, true, false, true, false, false] rfl rfl ?_
            refine Sx.yl (.move rfl) rfl ?_
            refine Sx.anyStep 3 [5] (by kernel_rfl) ⟨?_, ?_, trivial⟩
            ·
              refine Sx.anyOp #[true, true, true, true, true, false, false] rfl rfl ?_
              refine Sx.yl (.eql rfl rfl) rfl ?_
              refine Sx.anyStep 5 [] (by kernel_rfl) ⟨?_, trivial⟩
              ·
                refine Sx.anyOp #[true, true, true, true, true, true, false] rfl rfl ?_
                first
                  | refine Sx.storeW rfl rfl Fx.size27 (ckL_one _) (.head) rfl ?_
                  | refine Sx.storeW rfl rfl Fx.size27 (ckL_one _) (.tail (.head)) rfl ?_
                  | refine Sx.storeW rfl rfl Fx.size27 (ckL_one _) (.tail (.tail (.head))) rfl ?_
                  | refine Sx.storeW rfl rfl Fx.size27 (ckL_one _) (.tail (.tail (.tail (.head)))) rfl ?_
                refine Sx.anyStep 6 [] (by kernel_rfl) ⟨?_, trivial⟩
                ·
                  refine Sx.anyOp #[true, true, true, true, true, true, true] rfl rfl ?_
                  refine Sx.yl (.assign rfl) rfl ?_
                  refine Sx.anyEnd (by kernel_rfl) ?_
                  refine Sx.thenN ?_
                  refine Sx.ret ?_
                  first
                    | refine Sx.retN (.inl rfl) rfl (.cons (.cell rfl Fx.agg26 (.head _) (ck_length _)) (.cons (.cell rfl Fx.agg27 (.tail _ (.tail _ (.head _))) (ck_length _)) (.cons (.tmp rfl) .nil))) rfl (fun W s => ⟨rfl, s.ext⟩)
                    | refine Sx.retN (.inl rfl) rfl (.cons (.cell rfl Fx.agg26 (.tail _ (.head _)) (ck_length _)) (.cons (.cell rfl Fx.agg27 (.tail _ (.tail _ (.head _))) (ck_length _)) (.cons (.tmp rfl) .nil))) rfl (fun W s => ⟨rfl, s.ext⟩)
                    | refine Sx.retN (.inl rfl) rfl (.cons (.cell rfl Fx.agg26 (.tail _ (.tail _ (.head _))) (ck_length _)) (.cons (.cell rfl Fx.agg27 (.tail _ (.tail _ (.head _))) (ck_length _)) (.cons (.tmp rfl) .nil))) rfl (fun W s => ⟨rfl, s.ext⟩)
                    | refine Sx.retN (.inl rfl) rfl (.cons (.cell rfl Fx.agg26 (.tail _ (.tail _ (.tail _ (.head _)))) (ck_length _)) (.cons (.cell rfl Fx.agg27 (.tail _ (.tail _ (.head _))) (ck_length _)) (.cons (.tmp rfl) .nil))) rfl (fun W s => ⟨rfl, s.ext⟩)
            ·
              refine Sx.anyOp #[true, true, true, false, true, true, false] rfl rfl ?_
              first
                | refine Sx.storeW rfl rfl Fx.size27 (ckL_one _) (.head) rfl ?_
                | refine Sx.storeW rfl rfl Fx.size27 (ckL_one _) (.tail (.head)) rfl ?_
                | refine Sx.storeW rfl rfl Fx.size27 (ckL_one _) (.tail (.tail (.head))) rfl ?_
                | refine Sx.storeW rfl rfl Fx.size27 (ckL_one _) (.tail (.tail (.tail (.head)))) rfl ?_
              refine Sx.anyStep 3 [] (by kernel_rfl) ⟨?_, trivial⟩
              ·
                refine Sx.anyOp #[true, true, true, true, true, true, false] rfl rfl ?_
                refine Sx.yl (.eql rfl rfl) rfl ?_
                refine Sx.anyStep 6 [] (by kernel_rfl) ⟨?_, trivial⟩
                ·
                  refine Sx.anyOp #[true, true, true, true, true, true, true] rfl rfl ?_
                  refine Sx.yl (.assign rfl) rfl ?_
                  refine Sx.anyEnd (by kernel_rfl) ?_
                  refine Sx.thenN ?_
                  refine Sx.ret ?_
                  first
                    | refine Sx.retN (.inl rfl) rfl (.cons (.cell rfl Fx.agg26 (.head _) (ck_length _)) (.cons (.cell rfl Fx.agg27 (.tail _ (.tail _ (.head _))) (ck_length _)) (.cons (.tmp rfl) .nil))) rfl (fun W s => ⟨rfl, s.ext⟩)
                    | refine Sx.retN (.inl rfl) rfl (.cons (.cell rfl Fx.agg26 (.tail _ (.head _)) (ck_length _)) (.cons (.cell rfl Fx.agg27 (.tail _ (.tail _ (.head _))) (ck_length _)) (.cons (.tmp rfl) .nil))) rfl (fun W s => ⟨rfl, s.ext⟩)
                    | refine Sx.retN (.inl rfl) rfl (.cons (.cell rfl Fx.agg26 (.tail _ (.tail _ (.head _))) (ck_length _)) (.cons (.cell rfl Fx.agg27 (.tail _ (.tail _ (.head _))) (ck_length _)) (.cons (.tmp rfl) .nil))) rfl (fun W s => ⟨rfl, s.ext⟩)
                    | refine Sx.retN (.inl rfl) rfl (.cons (.cell rfl Fx.agg26 (.tail _ (.tail _ (.tail _ (.head _)))) (ck_length _)) (.cons (.cell rfl Fx.agg27 (.tail _ (.tail _ (.head _))) (ck_length _)) (.cons (.tmp rfl) .nil))) rfl (fun W s => ⟨rfl, s.ext⟩)
          ·
            refine Sx.anyOp #[true, true, false, false, true, true, false] rfl rfl ?_
            first
              | refine Sx.storeW rfl rfl Fx.size27 (ckL_one _) (.head) rfl ?_
              | refine Sx.storeW rfl rfl Fx.size27 (ckL_one _) (.tail (.head)) rfl ?_
              | refine Sx.storeW rfl rfl Fx.size27 (ckL_one _) (.tail (.tail (.head))) rfl ?_
              | refine Sx.storeW rfl rfl Fx.size27 (ckL_one _) (.tail (.tail (.tail (.head)))) rfl ?_
            refine Sx.anyStep 2 [] (by kernel_rfl) ⟨?_, trivial⟩
            ·
              refine Sx.anyOp #[true, true, true, false, true, true, false] rfl rfl ?_
              refine Sx.yl (.move rfl) rfl ?_
              refine Sx.anyStep 3 [] (by kernel_rfl) ⟨?_, trivial⟩
              ·
                refine Sx.anyOp #[true, true, true, true, true, true, false] rfl rfl ?_
                refine Sx.yl (.eql rfl rfl) rfl ?_
                refine Sx.anyStep 6 [] (by kernel_rfl) ⟨?_, trivial⟩
                ·
                  refine Sx.anyOp #[true, true, true, true, true, true, true] rfl rfl ?_
                  refine Sx.yl (.assign rfl) rfl ?_
                  refine Sx.anyEnd (by kernel_rfl) ?_
                  refine Sx.thenN ?_
                  refine Sx.ret ?_
                  first
                    | refine Sx.retN (.inl rfl) rfl (.cons (.cell rfl Fx.agg26 (.head _) (ck_length _)) (.cons (.cell rfl Fx.agg27 (.tail _ (.tail _ (.head _))) (ck_length _)) (.cons (.tmp rfl) .nil))) rfl (fun W s => ⟨rfl, s.ext⟩)
                    | refine Sx.retN (.inl rfl) rfl (.cons (.cell rfl Fx.agg26 (.tail _ (.head _)) (ck_length _)) (.cons (.cell rfl Fx.agg27 (.tail _ (.tail _ (.head _))) (ck_length _)) (.cons (.tmp rfl) .nil))) rfl (fun W s => ⟨rfl, s.ext⟩)
                    | refine Sx.retN (.inl rfl) rfl (.cons (.cell rfl Fx.agg26 (.tail _ (.tail _ (.head _))) (ck_length _)) (.cons (.cell rfl Fx.agg27 (.tail _ (.tail _ (.head _))) (ck_length _)) (.cons (.tmp rfl) .nil))) rfl (fun W s => ⟨rfl, s.ext⟩)
                    | refine Sx.retN (.inl rfl) rfl (.cons (.cell rfl Fx.agg26 (.tail _ (.tail _ (.tail _ (.head _)))) (ck_length _)) (.cons (.cell rfl Fx.agg27 (.tail _ (.tail _ (.head _))) (ck_length _)) (.cons (.tmp rfl) .nil))) rfl (fun W s => ⟨rfl, s.ext⟩)
      ·
        refine Sx.anyOp #[false, true, true, false, false, false, false] rfl rfl ?_
        refine Sx.yl (.move rfl) rfl ?_
        refine Sx.anyStep 0 [3] (by kernel_rfl) ⟨?_, ?_, trivial⟩
        ·
          refine Sx.anyOp #[true, true, true, false, false, false, false] rfl rfl ?_
          first
            | refine Sx.yl (.loadW rfl Fx.agg26 (.head _) (ck_length _)) rfl ?_
            | refine Sx.yl (.loadW rfl Fx.agg26 (.tail _ (.head _)) (ck_length _)) rfl ?_
            | refine Sx.yl (.loadW rfl Fx.agg26 (.tail _ (.tail _ (.head _))) (ck_length _)) rfl ?_
            | refine Sx.yl (.loadW rfl Fx.agg26 (.tail _ (.tail _ (.tail _ (.head _)))) (ck_length _)) rfl ?_
          refine Sx.anyStep 3 [4] (by kernel_rfl) ⟨?_, ?_, trivial⟩
          ·
            refine Sx.anyOp #[true, true, true, true, false, false, false] rfl rfl ?_
            refine Sx.yl (.eql rfl rfl) rfl ?_
            refine Sx.anyStep 4 [] (by kernel_rfl) ⟨?_, trivial⟩
            ·
              refine Sx.anyOp #[true, true, true, true, true, false, false] rfl rfl ?_
              first
                | refine Sx.storeW rfl rfl Fx.size26 (ckL_one _) (.head) rfl ?_
                | refine Sx.storeW rfl rfl Fx.size26 (ckL_one _) (.tail (.head)) rfl ?_
                | refine Sx.storeW rfl rfl Fx.size26 (ckL_one _) (.tail (.tail (.head))) rfl ?_
                | refine Sx.storeW rfl rfl Fx.size26 (ckL_one _) (.tail (.tail (.tail (.head)))) rfl ?_
              refine Sx.anyStep 5 [] (by kernel_rfl) ⟨?_, trivial⟩
              ·
                refine Sx.anyOp #[true, true, true, true, true, true, false] rfl rfl ?_
                first
                  | refine Sx.storeW rfl rfl Fx.size27 (ckL_one _) (.head) rfl ?_
                  | refine Sx.storeW rfl rfl Fx.size27 (ckL_one _) (.tail (.head)) rfl ?_
                  | refine Sx.storeW rfl rfl Fx.size27 (ckL_one _) (.tail (.tail (.head))) rfl ?_
                  | refine Sx.storeW rfl rfl Fx.size27 (ckL_one _) (.tail (.tail (.tail (.head)))) rfl ?_
                refine Sx.anyStep 6 [] (by kernel_rfl) ⟨?_, trivial⟩
                ·
                  refine Sx.anyOp #[true, true, true, true, true, true, true] rfl rfl ?_
                  refine Sx.yl (.assign rfl) rfl ?_
                  refine Sx.anyEnd (by kernel_rfl) ?_
                  refine Sx.thenN ?_
                  refine Sx.ret ?_
                  first
                    | refine Sx.retN (.inl rfl) rfl (.cons (.cell rfl Fx.agg26 (.head _) (ck_length _)) (.cons (.cell rfl Fx.agg27 (.tail _ (.tail _ (.head _))) (ck_length _)) (.cons (.tmp rfl) .nil))) rfl (fun W s => ⟨rfl, s.ext⟩)
                    | refine Sx.retN (.inl rfl) rfl (.cons (.cell rfl Fx.agg26 (.tail _ (.head _)) (ck_length _)) (.cons (.cell rfl Fx.agg27 (.tail _ (.tail _ (.head _))) (ck_length _)) (.cons (.tmp rfl) .nil))) rfl (fun W s => ⟨rfl, s.ext⟩)
                    | refine Sx.retN (.inl rfl) rfl (.cons (.cell rfl Fx.agg26 (.tail _ (.tail _ (.head _))) (ck_length _)) (.cons (.cell rfl Fx.agg27 (.tail _ (.tail _ (.head _))) (ck_length _)) (.cons (.tmp rfl) .nil))) rfl (fun W s => ⟨rfl, s.ext⟩)
                    | refine Sx.retN (.inl rfl) rfl (.cons (.cell rfl Fx.agg26 (.tail _ (.tail _ (.tail _ (.head _)))) (ck_length _)) (.cons (.cell rfl Fx.agg27 (.tail _ (.tail _ (.head _))) (ck_length _)) (.cons (.tmp rfl) .nil))) rfl (fun W s => ⟨rfl, s.ext⟩)
          ·
            refine Sx.anyOp #[true, true, true, false, true, false, false] rfl rfl ?_
            first
              | refine Sx.storeW rfl rfl Fx.size26 (ckL_one _) (.head) rfl ?_
              | refine Sx.storeW rfl rfl Fx.size26 (ckL_one _) (.tail (.head)) rfl ?_
              | refine Sx.storeW rfl rfl Fx.size26 (ckL_one _) (.tail (.tail (.head))) rfl ?_
              | refine Sx.storeW rfl rfl Fx.size26 (ckL_one _) (.tail (.tail (.tail (.head)))) rfl ?_
            refine Sx.anyStep 3 [5] (by kernel_rfl) ⟨?_, ?_, trivial⟩
            ·
              refine Sx.anyOp #[true, true, true, true, true, false, false] rfl rfl ?_
              refine Sx.yl (.eql rfl rfl) rfl ?_
              refine Sx.anyStep 5 [] (by kernel_rfl) ⟨?_, trivial⟩
              ·
                refine Sx.anyOp #[true, true, true, true, true, true, false] rfl rfl ?_
                first
                  | refine Sx.storeW rfl rfl Fx.size27 (ckL_one _) (.head) rfl ?_
                  | refine Sx.storeW rfl rfl Fx.size27 (ckL_one _) (.tail (.head)) rfl ?_
                  | refine Sx.storeW rfl rfl Fx.size27 (ckL_one _) (.tail (.tail (.head))) rfl ?_
                  | refine Sx.storeW rfl rfl Fx.size27 (ckL_one _) (.tail (.tail (.tail (.head)))) rfl ?_
                refine Sx.anyStep 6 [] (by kernel_rfl) ⟨?_, trivial⟩
                ·
                  refine Sx.anyOp #[true, true, true, true, true, true, true] rfl rfl ?_
                  refine Sx.yl (.assign rfl) rfl ?_
                  refine Sx.anyEnd (by kernel_rfl) ?_
                  refine Sx.thenN ?_
                  refine Sx.ret ?_
                  first
                    | refine Sx.retN (.inl rfl) rfl (.cons (.cell rfl Fx.agg26 (.head _) (ck_length _)) (.cons (.cell rfl Fx.agg27 (.tail _ (.tail _ (.head _))) (ck_length _)) (.cons (.tmp rfl) .nil))) rfl (fun W s => ⟨rfl, s.ext⟩)
                    | refine Sx.retN (.inl rfl) rfl (.cons (.cell rfl Fx.agg26 (.tail _ (.head _)) (ck_length _)) (.cons (.cell rfl Fx.agg27 (.tail _ (.tail _ (.head _))) (ck_length _)) (.cons (.tmp rfl) .nil))) rfl (fun W s => ⟨rfl, s.ext⟩)
                    | refine Sx.retN (.inl rfl) rfl (.cons (.cell rfl Fx.agg26 (.tail _ (.tail _ (.head _))) (ck_length _)) (.cons (.cell rfl Fx.agg27 (.tail _ (.tail _ (.head _))) (ck_length _)) (.cons (.tmp rfl) .nil))) rfl (fun W s => ⟨rfl, s.ext⟩)
                    | refine Sx.retN (.inl rfl) rfl (.cons (.cell rfl Fx.agg26 (.tail _ (.tail _ (.tail _ (.head _)))) (ck_length _)) (.cons (.cell rfl Fx.agg27 (.tail _ (.tail _ (.head _))) (ck_length _)) (.cons (.tmp rfl) .nil))) rfl (fun W s => ⟨rfl, s.ext⟩)
            ·
              refine Sx.anyOp #[true, true, true, false, true, true, false] rfl rfl ?_
              first
                | refine Sx.storeW rfl rfl Fx.size27 (ckL_one _) (.head) rfl ?_
                | refine Sx.storeW rfl rfl Fx.size27 (ckL_one _) (.tail (.head)) rfl ?_
                | refine Sx.storeW rfl rfl Fx.size27 (ckL_one _) (.tail (.tail (.head))) rfl ?_
                | refine Sx.storeW rfl rfl Fx.size27 (ckL_one _) (.tail (.tail (.tail (.head)))) rfl ?_
              refine Sx.anyStep 3 [] (by kernel_rfl) ⟨?_, trivial⟩
              ·
                refine Sx.anyOp #[true, true, true, true, true, true, false] rfl rfl ?_
                refine Sx.yl (.eql rfl rfl) rfl ?_
                refine Sx.anyStep 6 [] (by kernel_rfl) ⟨?_, trivial⟩
                ·
                  refine Sx.anyOp #[true, true, true, true, true, true, true] rfl rfl ?_
                  refine Sx.yl (.assign rfl) rfl ?_
                  refine Sx.anyEnd (by kernel_rfl) ?_
                  refine Sx.thenN ?_
                  refine Sx.ret ?_
                  first
                    | refine Sx.retN (.inl rfl) rfl (.cons (.cell rfl Fx.agg26 (.head _) (ck_length _)) (.cons (.cell rfl Fx.agg27 (.tail _ (.tail _ (.head _))) (ck_length _)) (.cons (.tmp rfl) .nil))) rfl (fun W s => ⟨rfl, s.ext⟩)
                    | refine Sx.retN (.inl rfl) rfl (.cons (.cell rfl Fx.agg26 (.tail _ (.head _)) (ck_length _)) (.cons (.cell rfl Fx.agg27 (.tail _ (.tail _ (.head _))) (ck_length _)) (.cons (.tmp rfl) .nil))) rfl (fun W s => ⟨rfl, s.ext⟩)
                    | refine Sx.retN (.inl rfl) rfl (.cons (.cell rfl Fx.agg26 (.tail _ (.tail _ (.head _))) (ck_length _)) (.cons (.cell rfl Fx.agg27 (.tail _ (.tail _ (.head _))) (ck_length _)) (.cons (.tmp rfl) .nil))) rfl (fun W s => ⟨rfl, s.ext⟩)
                    | refine Sx.retN (.inl rfl) rfl (.cons (.cell rfl Fx.agg26 (.tail _ (.tail _ (.tail _ (.head _)))) (ck_length _)) (.cons (.cell rfl Fx.agg27 (.tail _ (.tail _ (.head _))) (ck_length _)) (.cons (.tmp rfl) .nil))) rfl (fun W s => ⟨rfl, s.ext⟩)
        ·
          refine Sx.anyOp #[false, true, true, true, false, false, false] rfl rfl ?_
          refine Sx.yl (.eql rfl rfl) rfl ?_
          refine Sx.anyStep 0 [] (by kernel_rfl) ⟨?_, trivial⟩
          ·
            refine Sx.anyOp #[true, true, true, true, false, false, false] rfl rfl ?_
            first
              | refine Sx.yl (.loadW rfl Fx.agg26 (.head _) (ck_length _)) rfl ?_
              | refine Sx.yl (.loadW rfl Fx.agg26 (.tail _ (.head _)) (ck_length _)) rfl ?_
              | refine Sx.yl (.loadW rfl Fx.agg26 (.tail _ (.tail _ (.head _))) (ck_length _)) rfl ?_
              | refine Sx.yl (.loadW rfl Fx.agg26 (.tail _ (.tail _ (.tail _ (.head _)))) (ck_length _)) rfl ?_
            refine Sx.anyStep 4 [] (by kernel_rfl) ⟨?_, trivial⟩
            ·
              refine Sx.anyOp #[true, true, true, true, true, false, false] rfl rfl ?_
              first
                | refine Sx.storeW rfl rfl Fx.size26 (ckL_one _) (.head) rfl ?_
                | refine Sx.storeW rfl rfl Fx.size26 (ckL_one _) (.tail (.head)) rfl ?_
                | refine Sx.storeW rfl rfl Fx.size26 (ckL_one _) (.tail (.tail (.head))) rfl ?_
                | refine Sx.storeW rfl rfl Fx.size26 (ckL_one _) (.tail (.tail (.tail (.head)))) rfl ?_
              refine Sx.anyStep 5 [] (by kernel_rfl) ⟨?_, trivial⟩
              ·
                refine Sx.anyOp #[true, true, true, true, true, true, false] rfl rfl ?_
                first
                  | refine Sx.storeW rfl rfl Fx.size27 (ckL_one _) (.head) rfl ?_
                  | refine Sx.storeW rfl rfl Fx.size27 (ckL_one _) (.tail (.head)) rfl ?_
                  | refine Sx.storeW rfl rfl Fx.size27 (ckL_one _) (.tail (.tail (.head))) rfl ?_
                  | refine Sx.storeW rfl rfl Fx.size27 (ckL_one _) (.tail (.tail (.tail (.head)))) rfl ?_
                refine Sx.anyStep 6 [] (by kernel_rfl) ⟨?_, trivial⟩
                ·
                  refine Sx.anyOp #[true, true, true, true, true, true, true] rfl rfl ?_
                  refine Sx.yl (.assign rfl) rfl ?_
                  refine Sx.anyEnd (by kernel_rfl) ?_
                  refine Sx.thenN ?_
                  refine Sx.ret ?_
                  first
                    | refine Sx.retN (.inl rfl) rfl (.cons (.cell rfl Fx.agg26 (.head _) (ck_length _)) (.cons (.cell rfl Fx.agg27 (.tail _ (.tail _ (.head _))) (ck_length _)) (.cons (.tmp rfl) .nil))) rfl (fun W s => ⟨rfl, s.ext⟩)
                    | refine Sx.retN (.inl rfl) rfl (.cons (.cell rfl Fx.agg26 (.tail _ (.head _)) (ck_length _)) (.cons (.cell rfl Fx.agg27 (.tail _ (.tail _ (.head _))) (ck_length _)) (.cons (.tmp rfl) .nil))) rfl (fun W s => ⟨rfl, s.ext⟩)
                    | refine Sx.retN (.inl rfl) rfl (.cons (.cell rfl Fx.agg26 (.tail _ (.tail _ (.head _))) (ck_length _)) (.cons (.cell rfl Fx.agg27 (.tail _ (.tail _ (.head _))) (ck_length _)) (.cons (.tmp rfl) .nil))) rfl (fun W s => ⟨rfl, s.ext⟩)
                    | refine Sx.retN (.inl rfl) rfl (.cons (.cell rfl Fx.agg26 (.tail _ (.tail _ (.tail _ (.head _)))) (ck_length _)) (.cons (.cell rfl Fx.agg27 (.tail _ (.tail _ (.head _))) (ck_length _)) (.cons (.tmp rfl) .nil))) rfl (fun W s => ⟨rfl, s.ext⟩)
    ·
      refine Sx.anyOp #[false, false, true, false, false, false, false] rfl rfl ?_
      refine Sx.yl (.move rfl) rfl ?_
      refine Sx.anyStep 0 [1, 3] (by kernel_rfl) ⟨?_, ?_, ?_, trivial⟩
      ·
        refine Sx.anyOp #[true, false, true, false, false, false, false] rfl rfl ?_
        first
          | refine Sx.yl (.loadW rfl Fx.agg26 (.head _) (ck_length _)) rfl ?_
          | refine Sx.yl (.loadW rfl Fx.agg26 (.tail _ (.head _)) (ck_length _)) rfl ?_
          | refine Sx.yl (.loadW rfl Fx.agg26 (.tail _ (.tail _ (.head _))) (ck_length _)) rfl ?_
          | refine Sx.yl (.loadW rfl Fx.agg26 (.tail _ (.tail _ (.tail _ (.head _)))) (ck_length _)) rfl ?_
        refine Sx.anyStep 1 [3, 4] (by kernel_rfl) ⟨?_, ?_, ?_, trivial⟩
        ·
          refine Sx.anyOp #[true, true, true, false, false, false, false] rfl rfl ?_
          first
            | refine Sx.yl (.loadW rfl Fx.agg27 (.head _) (ck_length _)) rfl ?_
            | refine Sx.yl (.loadW rfl Fx.agg27 (.tail _ (.head _)) (ck_length _)) rfl ?_
            | refine Sx.yl (.loadW rfl Fx.agg27 (.tail _ (.tail _ (.head _))) (ck_length _)) rfl ?_
            | refine Sx.yl (.loadW rfl Fx.agg27 (.tail _ (.tail _ (.tail _ (.head _)))) (ck_length _)) rfl ?_
          refine Sx.anyStep 3 [4] (by kernel_rfl) ⟨?_, ?_, trivial⟩
          ·
            refine Sx.anyOp #[true, true, true, true, false, false, false] rfl rfl ?_
            refine Sx.yl (.eql rfl rfl) rfl ?_
            refine Sx.anyStep 4 [] (by kernel_rfl) ⟨?_, trivial⟩
            ·
              refine Sx.anyOp #[true, true, true, true, true, false, false] rfl rfl ?_
              first
                | refine Sx.storeW rfl rfl Fx.size26 (ckL_one _) (.head) rfl ?_
                | refine Sx.storeW rfl rfl Fx.size26 (ckL_one _) (.tail (.head)) rfl ?_
                | refine Sx.storeW rfl rfl Fx.size26 (ckL_one _) (.tail (.tail (.head))) rfl ?_
                | refine Sx.storeW rfl rfl Fx.size26 (ckL_one _) (.tail (.tail (.tail (.head)))) rfl ?_
              refine Sx.anyStep 5 [] (by kernel_rfl) ⟨?_, trivial⟩
              ·
                refine Sx.anyOp #[true, true, true, true, true, true, false] rfl rfl ?_
                first
                  | refine Sx.storeW rfl rfl Fx.size27 (ckL_one _) (.head) rfl ?_
                  | refine Sx.storeW rfl rfl Fx.size27 (ckL_one _) (.tail (.head)) rfl ?_
                  | refine Sx.storeW rfl rfl Fx.size27 (ckL_one _) (.tail (.tail (.head))) rfl ?_
                  | refine Sx.storeW rfl rfl Fx.size27 (ckL_one _) (.tail (.tail (.tail (.head)))) rfl ?_
                refine Sx.anyStep 6 [] (by kernel_rfl) ⟨?_, trivial⟩
                ·
                  refine Sx.anyOp #[true, true, true, true, true, true, true] rfl rfl ?_
                  refine Sx.yl (.assign rfl) rfl ?_
                  refine Sx.anyEnd (by kernel_rfl) ?_
                  refine Sx.thenN ?_
                  refine Sx.ret ?_
                  first
                    | refine Sx.retN (.inl rfl) rfl (.cons (.cell rfl Fx.agg26 (.head _) (ck_length _)) (.cons (.cell rfl Fx.agg27 (.tail _ (.tail _ (.head _))) (ck_length _)) (.cons (.tmp rfl) .nil))) rfl (fun W s => ⟨rfl, s.ext⟩)
                    | refine Sx.retN (.inl rfl) rfl (.cons (.cell rfl Fx.agg26 (.tail _ (.head _)) (ck_length _)) (.cons (.cell rfl Fx.agg27 (.tail _ (.tail _ (.head _))) (ck_length _)) (.cons (.tmp rfl) .nil))) rfl (fun W s => ⟨rfl, s.ext⟩)
                    | refine Sx.retN (.inl rfl) rfl (.cons (.cell rfl Fx.agg26 (.tail _ (.tail _ (.head _))) (ck_length _)) (.cons (.cell rfl Fx.agg27 (.tail _ (.tail _ (.head _))) (ck_length _)) (.cons (.tmp rfl) .nil))) rfl (fun W s => ⟨rfl, s.ext⟩)
                    | refine Sx.retN (.inl rfl) rfl (.cons (.cell rfl Fx.agg26 (.tail _ (.tail _ (.tail _ (.head _)))) (ck_length _)) (.cons (.cell rfl Fx.agg27 (.tail _ (.tail _ (.head _))) (ck_length _)) (.cons (.tmp rfl) .nil))) rfl (fun W s => ⟨rfl, s.ext⟩)
          ·
            refine Sx.anyOp #[true, true, true, false, true, false, false] rfl rfl ?_
            first
              | refine Sx.storeW rfl rfl Fx.size26 (ckL_one _) (.head) rfl ?_
              | refine Sx.storeW rfl rfl Fx.size26 (ckL_one _) (.tail (.head)) rfl ?_
              | refine Sx.storeW rfl rfl Fx.size26 (ckL_one _) (.tail (.tail (.head))) rfl ?_
              | refine Sx.storeW rfl rfl Fx.size26 (ckL_one _) (.tail (.tail (.tail (.head)))) rfl ?_
            refine Sx.anyStep 3 [5] (by kernel_rfl) ⟨?_, ?_, trivial⟩
            ·
              refine Sx.anyOp #[true, true, true, true, true, false, false] rfl rfl ?_
              refine Sx.yl (.eql rfl rfl) rfl ?_
              refine Sx.anyStep 5 [] (by kernel_rfl) ⟨?_, trivial⟩
              ·
                refine Sx.anyOp #[true, true, true, true, true, true, false] rfl rfl ?_
                first
                  | refine Sx.storeW rfl rfl Fx.size27 (ckL_one _) (.head) rfl ?_
                  | refine Sx.storeW rfl rfl Fx.size27 (ckL_one _) (.tail (.head)) rfl ?_
                  | refine Sx.storeW rfl rfl Fx.size27 (ckL_one _) (.tail (.tail (.head))) rfl ?_
                  | refine Sx.storeW rfl rfl Fx.size27 (ckL_one _) (.tail (.tail (.tail (.head)))) rfl ?_
                refine Sx.anyStep 6 [] (by kernel_rfl) ⟨?_, trivial⟩
                ·
                  refine Sx.anyOp #[true, true, true, true, true, true, true] rfl rfl ?_
                  refine Sx.yl (.assign rfl) rfl ?_
                  refine Sx.anyEnd (by kernel_rfl) ?_
                  refine Sx.thenN ?_
                  refine Sx.ret ?_
                  first
                    | refine Sx.retN (.inl rfl) rfl (.cons (.cell rfl Fx.agg26 (.head _) (ck_length _)) (.cons (.cell rfl Fx.agg27 (.tail _ (.tail _ (.head _))) (ck_length _)) (.cons (.tmp rfl) .nil))) rfl (fun W s => ⟨rfl, s.ext⟩)
                    | refine Sx.retN (.inl rfl) rfl (.cons (.cell rfl Fx.agg26 (.tail _ (.head _)) (ck_length _)) (.cons (.cell rfl Fx.agg27 (.tail _ (.tail _ (.head _))) (ck_length _)) (.cons (.tmp rfl) .nil))) rfl (fun W s => ⟨rfl, s.ext⟩)
                    | refine Sx.retN (.inl rfl) rfl (.cons (.cell rfl Fx.agg26 (.tail _ (.tail _ (.head _))) (ck_length _)) (.cons (.cell rfl Fx.agg27 (.tail _ (.tail _ (.head _))) (ck_length _)) (.cons (.tmp rfl) .nil))) rfl (fun W s => ⟨rfl, s.ext⟩)
                    | refine Sx.retN (.inl rfl) rfl (.cons (.cell rfl Fx.agg26 (.tail _ (.tail _ (.tail _ (.head _)))) (ck_length _)) (.cons (.cell rfl Fx.agg27 (.tail _ (.tail _ (.head _))) (ck_length _)) (.cons (.tmp rfl) .nil))) rfl (fun W s => ⟨rfl, s.ext⟩)
            ·
              refine Sx.anyOp #[true, true, true, false, true, true, false] rfl rfl ?_
              first
                | refine Sx.storeW rfl rfl Fx.size27 (ckL_one _) (.head) rfl ?_
                | refine Sx.storeW rfl rfl Fx.size27 (ckL_one _) (.tail (.head)) rfl ?_
                | refine Sx.storeW rfl rfl Fx.size27 (ckL_one _) (.tail (.tail (.head))) rfl ?_
                | refine Sx.storeW rfl rfl Fx.size27 (ckL_one _) (.tail (.tail (.tail (.head)))) rfl ?_
              refine Sx.anyStep 3 [] (by kernel_rfl) ⟨?_, trivial⟩
              ·
                refine Sx.anyOp #[true, true, true, true, true, true, false] rfl rfl ?_
                refine Sx.yl (.eql rfl rfl) rfl ?_
                refine Sx.anyStep 6 [] (by kernel_rfl) ⟨?_, trivial⟩
                ·
                  refine Sx.anyOp #[true, true, true, true, true, true, true] rfl rfl ?_
                  refine Sx.yl (.assign rfl) rfl ?_
                  refine Sx.anyEnd (by kernel_rfl) ?_
                  refine Sx.thenN ?_
                  refine Sx.ret ?_
                  first
                    | refine Sx.retN (.inl rfl) rfl (.cons (.cell rfl Fx.agg26 (.head _) (ck_length _)) (.cons (.cell rfl Fx.agg27 (.tail _ (.tail _ (.head _))) (ck_length _)) (.cons (.tmp rfl) .nil))) rfl (fun W s => ⟨rfl, s.ext⟩)
                    | refine Sx.retN (.inl rfl) rfl (.cons (.cell rfl Fx.agg26 (.tail _ (.head _)) (ck_length _)) (.cons (.cell rfl Fx.agg27 (.tail _ (.tail _ (.head _))) (ck_length _)) (.cons (.tmp rfl) .nil))) rfl (fun W s => ⟨rfl, s.ext⟩)
                    | refine Sx.retN (.inl rfl) rfl (.cons (.cell rfl Fx.agg26 (.tail _ (.tail _ (.head _))) (ck_length _)) (.cons (.cell rfl Fx.agg27 (.tail _ (.tail _ (.head _))) (ck_length _)) (.cons (.tmp rfl) .nil))) rfl (fun W s => ⟨rfl, s.ext⟩)
                    | refine Sx.retN (.inl rfl) rfl (.cons (.cell rfl Fx.agg26 (.tail _ (.tail _ (.tail _ (.head _)))) (ck_length _)) (.cons (.cell rfl Fx.agg27 (.tail _ (.tail _ (.head _))) (ck_length _)) (.cons (.tmp rfl) .nil))) rfl (fun W s => ⟨rfl, s.ext⟩)
        ·
          refine Sx.anyOp #[true, false, true, true, false, false, false] rfl rfl ?_
          refine Sx.yl (.eql rfl rfl) rfl ?_
          refine Sx.anyStep 1 [4] (by kernel_rfl) ⟨?_, ?_, trivial⟩
          ·
            refine Sx.anyOp #[true, true, true, true, false, false, false] rfl rfl ?_
            first
              | refine Sx.yl (.loadW rfl Fx.agg27 (.head _) (ck_length _)) rfl ?_
              | refine Sx.yl (.loadW rfl Fx.agg27 (.tail _ (.head _)) (ck_length _)) rfl ?_
              | refine Sx.yl (.loadW rfl Fx.agg27 (.tail _ (.tail _ (.head _))) (ck_length _)) rfl ?_
              | refine Sx.yl (.loadW rfl Fx.agg27 (.tail _ (.tail _ (.tail _ (.head _)))) (ck_length _)) rfl ?_
            refine Sx.anyStep 4 [] (by kernel_rfl) ⟨?_, trivial⟩
            ·
              refine Sx.anyOp #[true, true, true, true, true, false, false] rfl rfl ?_
              first
                | refine Sx.storeW rfl rfl Fx.size26 (ckL_one _) (.head) rfl ?_
                | refine Sx.storeW rfl rfl Fx.size26 (ckL_one _) (.tail (.head)) rfl ?_
                | refine Sx.storeW rfl rfl Fx.size26 (ckL_one _) (.tail (.tail (.head))) rfl ?_
                | refine Sx.storeW rfl rfl Fx.size26 (ckL_one _) (.tail (.tail (.tail (.head)))) rfl ?_
              refine Sx.anyStep 5 [] (by kernel_rfl) ⟨?_, trivial⟩
              ·
                refine Sx.anyOp #[true, true, true, true, true, true, false] rfl rfl ?_
                first
                  | refine Sx.storeW rfl rfl Fx.size27 (ckL_one _) (.head) rfl ?_
                  | refine Sx.storeW rfl rfl Fx.size27 (ckL_one _) (.tail (.head)) rfl ?_
                  | refine Sx.storeW rfl rfl Fx.size27 (ckL_one _) (.tail (.tail (.head))) rfl ?_
                  | refine Sx.storeW rfl rfl Fx.size27 (ckL_one _) (.tail (.tail (.tail (.head)))) rfl ?_
                refine Sx.anyStep 6 [] (by kernel_rfl) ⟨?_, trivial⟩
                ·
                  refine Sx.anyOp #[true, true, true, true, true, true, true] rfl rfl ?_
                  refine Sx.yl (.assign rfl) rfl ?_
                  refine Sx.anyEnd (by kernel_rfl) ?_
                  refine Sx.thenN ?_
                  refine Sx.ret ?_
                  first
                    | refine Sx.retN (.inl rfl) rfl (.cons (.cell rfl Fx.agg26 (.head _) (ck_length _)) (.cons (.cell rfl Fx.agg27 (.tail _ (.tail _ (.head _))) (ck_length _)) (.cons (.tmp rfl) .nil))) rfl (fun W s => ⟨rfl, s.ext⟩)
                    | refine Sx.retN (.inl rfl) rfl (.cons (.cell rfl Fx.agg26 (.tail _ (.head _)) (ck_length _)) (.cons (.cell rfl Fx.agg27 (.tail _ (.tail _ (.head _))) (ck_length _)) (.cons (.tmp rfl) .nil))) rfl (fun W s => ⟨rfl, s.ext⟩)
                    | refine Sx.retN (.inl rfl) rfl (.cons (.cell rfl Fx.agg26 (.tail _ (.tail _ (.head _))) (ck_length _)) (.cons (.cell rfl Fx.agg27 (.tail _ (.tail _ (.head _))) (ck_length _)) (.cons (.tmp rfl) .nil))) rfl (fun W s => ⟨rfl, s.ext⟩)
                    | refine Sx.retN (.inl rfl) rfl (.cons (.cell rfl Fx.agg26 (.tail _ (.tail _ (.tail _ (.head _)))) (ck_length _)) (.cons (.cell rfl Fx.agg27 (.tail _ (.tail _ (.head _))) (ck_length _)) (.cons (.tmp rfl) .nil))) rfl (fun W s => ⟨rfl, s.ext⟩)
          ·
            refine Sx.anyOp #[true, false, true, true, true, false, false] rfl rfl ?_
            first
              | refine Sx.storeW rfl rfl Fx.size26 (ckL_one _) (.head) rfl ?_
              | refine Sx.storeW rfl rfl Fx.size26 (ckL_one _) (.tail (.head)) rfl ?_
              | refine Sx.storeW rfl rfl Fx.size26 (ckL_one _) (.tail (.tail (.head))) rfl ?_
              | refine Sx.storeW rfl rfl Fx.size26 (ckL_one _) (.tail (.tail (.tail (.head)))) rfl ?_
            refine Sx.anyStep 1 [] (by kernel_rfl) ⟨?_, trivial⟩
            ·
              refine Sx.anyOp #[true, true, true, true, true, false, false] rfl rfl ?_
              first
                | refine Sx.yl (.loadW rfl Fx.agg27 (.head _) (ck_length _)) rfl ?_
                | refine Sx.yl (.loadW rfl Fx.agg27 (.tail _ (.head _)) (ck_length _)) rfl ?_
                | refine Sx.yl (.loadW rfl Fx.agg27 (.tail _ (.tail _ (.head _))) (ck_length _)) rfl ?_
                | refine Sx.yl (.loadW rfl Fx.agg27 (.tail _ (.tail _ (.tail _ (.head _)))) (ck_length _)) rfl ?_
              refine Sx.anyStep 5 [] (by kernel_rfl) ⟨?_, trivial⟩
              ·
                refine Sx.anyOp #[true, true, true, true, true, true, false] rfl rfl ?_
                first
                  | refine Sx.storeW rfl rfl Fx.size27 (ckL_one _) (.head) rfl ?_
                  | refine Sx.storeW rfl rfl Fx.size27 (ckL_one _) (.tail (.head)) rfl ?_
                  | refine Sx.storeW rfl rfl Fx.size27 (ckL_one _) (.tail (.tail (.head))) rfl ?_
                  | refine Sx.storeW rfl rfl Fx.size27 (ckL_one _) (.tail (.tail (.tail (.head)))) rfl ?_
                refine Sx.anyStep 6 [] (by kernel_rfl) ⟨?_, trivial⟩
                ·
                  refine Sx.anyOp #[true, true, true, true, true, true, true] rfl rfl ?_
                  refine Sx.yl (.assign rfl) rfl ?_
                  refine Sx.anyEnd (by kernel_rfl) ?_
                  refine Sx.thenN ?_
                  refine Sx.ret ?_
                  first
                    | refine Sx.retN (.inl rfl) rfl (.cons (.cell rfl Fx.agg26 (.head _) (ck_length _)) (.cons (.cell rfl Fx.agg27 (.tail _ (.tail _ (.head _))) (ck_length _)) (.cons (.tmp rfl) .nil))) rfl (fun W s => ⟨rfl, s.ext⟩)
                    | refine Sx.retN (.inl rfl) rfl (.cons (.cell rfl Fx.agg26 (.tail _ (.head _)) (ck_length _)) (.cons (.cell rfl Fx.agg27 (.tail _ (.tail _ (.head _))) (ck_length _)) (.cons (.tmp rfl) .nil))) rfl (fun W s => ⟨rfl, s.ext⟩)
                    | refine Sx.retN (.inl rfl) rfl (.cons (.cell rfl Fx.agg26 (.tail _ (.tail _ (.head _))) (ck_length _)) (.cons (.cell rfl Fx.agg27 (.tail _ (.tail _ (.head _))) (ck_length _)) (.cons (.tmp rfl) .nil))) rfl (fun W s => ⟨rfl, s.ext⟩)
                    | refine Sx.retN (.inl rfl) rfl (.cons (.cell rfl Fx.agg26 (.tail _ (.tail _ (.tail _ (.head _)))) (ck_length _)) (.cons (.cell rfl Fx.agg27 (.tail _ (.tail _ (.head _))) (ck_length _)) (.cons (.tmp rfl) .nil))) rfl (fun W s => ⟨rfl, s.ext⟩)
        ·
          refine Sx.anyOp #[true, false, true, false, true, false, false] rfl rfl ?_
          first
            | refine Sx.storeW rfl rfl Fx.size26 (ckL_one _) (.head) rfl ?_
            | refine Sx.storeW rfl rfl Fx.size26 (ckL_one _) (.tail (.head)) rfl ?_
            | refine Sx.storeW rfl rfl Fx.size26 (ckL_one _) (.tail (.tail (.head))) rfl ?_
            | refine Sx.storeW rfl rfl Fx.size26 (ckL_one _) (.tail (.tail (.tail (.head)))) rfl ?_
          refine Sx.anyStep 1 [3] (by kernel_rfl) ⟨?_, ?_, trivial⟩
          ·
            refine Sx.anyOp #[true, true, true, false, true, false, false] rfl rfl ?_
            first
              | refine Sx.yl (.loadW rfl Fx.agg27 (.head _) (ck_length _)) rfl ?_
              | refine Sx.yl (.loadW rfl Fx.agg27 (.tail _ (.head _)) (ck_length _)) rfl ?_
              | refine Sx.yl (.loadW rfl Fx.agg27 (.tail _ (.tail _ (.head _))) (ck_length _)) rfl ?_
              | refine Sx.yl (.loadW rfl Fx.agg27 (.tail _ (.tail _ (.tail _ (.head _)))) (ck_length _)) rfl ?_
            refine Sx.anyStep 3 [5] (by kernel_rfl) ⟨?_, ?_, trivial⟩
            ·
              refine Sx.anyOp #[true, true, true, true, true, false, false] rfl rfl ?_
              refine Sx.yl (.eql rfl rfl) rfl ?_
              refine Sx.anyStep 5 [] (by kernel_rfl) ⟨?_, trivial⟩
              ·
                refine Sx.anyOp #[true, true, true, true, true, true, false] rfl rfl ?_
                first
                  | refine Sx.storeW rfl rfl Fx.size27 (ckL_one _) (.head) rfl ?_
                  | refine Sx.storeW rfl rfl Fx.size27 (ckL_one _) (.tail (.head)) rfl ?_
                  | refine Sx.storeW rfl rfl Fx.size27 (ckL_one _) (.tail (.tail (.head))) rfl ?_
                  | refine Sx.storeW rfl rfl Fx.size27 (ckL_one _) (.tail (.tail (.tail (.head)))) rfl ?_
                refine Sx.anyStep 6 [] (by kernel_rfl) ⟨?_, trivial⟩
                ·
                  refine Sx.anyOp #[true, true, true, true, true, true, true] rfl rfl ?_
                  refine Sx.yl (.assign rfl) rfl ?_
                  refine Sx.anyEnd (by kernel_rfl) ?_
                  refine Sx.thenN ?_
                  refine Sx.ret ?_
                  first
                    | refine Sx.retN (.inl rfl) rfl (.cons (.cell rfl Fx.agg26 (.head _) (ck_length _)) (.cons (.cell rfl Fx.agg27 (.tail _ (.tail _ (.head _))) (ck_length _)) (.cons (.tmp rfl) .nil))) rfl (fun W s => ⟨rfl, s.ext⟩)
                    | refine Sx.retN (.inl rfl) rfl (.cons (.cell rfl Fx.agg26 (.tail _ (.head _)) (ck_length _)) (.cons (.cell rfl Fx.agg27 (.tail _ (.tail _ (.head _))) (ck_length _)) (.cons (.tmp rfl) .nil))) rfl (fun W s => ⟨rfl, s.ext⟩)
                    | refine Sx.retN (.inl rfl) rfl (.cons (.cell rfl Fx.agg26 (.tail _ (.tail _ (.head _))) (ck_length _)) (.cons (.cell rfl Fx.agg27 (.tail _ (.tail _ (.head _))) (ck_length _)) (.cons (.tmp rfl) .nil))) rfl (fun W s => ⟨rfl, s.ext⟩)
                    | refine Sx.retN (.inl rfl) rfl (.cons (.cell rfl Fx.agg26 (.tail _ (.tail _ (.tail _ (.head _)))) (ck_length _)) (.cons (.cell rfl Fx.agg27 (.tail _ (.tail _ (.head _))) (ck_length _)) (.cons (.tmp rfl) .nil))) rfl (fun W s => ⟨rfl, s.ext⟩)
            ·
              refine Sx.anyOp #[true, true, true, false, true, true, false] rfl rfl ?_
              first
                | refine Sx.storeW rfl rfl Fx.size27 (ckL_one _) (.head) rfl ?_
                | refine Sx.storeW rfl rfl Fx.size27 (ckL_one _) (.tail (.head)) rfl ?_
                | refine Sx.storeW rfl rfl Fx.size27 (ckL_one _) (.tail (.tail (.head))) rfl ?_
                | refine Sx.storeW rfl rfl Fx.size27 (ckL_one _) (.tail (.tail (.tail (.head)))) rfl ?_
              refine Sx.anyStep 3 [] (by kernel_rfl) ⟨?_, trivial⟩
              ·
                refine Sx.anyOp #[true, true, true, true, true, true, false] rfl rfl ?_
                refine Sx.yl (.eql rfl rfl) rfl ?_
                refine Sx.anyStep 6 [] (by kernel_rfl) ⟨?_, trivial⟩
                ·
                  refine Sx.anyOp #[true, true, true, true, true, true, true] rfl rfl ?_
                  refine Sx.yl (.assign rfl) rfl ?_
                  refine Sx.anyEnd (by kernel_rfl) ?_
                  refine Sx.thenN ?_
                  refine Sx.ret ?_
                  first
                    | refine Sx.retN (.inl rfl) rfl (.cons (.cell rfl Fx.agg26 (.head _) (ck_length _)) (.cons (.cell rfl Fx.agg27 (.tail _ (.tail _ (.head _))) (ck_length _)) (.cons (.tmp rfl) .nil))) rfl (fun W s => ⟨rfl, s.ext⟩)
                    | refine Sx.retN (.inl rfl) rfl (.cons (.cell rfl Fx.agg26 (.tail _ (.head _)) (ck_length _)) (.cons (.cell rfl Fx.agg27 (.tail _ (.tail _ (.head _))) (ck_length _)) (.cons (.tmp rfl) .nil))) rfl (fun W s => ⟨rfl, s.ext⟩)
                    | refine Sx.retN (.inl rfl) rfl (.cons (.cell rfl Fx.agg26 (.tail _ (.tail _ (.head _))) (ck_length _)) (.cons (.cell rfl Fx.agg27 (.tail _ (.tail _ (.head _))) (ck_length _)) (.cons (.tmp rfl) .nil))) rfl (fun W s => ⟨rfl, s.ext⟩)
                    | refine Sx.retN (.inl rfl) rfl (.cons (.cell rfl Fx.agg26 (.tail _ (.tail _ (.tail _ (.head _)))) (ck_length _)) (.cons (.cell rfl Fx.agg27 (.tail _ (.tail _ (.head _))) (ck_length _)) (.cons (.tmp rfl) .nil))) rfl (fun W s => ⟨rfl, s.ext⟩)
          ·
            refine Sx.anyOp #[true, false, true, true, true, false, false] rfl rfl ?_
            refine Sx.yl (.eql rfl rfl) rfl ?_
            refine Sx.anyStep 1 [] (by kernel_rfl) ⟨?_, trivial⟩
            ·
              refine Sx.anyOp #[true, true, true, true, true, false, false] rfl rfl ?_
              first
                | refine Sx.yl (.loadW rfl Fx.agg27 (.head _) (ck_length _)) rfl ?_
                | refine Sx.yl (.loadW rfl Fx.agg27 (.tail _ (.head _)) (ck_length _)) rfl ?_
                | refine Sx.yl (.loadW rfl Fx.agg27 (.tail _ (.tail _ (.head _))) (ck_length _)) rfl ?_
                | refine Sx.yl (.loadW rfl Fx.agg27 (.tail _ (.tail _ (.tail _ (.head _)))) (ck_length _)) rfl ?_
              refine Sx.anyStep 5 [] (by kernel_rfl) ⟨?_, trivial⟩
              ·
                refine Sx.anyOp #[true, true, true, true, true, true, false] rfl rfl ?_
                first
                  | refine Sx.storeW rfl rfl Fx.size27 (ckL_one _) (.head) rfl ?_
                  | refine Sx.storeW rfl rfl Fx.size27 (ckL_one _) (.tail (.head)) rfl ?_
                  | refine Sx.storeW rfl rfl Fx.size27 (ckL_one _) (.tail (.tail (.head))) rfl ?_
                  | refine Sx.storeW rfl rfl Fx.size27 (ckL_one _) (.tail (.tail (.tail (.head)))) rfl ?_
                refine Sx.anyStep 6 [] (by kernel_rfl) ⟨?_, trivial⟩
                ·
                  refine Sx.anyOp #[true, true, true, true, true, true, true] rfl rfl ?_
                  refine Sx.yl (.assign rfl) rfl ?_
                  refine Sx.anyEnd (by kernel_rfl) ?_
                  refine Sx.thenN ?_
                  refine Sx.ret ?_
                  first
                    | refine Sx.retN (.inl rfl) rfl (.cons (.cell rfl Fx.agg26 (.head _) (ck_length _)) (.cons (.cell rfl Fx.agg27 (.tail _ (.tail _ (.head _))) (ck_length _)) (.cons (.tmp rfl) .nil))) rfl (fun W s => ⟨rfl, s.ext⟩)
                    | refine Sx.retN (.inl rfl) rfl (.cons (.cell rfl Fx.agg26 (.tail _ (.head _)) (ck_length _)) (.cons (.cell rfl Fx.agg27 (.tail _ (.tail _ (.head _))) (ck_length _)) (.cons (.tmp rfl) .nil))) rfl (fun W s => ⟨rfl, s.ext⟩)
                    | refine Sx.retN (.inl rfl) rfl (.cons (.cell rfl Fx.agg26 (.tail _ (.tail _ (.head _))) (ck_length _)) (.cons (.cell rfl Fx.agg27 (.tail _ (.tail _ (.head _))) (ck_length _)) (.cons (.tmp rfl) .nil))) rfl (fun W s => ⟨rfl, s.ext⟩)
                    | refine Sx.retN (.inl rfl) rfl (.cons (.cell rfl Fx.agg26 (.tail _ (.tail _ (.tail _ (.head _)))) (ck_length _)) (.cons (.cell rfl Fx.agg27 (.tail _ (.tail _ (.head _))) (ck_length _)) (.cons (.tmp rfl) .nil))) rfl (fun W s => ⟨rfl, s.ext⟩)
      ·
        refine Sx.anyOp #[false, true, true, false, false, false, false] rfl rfl ?_
        first
          | refine Sx.yl (.loadW rfl Fx.agg27 (.head _) (ck_length _)) rfl ?_
          | refine Sx.yl (.loadW rfl Fx.agg27 (.tail _ (.head _)) (ck_length _)) rfl ?_
          | refine Sx.yl (.loadW rfl Fx.agg27 (.tail _ (.tail _ (.head _))) (ck_length _)) rfl ?_
          | refine Sx.yl (.loadW rfl Fx.agg27 (.tail _ (.tail _ (.tail _ (.head _)))) (ck_length _)) rfl ?_
        refine Sx.anyStep 0 [3] (by kernel_rfl) ⟨?_, ?_, trivial⟩
        ·
          refine Sx.anyOp #[true, true, true, false, false, false, false] rfl rfl ?_
          first
            | refine Sx.yl (.loadW rfl Fx.agg26 (.head _) (ck_length _)) rfl ?_
            | refine Sx.yl (.loadW rfl Fx.agg26 (.tail _ (.head _)) (ck_length _)) rfl ?_
            | refine Sx.yl (.loadW rfl Fx.agg26 (.tail _ (.tail _ (.head _))) (ck_length _)) rfl ?_
            | refine Sx.yl (.loadW rfl Fx.agg26 (.tail _ (.tail _ (.tail _ (.head _)))) (ck_length _)) rfl ?_
          refine Sx.anyStep 3 [4] (by kernel_rfl) ⟨?_, ?_, trivial⟩
          ·
            refine Sx.anyOp #[true, true, true, true, false, false, false] rfl rfl ?_
            refine Sx.yl (.eql rfl rfl) rfl ?_
            refine Sx.anyStep 4 [] (by kernel_rfl) ⟨?_, trivial⟩
            ·
              refine Sx.anyOp #[true, true, true, true, true, false, false] rfl rfl ?_
              first
                | refine Sx.storeW rfl rfl Fx.size26 (ckL_one _) (.head) rfl ?_
                | refine Sx.storeW rfl rfl Fx.size26 (ckL_one _) (.tail (.head)) rfl ?_
                | refine Sx.storeW rfl rfl Fx.size26 (ckL_one _) (.tail (.tail (.head))) rfl ?_
                | refine Sx.storeW rfl rfl Fx.size26 (ckL_one _) (.tail (.tail (.tail (.head)))) rfl ?_
              refine Sx.anyStep 5 [] (by kernel_rfl) ⟨?_, trivial⟩
              ·
                refine Sx.anyOp #[true, true, true, true, true, true, false] rfl rfl ?_
                first
                  | refine Sx.storeW rfl rfl Fx.size27 (ckL_one _) (.head) rfl ?_
                  | refine Sx.storeW rfl rfl Fx.size27 (ckL_one _) (.tail (.head)) rfl ?_
                  | refine Sx.storeW rfl rfl Fx.size27 (ckL_one _) (.tail (.tail (.head))) rfl ?_
                  | refine Sx.storeW rfl rfl Fx.size27 (ckL_one _) (.tail (.tail (.tail (.head)))) rfl ?_
                refine Sx.anyStep 6 [] (by kernel_rfl) ⟨?_, trivial⟩
                ·
                  refine Sx.anyOp #[true, true, true, true, true, true, true] rfl rfl ?_
                  refine Sx.yl (.assign rfl) rfl ?_
                  refine Sx.anyEnd (by kernel_rfl) ?_
                  refine Sx.thenN ?_
                  refine Sx.ret ?_
                  first
                    | refine Sx.retN (.inl rfl) rfl (.cons (.cell rfl Fx.agg26 (.head _) (ck_length _)) (.cons (.cell rfl Fx.agg27 (.tail _ (.tail _ (.head _))) (ck_length _)) (.cons (.tmp rfl) .nil))) rfl (fun W s => ⟨rfl, s.ext⟩)
                    | refine Sx.retN (.inl rfl) rfl (.cons (.cell rfl Fx.agg26 (.tail _ (.head _)) (ck_length _)) (.cons (.cell rfl Fx.agg27 (.tail _ (.tail _ (.head _))) (ck_length _)) (.cons (.tmp rfl) .nil))) rfl (fun W s => ⟨rfl, s.ext⟩)
                    | refine Sx.retN (.inl rfl) rfl (.cons (.cell rfl Fx.agg26 (.tail _ (.tail _ (.head _))) (ck_length _)) (.cons (.cell rfl Fx.agg27 (.tail _ (.tail _ (.head _))) (ck_length _)) (.cons (.tmp rfl) .nil))) rfl (fun W s => ⟨rfl, s.ext⟩)
                    | refine Sx.retN (.inl rfl) rfl (.cons (.cell rfl Fx.agg26 (.tail _ (.tail _ (.tail _ (.head _)))) (ck_length _)) (.cons (.cell rfl Fx.agg27 (.tail _ (.tail _ (.head _))) (ck_length _)) (.cons (.tmp rfl) .nil))) rfl (fun W s => ⟨rfl, s.ext⟩)
          ·
            refine Sx.anyOp #[true, true, true, false, true, false, false] rfl rfl ?_
            first
              | refine Sx.storeW rfl rfl Fx.size26 (ckL_one _) (.head) rfl ?_
              | refine Sx.storeW rfl rfl Fx.size26 (ckL_one _) (.tail (.head)) rfl ?_
              | refine Sx.storeW rfl rfl Fx.size26 (ckL_one _) (.tail (.tail (.head))) rfl ?_
              | refine Sx.storeW rfl rfl Fx.size26 (ckL_one _) (.tail (.tail (.tail (.head)))) rfl ?_
            refine Sx.anyStep 3 [5] (by kernel_rfl) ⟨?_, ?_, trivial⟩
            ·
              refine Sx.anyOp #[true, true, true, true, true, false, false] rfl rfl ?_
              refine Sx.yl (.eql rfl rfl) rfl ?_
              refine Sx.anyStep 5 [] (by kernel_rfl) ⟨?_, trivial⟩
              ·
                refine Sx.anyOp #[true, true, true, true, true, true, false] rfl rfl ?_
                first
                  | refine Sx.storeW rfl rfl Fx.size27 (ckL_one _) (.head) rfl ?_
                  | refine Sx.storeW rfl rfl Fx.size27 (ckL_one _) (.tail (.head)) rfl ?_
                  | refine Sx.storeW rfl rfl Fx.size27 (ckL_one _) (.tail (.tail (.head))) rfl ?_
                  | refine Sx.storeW rfl rfl Fx.size27 (ckL_one _) (.tail (.tail (.tail (.head)))) rfl ?_
                refine Sx.anyStep 6 [] (by kernel_rfl) ⟨?_, trivial⟩
                ·
                  refine Sx.anyOp #[true, true, true, true, true, true, true] rfl rfl ?_
                  refine Sx.yl (.assign rfl) rfl ?_
                  refine Sx.anyEnd (by kernel_rfl) ?_
                  refine Sx.thenN ?_
                  refine Sx.ret ?_
                  first
                    | refine Sx.retN (.inl rfl) rfl (.cons (.cell rfl Fx.agg26 (.head _) (ck_length _)) (.cons (.cell rfl Fx.agg27 (.tail _ (.tail _ (.head _))) (ck_length _)) (.cons (.tmp rfl) .nil))) rfl (fun W s => ⟨rfl, s.ext⟩)
                    | refine Sx.retN (.inl rfl) rfl (.cons (.cell rfl Fx.agg26 (.tail _ (.head _)) (ck_length _)) (.cons (.cell rfl Fx.agg27 (.tail _ (.tail _ (.head _))) (ck_length _)) (.cons (.tmp rfl) .nil))) rfl (fun W s => ⟨rfl, s.ext⟩)
                    | refine Sx.retN (.inl rfl) rfl (.cons (.cell rfl Fx.agg26 (.tail _ (.tail _ (.head _))) (ck_length _)) (.cons (.cell rfl Fx.agg27 (.tail _ (.tail _ (.head _))) (ck_length _)) (.cons (.tmp rfl) .nil))) rfl (fun W s => ⟨rfl, s.ext⟩)
                    | refine Sx.retN (.inl rfl) rfl (.cons (.cell rfl Fx.agg26 (.tail _ (.tail _ (.tail _ (.head _)))) (ck_length _)) (.cons (.cell rfl Fx.agg27 (.tail _ (.tail _ (.head _))) (ck_length _)) (.cons (.tmp rfl) .nil))) rfl (fun W s => ⟨rfl, s.ext⟩)
            ·
              refine Sx.anyOp #[true, true, true, false, true, true, false] rfl rfl ?_
              first
                | refine Sx.storeW rfl rfl Fx.size27 (ckL_one _) (.head) rfl ?_
                | refine Sx.storeW rfl rfl Fx.size27 (ckL_one _) (.tail (.head)) rfl ?_
                | refine Sx.storeW rfl rfl Fx.size27 (ckL_one _) (.tail (.tail (.head))) rfl ?_
                | refine Sx.storeW rfl rfl Fx.size27 (ckL_one _) (.tail (.tail (.tail (.head)))) rfl ?_
              refine Sx.anyStep 3 [] (by kernel_rfl) ⟨?_, trivial⟩
              ·
                refine Sx.anyOp #[true, true, true, true, true, true, false] rfl rfl ?_
                refine Sx.yl (.eql rfl rfl) rfl ?_
                refine Sx.anyStep 6 [] (by kernel_rfl) ⟨?_, trivial⟩
                ·
                  refine Sx.anyOp #[true, true, true, true, true, true, true] rfl rfl ?_
                  refine Sx.yl (.assign rfl) rfl ?_
                  refine Sx.anyEnd (by kernel_rfl) ?_
                  refine Sx.thenN ?_
                  refine Sx.ret ?_
                  first
                    | refine Sx.retN (.inl rfl) rfl (.cons (.cell rfl Fx.agg26 (.head _) (ck_length _)) (.cons (.cell rfl Fx.agg27 (.tail _ (.tail _ (.head _))) (ck_length _)) (.cons (.tmp rfl) .nil))) rfl (fun W s => ⟨rfl, s.ext⟩)
                    | refine Sx.retN (.inl rfl) rfl (.cons (.cell rfl Fx.agg26 (.tail _ (.head _)) (ck_length _)) (.cons (.cell rfl Fx.agg27 (.tail _ (.tail _ (.head _))) (ck_length _)) (.cons (.tmp rfl) .nil))) rfl (fun W s => ⟨rfl, s.ext⟩)
                    | refine Sx.retN (.inl rfl) rfl (.cons (.cell rfl Fx.agg26 (.tail _ (.tail _ (.head _))) (ck_length _)) (.cons (.cell rfl Fx.agg27 (.tail _ (.tail _ (.head _))) (ck_length _)) (.cons (.tmp rfl) .nil))) rfl (fun W s => ⟨rfl, s.ext⟩)
                    | refine Sx.retN (.inl rfl) rfl (.cons (.cell rfl Fx.agg26 (.tail _ (.tail _ (.tail _ (.head _)))) (ck_length _)) (.cons (.cell rfl Fx.agg27 (.tail _ (.tail _ (.head _))) (ck_length _)) (.cons (.tmp rfl) .nil))) rfl (fun W s => ⟨rfl, s.ext⟩)
        ·
          refine Sx.anyOp #[false, true, true, true, false, false, false] rfl rfl ?_
          refine Sx.yl (.eql rfl rfl) rfl ?_
          refine Sx.anyStep 0 [] (by kernel_rfl) ⟨?_, trivial⟩
          ·
            refine Sx.anyOp #[true, true, true, true, false, false, false] rfl rfl ?_
            first
              | refine Sx.yl (.loadW rfl Fx.agg26 (.head _) (ck_length _)) rfl ?_
              | refine Sx.yl (.loadW rfl Fx.agg26 (.tail _ (.head _)) (ck_length _)) rfl ?_
              | refine Sx.yl (.loadW rfl Fx.agg26 (.tail _ (.tail _ (.head _))) (ck_length _)) rfl ?_
              | refine Sx.yl (.loadW rfl Fx.agg26 (.tail _ (.tail _ (.tail _ (.head _)))) (ck_length _)) rfl ?_
            refine Sx.anyStep 4 [] (by kernel_rfl) ⟨?_, trivial⟩
            ·
              refine Sx.anyOp #[true, true, true, true, true, false, false] rfl rfl ?_
              first
                | refine Sx.storeW rfl rfl Fx.size26 (ckL_one _) (.head) rfl ?_
                | refine Sx.storeW rfl rfl Fx.size26 (ckL_one _) (.tail (.head)) rfl ?_
                | refine Sx.storeW rfl rfl Fx.size26 (ckL_one _) (.tail (.tail (.head))) rfl ?_
                | refine Sx.storeW rfl rfl Fx.size26 (ckL_one _) (.tail (.tail (.tail (.head)))) rfl ?_
              refine Sx.anyStep 5 [] (by kernel_rfl) ⟨?_, trivial⟩
              ·
                refine Sx.anyOp #[true, true, true, true, true, true, false] rfl rfl ?_
                first
                  | refine Sx.storeW rfl rfl Fx.size27 (ckL_one _) (.head) rfl ?_
                  | refine Sx.storeW rfl rfl Fx.size27 (ckL_one _) (.tail (.head)) rfl ?_
                  | refine Sx.storeW rfl rfl Fx.size27 (ckL_one _) (.tail (.tail (.head))) rfl ?_
                  | refine Sx.storeW rfl rfl Fx.size27 (ckL_one _) (.tail (.tail (.tail (.head)))) rfl ?_
                refine Sx.anyStep 6 [] (by kernel_rfl) ⟨?_, trivial⟩
                ·
                  refine Sx.anyOp #[true, true, true, true, true, true, true] rfl rfl ?_
                  refine Sx.yl (.assign rfl) rfl ?_
                  refine Sx.anyEnd (by kernel_rfl) ?_
                  refine Sx.thenN ?_
                  refine Sx.ret ?_
                  first
                    | refine Sx.retN (.inl rfl) rfl (.cons (.cell rfl Fx.agg26 (.head _) (ck_length _)) (.cons (.cell rfl Fx.agg27 (.tail _ (.tail _ (.head _))) (ck_length _)) (.cons (.tmp rfl) .nil))) rfl (fun W s => ⟨rfl, s.ext⟩)
                    | refine Sx.retN (.inl rfl) rfl (.cons (.cell rfl Fx.agg26 (.tail _ (.head _)) (ck_length _)) (.cons (.cell rfl Fx.agg27 (.tail _ (.tail _ (.head _))) (ck_length _)) (.cons (.tmp rfl) .nil))) rfl (fun W s => ⟨rfl, s.ext⟩)
                    | refine Sx.retN (.inl rfl) rfl (.cons (.cell rfl Fx.agg26 (.tail _ (.tail _ (.head _))) (ck_length _)) (.cons (.cell rfl Fx.agg27 (.tail _ (.tail _ (.head _))) (ck_length _)) (.cons (.tmp rfl) .nil))) rfl (fun W s => ⟨rfl, s.ext⟩)
                    | refine Sx.retN (.inl rfl) rfl (.cons (.cell rfl Fx.agg26 (.tail _ (.tail _ (.tail _ (.head _)))) (ck_length _)) (.cons (.cell rfl Fx.agg27 (.tail _ (.tail _ (.head _))) (ck_length _)) (.cons (.tmp rfl) .nil))) rfl (fun W s => ⟨rfl, s.ext⟩)
      ·
        refine Sx.anyOp #[false, false, true, true, false, false, false] rfl rfl ?_
        refine Sx.yl (.eql rfl rfl) rfl ?_
        refine Sx.anyStep 0 [1] (by kernel_rfl) ⟨?_, ?_, trivial⟩
        ·
          refine Sx.anyOp #[true, false, true, true, false, false, false] rfl rfl ?_
          first
            | refine Sx.yl (.loadW rfl Fx.agg26 (.head _) (ck_length _)) rfl ?_
            | refine Sx.yl (.loadW rfl Fx.agg26 (.tail _ (.head _)) (ck_length _)) rfl ?_
            | refine Sx.yl (.loadW rfl Fx.agg26 (.tail _ (.tail _ (.head _))) (ck_length _)) rfl ?_
            | refine Sx.yl (.loadW rfl Fx.agg26 (.tail _ (.tail _ (.tail _ (.head _)))) (ck_length _)) rfl ?_
          refine Sx.anyStep 1 [4] (by kernel_rfl) ⟨?_, ?_, trivial⟩
          ·
            refine Sx.anyOp #[true, true, true, true, false, false, false] rfl rfl ?_
            first
              | refine Sx.yl (.loadW rfl Fx.agg27 (.head _) (ck_length _)) rfl ?_
              | refine Sx.yl (.loadW rfl Fx.agg27 (.tail _ (.head _)) (ck_length _)) rfl ?_
              | refine Sx.yl (.loadW rfl Fx.agg27 (.tail _ (.tail _ (.head _))) (ck_length _)) rfl ?_
              | refine Sx.yl (.loadW rfl Fx.agg27 (.tail _ (.tail _ (.tail _ (.head _)))) (ck_length _)) rfl ?_
            refine Sx.anyStep 4 [] (by kernel_rfl) ⟨?_, trivial⟩
            ·
              refine Sx.anyOp #[true, true, true, true, true, false, false] rfl rfl ?_
              first
                | refine Sx.storeW rfl rfl Fx.size26 (ckL_one _) (.head) rfl ?_
                | refine Sx.storeW rfl rfl Fx.size26 (ckL_one _) (.tail (.head)) rfl ?_
                | refine Sx.storeW rfl rfl Fx.size26 (ckL_one _) (.tail (.tail (.head))) rfl ?_
                | refine Sx.storeW rfl rfl Fx.size26 (ckL_one _) (.tail (.tail (.tail (.head)))) rfl ?_
              refine Sx.anyStep 5 [] (by kernel_rfl) ⟨?_, trivial⟩
              ·
                refine Sx.anyOp #[true, true, true, true, true, true, false] rfl rfl ?_
                first
                  | refine Sx.storeW rfl rfl Fx.size27 (ckL_one _) (.head) rfl ?_
                  | refine Sx.storeW rfl rfl Fx.size27 (ckL_one _) (.tail (.head)) rfl ?_
                  | refine Sx.storeW rfl rfl Fx.size27 (ckL_one _) (.tail (.tail (.head))) rfl ?_
                  | refine Sx.storeW rfl rfl Fx.size27 (ckL_one _) (.tail (.tail (.tail (.head)))) rfl ?_
                refine Sx.anyStep 6 [] (by kernel_rfl) ⟨?_, trivial⟩
                ·
                  refine Sx.anyOp #[true, true, true, true, true, true, true] rfl rfl ?_
                  refine Sx.yl (.assign rfl) rfl ?_
                  refine Sx.anyEnd (by kernel_rfl) ?_
                  refine Sx.thenN ?_
                  refine Sx.ret ?_
                  first
                    | refine Sx.retN (.inl rfl) rfl (.cons (.cell rfl Fx.agg26 (.head _) (ck_length _)) (.cons (.cell rfl Fx.agg27 (.tail _ (.tail _ (.head _))) (ck_length _)) (.cons (.tmp rfl) .nil))) rfl (fun W s => ⟨rfl, s.ext⟩)
                    | refine Sx.retN (.inl rfl) rfl (.cons (.cell rfl Fx.agg26 (.tail _ (.head _)) (ck_length _)) (.cons (.cell rfl Fx.agg27 (.tail _ (.tail _ (.head _))) (ck_length _)) (.cons (.tmp rfl) .nil))) rfl (fun W s => ⟨rfl, s.ext⟩)
                    | refine Sx.retN (.inl rfl) rfl (.cons (.cell rfl Fx.agg26 (.tail _ (.tail _ (.head _))) (ck_length _)) (.cons (.cell rfl Fx.agg27 (.tail _ (.tail _ (.head _))) (ck_length _)) (.cons (.tmp rfl) .nil))) rfl (fun W s => ⟨rfl, s.ext⟩)
                    | refine Sx.retN (.inl rfl) rfl (.cons (.cell rfl Fx.agg26 (.tail _ (.tail _ (.tail _ (.head _)))) (ck_length _)) (.cons (.cell rfl Fx.agg27 (.tail _ (.tail _ (.head _))) (ck_length _)) (.cons (.tmp rfl) .nil))) rfl (fun W s => ⟨rfl, s.ext⟩)
          ·
            refine Sx.anyOp #[true, false, true, true, true, false, false] rfl rfl ?_
            first
              | refine Sx.storeW rfl rfl Fx.size26 (ckL_one _) (.head) rfl ?_
              | refine Sx.storeW rfl rfl Fx.size26 (ckL_one _) (.tail (.head)) rfl ?_
              | refine Sx.storeW rfl rfl Fx.size26 (ckL_one _) (.tail (.tail (.head))) rfl ?_
              | refine Sx.storeW rfl rfl Fx.size26 (ckL_one _) (.tail (.tail (.tail (.head)))) rfl ?_
            refine Sx.anyStep 1 [] (by kernel_rfl) ⟨?_, trivial⟩
            ·
              refine Sx.anyOp #[true, true, true, true, true, false, false] rfl rfl ?_
              first
                | refine Sx.yl (.loadW rfl Fx.agg27 (.head _) (ck_length _)) rfl ?_
                | refine Sx.yl (.loadW rfl Fx.agg27 (.tail _ (.head _)) (ck_length _)) rfl ?_
                | refine Sx.yl (.loadW rfl Fx.agg27 (.tail _ (.tail _ (.head _))) (ck_length _)) rfl ?_
                | refine Sx.yl (.loadW rfl Fx.agg27 (.tail _ (.tail _ (.tail _ (.head _)))) (ck_length _)) rfl ?_
              refine Sx.anyStep 5 [] (by kernel_rfl) ⟨?_, trivial⟩
              ·
                refine Sx.anyOp #[true, true, true, true, true, true, false] rfl rfl ?_
                first
                  | refine Sx.storeW rfl rfl Fx.size27 (ckL_one _) (.head) rfl ?_
                  | refine Sx.storeW rfl rfl Fx.size27 (ckL_one _) (.tail (.head)) rfl ?_
                  | refine Sx.storeW rfl rfl Fx.size27 (ckL_one _) (.tail (.tail (.head))) rfl ?_
                  | refine Sx.storeW rfl rfl Fx.size27 (ckL_one _) (.tail (.tail (.tail (.head)))) rfl ?_
                refine Sx.anyStep 6 [] (by kernel_rfl) ⟨?_, trivial⟩
                ·
                  refine Sx.anyOp #[true, true, true, true, true, true, true] rfl rfl ?_
                  refine Sx.yl (.assign rfl) rfl ?_
                  refine Sx.anyEnd (by kernel_rfl) ?_
                  refine Sx.thenN ?_
                  refine Sx.ret ?_
                  first
                    | refine Sx.retN (.inl rfl) rfl (.cons (.cell rfl Fx.agg26 (.head _) (ck_length _)) (.cons (.cell rfl Fx.agg27 (.tail _ (.tail _ (.head _))) (ck_length _)) (.cons (.tmp rfl) .nil))) rfl (fun W s => ⟨rfl, s.ext⟩)
                    | refine Sx.retN (.inl rfl) rfl (.cons (.cell rfl Fx.agg26 (.tail _ (.head _)) (ck_length _)) (.cons (.cell rfl Fx.agg27 (.tail _ (.tail _ (.head _))) (ck_length _)) (.cons (.tmp rfl) .nil))) rfl (fun W s => ⟨rfl, s.ext⟩)
                    | refine Sx.retN (.inl rfl) rfl (.cons (.cell rfl Fx.agg26 (.tail _ (.tail _ (.head _))) (ck_length _)) (.cons (.cell rfl Fx.agg27 (.tail _ (.tail _ (.head _))) (ck_length _)) (.cons (.tmp rfl) .nil))) rfl (fun W s => ⟨rfl, s.ext⟩)
                    | refine Sx.retN (.inl rfl) rfl (.cons (.cell rfl Fx.agg26 (.tail _ (.tail _ (.tail _ (.head _)))) (ck_length _)) (.cons (.cell rfl Fx.agg27 (.tail _ (.tail _ (.head _))) (ck_length _)) (.cons (.tmp rfl) .nil))) rfl (fun W s => ⟨rfl, s.ext⟩)
        ·
          refine Sx.anyOp #[false, true, true, true, false, false, false] rfl rfl ?_
          first
            | refine Sx.yl (.loadW rfl Fx.agg27 (.head _) (ck_length _)) rfl ?_
            | refine Sx.yl (.loadW rfl Fx.agg27 (.tail _ (.head _)) (ck_length _)) rfl ?_
            | refine Sx.yl (.loadW rfl Fx.agg27 (.tail _ (.tail _ (.head _))) (ck_length _)) rfl ?_
            | refine Sx.yl (.loadW rfl Fx.agg27 (.tail _ (.tail _ (.tail _ (.head _)))) (ck_length _)) rfl ?_
          refine Sx.anyStep 0 [] (by kernel_rfl) ⟨?_, trivial⟩
          ·
            refine Sx.anyOp #[true, true, true, true, false, false, false] rfl rfl ?_
            first
              | refine Sx.yl (.loadW rfl Fx.agg26 (.head _) (ck_length _)) rfl ?_
              | refine Sx.yl (.loadW rfl Fx.agg26 (.tail _ (.head _)) (ck_length _)) rfl ?_
              | refine Sx.yl (.loadW rfl Fx.agg26 (.tail _ (.tail _ (.head _))) (ck_length _)) rfl ?_
              | refine Sx.yl (.loadW rfl Fx.agg26 (.tail _ (.tail _ (.tail _ (.head _)))) (ck_length _)) rfl ?_
            refine Sx.anyStep 4 [] (by kernel_rfl) ⟨?_, trivial⟩
            ·
              refine Sx.anyOp #[true, true, true, true, true, false, false] rfl rfl ?_
              first
                | refine Sx.storeW rfl rfl Fx.size26 (ckL_one _) (.head) rfl ?_
                | refine Sx.storeW rfl rfl Fx.size26 (ckL_one _) (.tail (.head)) rfl ?_
                | refine Sx.storeW rfl rfl Fx.size26 (ckL_one _) (.tail (.tail (.head))) rfl ?_
                | refine Sx.storeW rfl rfl Fx.size26 (ckL_one _) (.tail (.tail (.tail (.head)))) rfl ?_
              refine Sx.anyStep 5 [] (by kernel_rfl) ⟨?_, trivial⟩
              ·
                refine Sx.anyOp #[true, true, true, true, true, true, false] rfl rfl ?_
                first
                  | refine Sx.storeW rfl rfl Fx.size27 (ckL_one _) (.head) rfl ?_
                  | refine Sx.storeW rfl rfl Fx.size27 (ckL_one _) (.tail (.head)) rfl ?_
                  | refine Sx.storeW rfl rfl Fx.size27 (ckL_one _) (.tail (.tail (.head))) rfl ?_
                  | refine Sx.storeW rfl rfl Fx.size27 (ckL_one _) (.tail (.tail (.tail (.head)))) rfl ?_
                refine Sx.anyStep 6 [] (by kernel_rfl) ⟨?_, trivial⟩
                ·
                  refine Sx.anyOp #[true, true, true, true, true, true, true] rfl rfl ?_
                  refine Sx.yl (.assign rfl) rfl ?_
                  refine Sx.anyEnd (by kernel_rfl) ?_
                  refine Sx.thenN ?_
                  refine Sx.ret ?_
                  first
                    | refine Sx.retN (.inl rfl) rfl (.cons (.cell rfl Fx.agg26 (.head _) (ck_length _)) (.cons (.cell rfl Fx.agg27 (.tail _ (.tail _ (.head _))) (ck_length _)) (.cons (.tmp rfl) .nil))) rfl (fun W s => ⟨rfl, s.ext⟩)
                    | refine Sx.retN (.inl rfl) rfl (.cons (.cell rfl Fx.agg26 (.tail _ (.head _)) (ck_length _)) (.cons (.cell rfl Fx.agg27 (.tail _ (.tail _ (.head _))) (ck_length _)) (.cons (.tmp rfl) .nil))) rfl (fun W s => ⟨rfl, s.ext⟩)
                    | refine Sx.retN (.inl rfl) rfl (.cons (.cell rfl Fx.agg26 (.tail _ (.tail _ (.head _))) (ck_length _)) (.cons (.cell rfl Fx.agg27 (.tail _ (.tail _ (.head _))) (ck_length _)) (.cons (.tmp rfl) .nil))) rfl (fun W s => ⟨rfl, s.ext⟩)
                    | refine Sx.retN (.inl rfl) rfl (.cons (.cell rfl Fx.agg26 (.tail _ (.tail _ (.tail _ (.head _)))) (ck_length _)) (.cons (.cell rfl Fx.agg27 (.tail _ (.tail _ (.head _))) (ck_length _)) (.cons (.tmp rfl) .nil))) rfl (fun W s => ⟨rfl, s.ext⟩)
set_option maxRecDepth 100000 in
theorem is_any (x : Nat → Int) (hU : U64 x) (w : World) :
    Calls Tryd.prog 24 #[ck x, ck x] w fun e w' => e = .returned (.bool true) ∧ Ext w w' := by
  have hlen := lenK_le x 16
  obtain ⟨H, hA⟩ : ∃ H : Hp, Agr H w := ⟨fun _ => none, fun _ _ e => by cases e⟩
  refine Sx.enter (H := H) Tryd.func24 rfl Tryd.ntmps24 rfl hA ?_
  refine Sx.seq ?_
  refine Sx.region ?_
  refine Sx.cons ?_
  refine Sx.box (l := ckL x) rfl rfl rfl (fun b2 => ?_)
  refine Sx.cons ?_
  refine Sx.box (l := ckL x) rfl rfl rfl (fun b3 => ?_)
  refine Sx.cons ?_
  refine Sx.yl (.assign rfl) rfl ?_
  refine Sx.nil ?_
  refine Sx.thenN ?_
  refine Sx.seq ?_
  refine Sx.seq ?_
  refine Sx.region ?_
  refine Sx.cons ?_
  first
    | refine Sx.yl (.loadW rfl Fx.agg27 (.head _) (ck_length _)) rfl ?_
    | refine Sx.yl (.loadW rfl Fx.agg27 (.tail _ (.head _)) (ck_length _)) rfl ?_
  refine Sx.cons ?_
  refine Sx.yl (.move rfl) rfl ?_
  refine Sx.nil ?_
  refine Sx.thenN ?_
  refine Sx.blk ?_
  -- live at the head, not kept: [4, 29, 30, 31, 34, 35, 36]
  refine Sx.loop (X := Nat) (fun k => [(2, .pointer (some ⟨b2, 0, none⟩)), (3, .pointer (some ⟨b3, 0, none⟩)), (10, .agg (ckL x).toArray), (11, .int .i64 k)]) (fun k => H) (fun k => [.box b3 (ckL x) 27, .box b2 (ckL x) 26]) (fun k => k ≤ 16) (fun k => 16 - k) 0 (by omega) ⟨rfl, rfl, rfl, rfl, trivial⟩ (fun W s => s) ?_
  intro k hC
  refine Sx.seq ?_
  refine Sx.region ?_
  refine Sx.cons ?_
  refine Sx.yl (.lss rfl rfl) rfl ?_
  refine Sx.nil ?_
  refine Sx.thenN ?_
  refine Sx.seq ?_
  refine Sx.cond rfl (fun h12 => ?_) (fun h12 => ?_)
  · try simp only [decide_eq_true_eq] at h12
    refine Sx.skip ?_
    refine Sx.thenN ?_
    refine Sx.seq ?_
    refine Sx.blk ?_
    refine Sx.seq ?_
    refine Sx.region ?_
    refine Sx.cons ?_
    refine Sx.yl (.move rfl) rfl ?_
    refine Sx.cons ?_
    refine Sx.yl (ckIndex rfl rfl (by omega)) rfl ?_
    refine Sx.cons ?_
    refine Sx.yl (.assign rfl) rfl ?_
    refine Sx.cons ?_
    refine Sx.yl (.assign rfl) rfl ?_
    refine Sx.nil ?_
    refine Sx.thenN ?_
    refine Sx.seq ?_
    refine Sx.region ?_
    refine Sx.cons ?_
    first
      | refine Sx.yl (.loadW rfl Fx.agg26 (.head _) (ck_length _)) rfl ?_
      | refine Sx.yl (.loadW rfl Fx.agg26 (.tail _ (.head _)) (ck_length _)) rfl ?_
    refine Sx.cons ?_
    refine Sx.yl (.move rfl) rfl ?_
    refine Sx.cons ?_
    refine Sx.yl (.call Fx.call39 rfl (fun W s => get_nat x k (by omega) W)) rfl ?_
    refine Sx.cons ?_
    refine Sx.yl (.move rfl) rfl ?_
    refine Sx.cons ?_
    refine Sx.yl (.neq rfl rfl) rfl ?_
    refine Sx.nil ?_
    refine Sx.thenN ?_
    refine Sx.cond rfl (fun h19 => ?_) (fun h19 => ?_)
    · exact absurd h19 (by simp)
    · try simp only [decide_eq_false_iff_not] at h19
      refine Sx.skip ?_
      refine Sx.blkN ?_
      refine Sx.thenN ?_
      refine Sx.region ?_
      refine Sx.cons ?_
      refine Sx.yl (.add rfl rfl (w64 (by omega) (by omega))) rfl ?_
      refine Sx.cons ?_
      refine Sx.yl (.move rfl) rfl ?_
      refine Sx.nil ?_
      refine Sx.thenN ?_
      exact Sx.again (k + 1) ⟨by omega, by omega⟩ ⟨rfl, rfl, rfl, rfl, trivial⟩ (fun W s => s)
  · try simp only [decide_eq_false_iff_not] at h12
    refine Sx.exit ?_
    refine Sx.thenE ?_
    refine Sx.thenE ?_
    refine Sx.blkE ?_
    refine Sx.thenN ?_
    refine Sx.seq ?_
    refine Sx.region ?_
    refine Sx.cons ?_
    first
      | refine Sx.yl (.loadW rfl Fx.agg26 (.head _) (ck_length _)) rfl ?_
      | refine Sx.yl (.loadW rfl Fx.agg26 (.tail _ (.head _)) (ck_length _)) rfl ?_
    refine Sx.cons ?_
    refine Sx.callG Fx.call22 rfl (fun W s => entries_any x H W s.agr) rfl (fun v H1 hv up => ?_)
    obtain ⟨hn, p, c, rfl, hc, hcm, hs⟩ := hv
    refine Sx.cons ?_
    refine Sx.yl (.assign rfl) rfl ?_
    refine Sx.nil ?_
    refine Sx.thenN ?_
    refine Sx.seq ?_
    refine Sx.seq ?_
    refine Sx.region ?_
    refine Sx.cons ?_
    refine Sx.yl (.move rfl) rfl ?_
    refine Sx.cons ?_
    refine Sx.yl (.lenSl Fx.sl22 rfl) rfl ?_
    refine Sx.cons ?_
    first
      | refine Sx.yl (.loadW rfl Fx.agg27 (.head _) (ck_length _)) rfl ?_
      | refine Sx.yl (.loadW rfl Fx.agg27 (.tail _ (.head _)) (ck_length _)) rfl ?_
    refine Sx.cons ?_
    refine Sx.yl (.call Fx.call40 rfl (fun W s => rlength_any x hU W)) rfl ?_
    refine Sx.cons ?_
    refine Sx.yl (.neq rfl rfl) rfl ?_
    refine Sx.cons ?_
    refine Sx.yl (.move rfl) rfl ?_
    refine Sx.bool (fun h28 => ?_) (fun h28 => ?_)
    · exact absurd h28 (by simp)
    · try simp only [decide_eq_false_iff_not] at h28
      refine Sx.cons ?_
      refine Sx.guardT rfl rfl ?_
      first
        | refine Sx.yl (.loadW rfl Fx.agg26 (.head _) (ck_length _)) rfl ?_
        | refine Sx.yl (.loadW rfl Fx.agg26 (.tail _ (.head _)) (ck_length _)) rfl ?_
      refine Sx.cons ?_
      refine Sx.guardT rfl rfl ?_
      refine Sx.yl (.call Fx.call39 rfl (fun W s => get_out x (-1) (by omega) W)) rfl ?_
      refine Sx.cons ?_
      refine Sx.guardT rfl rfl ?_
      refine Sx.yl (.neq rfl rfl) rfl ?_
      refine Sx.cons ?_
      refine Sx.yl (.pickF rfl rfl) rfl ?_
      refine Sx.cons ?_
      refine Sx.yl (.move rfl) rfl ?_
      refine Sx.bool (fun h33 => ?_) (fun h33 => ?_)
      · exact absurd h33 (by simp)
      · try simp only [decide_eq_false_iff_not] at h33
        refine Sx.cons ?_
        refine Sx.guardT rfl rfl ?_
        first
          | refine Sx.yl (.loadW rfl Fx.agg26 (.head _) (ck_length _)) rfl ?_
          | refine Sx.yl (.loadW rfl Fx.agg26 (.tail _ (.head _)) (ck_length _)) rfl ?_
        refine Sx.cons ?_
        refine Sx.guardT rfl rfl ?_
        refine Sx.yl (.call Fx.call39 rfl (fun W s => get_out x 16 (by omega) W)) rfl ?_
        refine Sx.cons ?_
        refine Sx.guardT rfl rfl ?_
        refine Sx.yl (.neq rfl rfl) rfl ?_
        refine Sx.cons ?_
        refine Sx.yl (.pickF rfl rfl) rfl ?_
        refine Sx.nil ?_
        refine Sx.thenN ?_
        refine Sx.cond rfl (fun h37 => ?_) (fun h37 => ?_)
        · exact absurd h37 (by simp)
        · try simp only [decide_eq_false_iff_not] at h37
          refine Sx.skip ?_
          refine Sx.thenN ?_
          refine Sx.seq ?_
          refine Sx.seq ?_
          refine Sx.region ?_
          refine Sx.cons ?_
          refine Sx.yl (.move rfl) rfl ?_
          refine Sx.cons ?_
          refine Sx.yl (.lenSl Fx.sl22 rfl) rfl ?_
          refine Sx.cons ?_
          refine Sx.yl (.move rfl) rfl ?_
          refine Sx.nil ?_
          refine Sx.thenN ?_
          refine Sx.blk ?_
          -- live at the head, not kept: [4]
          refine Sx.loop (X := Nat) (fun j => [(3, .pointer (some ⟨b3, 0, none⟩)), (38, .slice p (lenK x 16) c), (39, .int .i64 (lenK x 16)), (40, .int .i64 j)]) (fun j => H1) (fun j => [.box b3 (ckL x) 27, .box b2 (ckL x) 26]) (fun j => j ≤ lenK x 16) (fun j => lenK x 16 - j) 0 (by omega) ⟨rfl, rfl, rfl, rfl, trivial⟩ (fun W s => s) ?_
          intro j hC
          refine Sx.seq ?_
          refine Sx.region ?_
          refine Sx.cons ?_
          refine Sx.yl (.lss rfl rfl) rfl ?_
          refine Sx.nil ?_
          refine Sx.thenN ?_
          refine Sx.seq ?_
          refine Sx.cond rfl (fun h41 => ?_) (fun h41 => ?_)
          · try simp only [decide_eq_true_eq] at h41
            refine Sx.skip ?_
            refine Sx.thenN ?_
            refine Sx.seq ?_
            refine Sx.blk ?_
            refine Sx.seq ?_
            refine Sx.region ?_
            refine Sx.cons ?_
            refine Sx.yl (.move rfl) rfl ?_
            refine Sx.cons ?_
            obtain ⟨b, off, arr, t, m, rfl, hb, ha⟩ := hs.resolve_left (fun e => by have := congrArg List.length e; rw [u64L_length, entL_length, List.length_nil] at this; omega)
            refine Sx.yl (.indexSl Fx.sl22 rfl rfl rfl (by omega) (q := off + j) (by omega)) rfl ?_
            refine Sx.cons ?_
            refine Sx.yl (.loadH rfl Fx.agg23 hb (v := .int .u64 (x j)) (ha j _ (by rw [u64L_at _ (by rw [entL_length]; omega), entL_get x (by omega)]))) rfl ?_
            refine Sx.cons ?_
            refine Sx.yl (.assign rfl) rfl ?_
            refine Sx.cons ?_
            refine Sx.yl (.assign rfl) rfl ?_
            refine Sx.nil ?_
            refine Sx.thenN ?_
            refine Sx.seq ?_
            refine Sx.region ?_
            refine Sx.cons ?_
            refine Sx.yl (.move rfl) rfl ?_
            refine Sx.cons ?_
            refine Sx.yl (.move rfl) rfl ?_
            refine Sx.cons ?_
            refine Sx.yl (.indexArr Fx.arr27 rfl rfl rfl (by omega) (q := j) (by omega)) rfl ?_
            refine Sx.cons ?_
            first
              | refine Sx.yl (.load rfl Fx.agg23 (.head _) (ck_at x (k := j) (by omega))) rfl ?_
              | refine Sx.yl (.load rfl Fx.agg23 (.tail _ (.head _)) (ck_at x (k := j) (by omega))) rfl ?_
            refine Sx.cons ?_
            refine Sx.yl (.neq rfl rfl) rfl ?_
            refine Sx.nil ?_
            refine Sx.thenN ?_
            refine Sx.cond rfl (fun h49 => ?_) (fun h49 => ?_)
            · exact absurd h49 (by simp)
            · try simp only [decide_eq_false_iff_not] at h49
              refine Sx.skip ?_
              refine Sx.blkN ?_
              refine Sx.thenN ?_
              refine Sx.region ?_
              refine Sx.cons ?_
              refine Sx.yl (.add rfl rfl (w64 (by omega) (by omega))) rfl ?_
              refine Sx.cons ?_
              refine Sx.yl (.move rfl) rfl ?_
              refine Sx.nil ?_
              refine Sx.thenN ?_
              exact Sx.again (j + 1) ⟨by omega, by omega⟩ ⟨rfl, rfl, rfl, rfl, trivial⟩ (fun W s => s)
          · try simp only [decide_eq_false_iff_not] at h41
            refine Sx.exit ?_
            refine Sx.thenE ?_
            refine Sx.thenE ?_
            refine Sx.blkE ?_
            refine Sx.thenN ?_
            refine Sx.seq ?_
            refine Sx.region ?_
            refine Sx.cons ?_
            refine Sx.yl (.assign rfl) rfl ?_
            refine Sx.nil ?_
            refine Sx.thenN ?_
            refine Sx.ret ?_
            exact Sx.ret1 (.inl rfl) rfl (.tmp rfl) (fun W s => ⟨rfl, s.ext⟩)
end Go.Proofs.YtnmickfdflinpaaDoor
