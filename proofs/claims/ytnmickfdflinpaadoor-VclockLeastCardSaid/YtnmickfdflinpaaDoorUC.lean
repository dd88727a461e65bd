/- Walks of the laws Least, Compares, Order, Merges. -/
import Derived.Test.YtnmickfdflinpaaDoorFB
namespace Go.Proofs.YtnmickfdflinpaaDoor
open Go.RowKit Go.Par Go.Sx
theorem leq_iff {x y : Nat → Int} : leqF x y = true ↔ ∀ j, j < 16 → x j ≤ y j := by
  unfold leqF
  rw [List.all_eq_true]
  constructor
  · intro h j hj
    simpa using h j (List.mem_range.2 hj)
  · intro h j hj
    simpa using h j (List.mem_range.1 hj)
theorem eq_iff {x y : Nat → Int} : eqF x y = true ↔ ∀ j, j < 16 → x j = y j := by
  unfold eqF
  rw [List.all_eq_true]
  constructor
  · intro h j hj
    simpa using h j (List.mem_range.2 hj)
  · intro h j hj
    simpa using h j (List.mem_range.1 hj)
theorem leq_refl (x : Nat → Int) : leqF x x = true := leq_iff.2 fun _ _ => Int.le_refl _
theorem leq_trans {x y z : Nat → Int} (h1 : leqF x y = true) (h2 : leqF y z = true) : leqF x z = true := leq_iff.2 fun j hj => Int.le_trans (leq_iff.1 h1 j hj) (leq_iff.1 h2 j hj)
theorem mx_le_l (a b : Int) : a ≤ mx a b := by unfold mx; split <;> omega
theorem mx_le_r (a b : Int) : b ≤ mx a b := by unfold mx; split <;> omega
theorem mx_lub {a b c : Int} : mx a b ≤ c ↔ a ≤ c ∧ b ≤ c := by unfold mx; split <;> omega
theorem leq_l (x y : Nat → Int) : leqF x (mergeF x y) = true := leq_iff.2 fun _ _ => mx_le_l _ _
theorem leq_r (x y : Nat → Int) : leqF y (mergeF x y) = true := leq_iff.2 fun _ _ => mx_le_r _ _
theorem leq_lub (x y z : Nat → Int) : leqF (mergeF x y) z = (leqF x z && leqF y z) := by
  rw [Bool.eq_iff_iff, Bool.and_eq_true, leq_iff, leq_iff, leq_iff]
  constructor
  · intro h; exact ⟨fun j hj => (mx_lub.1 (h j hj)).1, fun j hj => (mx_lub.1 (h j hj)).2⟩
  · intro h j hj; exact mx_lub.2 ⟨h.1 j hj, h.2 j hj⟩
theorem mx_comm (a b : Int) : mx a b = mx b a := by unfold mx; split <;> split <;> omega
theorem mx_self (a : Int) : mx a a = a := by unfold mx; split <;> rfl
theorem mx_assoc (a b c : Int) : mx (mx a b) c = mx a (mx b c) := by unfold mx; (repeat' split) <;> omega
theorem merge_comm (x y : Nat → Int) : mergeF x y = mergeF y x := funext fun _ => mx_comm _ _
theorem merge_self (x : Nat → Int) : mergeF x x = x := funext fun _ => mx_self _
theorem merge_assoc (x y z : Nat → Int) : mergeF (mergeF x y) z = mergeF x (mergeF y z) := funext fun _ => mx_assoc _ _ _
theorem merge_rng {x y : Nat → Int} (hx : U64 x) (hy : U64 y) : U64 (mergeF x y) := fun k => by
  have h1 := hx k
  have h2 := hy k
  unfold mergeF mx
  split <;> omega
theorem tick_rng {x : Nat → Int} (hx : U64 x) (i : Int) : U64 (tickF x i) := fun k => by
  have h1 := hx k
  have h2 := hx i.toNat
  unfold tickF
  split
  · show 0 ≤ (if k = i.toNat then x i.toNat + 1 else x k) ∧ (if k = i.toNat then x i.toNat + 1 else x k) < 18446744073709551616
    split <;> omega
  · exact h1
theorem eq_refl (x : Nat → Int) : eqF x x = true := eq_iff.2 fun _ _ => rfl
theorem cmp_refl (x : Nat → Int) : cmpF x x = 1 := by unfold cmpF; rw [if_pos (eq_refl x)]
theorem cmp_anti {x y : Nat → Int} (h1 : leqF x y = true) (h2 : leqF y x = true) : cmpF x y = 1 := by
  unfold cmpF
  rw [if_pos (eq_iff.2 fun j hj => Int.le_antisymm (leq_iff.1 h1 j hj) (leq_iff.1 h2 j hj))]
theorem cmp_rng (x y : Nat → Int) : 0 ≤ cmpF x y ∧ cmpF x y ≤ 4 := by
  unfold cmpF
  split
  · omega
  · split
    · omega
    · split <;> omega
theorem lenK_congr {x y : Nat → Int} : ∀ k, (∀ j, j < k → x j = y j) → lenK x k = lenK y k
  | 0, _ => rfl
  | k + 1, h => by
    unfold lenK
    rw [lenK_congr k fun j hj => h j (by omega), h k (by omega)]
theorem text_congr {x y : Nat → Int} (h : ∀ j, j < 16 → x j = y j) : textL x = textL y := by
  have hl := lenK_congr 16 h
  have hle := lenK_le x 16
  unfold textL texts
  rw [← hl]
  congr 3
  apply List.map_congr_left
  intro i hi
  rw [h i (by have := List.mem_range.1 hi; omega)]
theorem text_anti {x y : Nat → Int} (h1 : leqF x y = true) (h2 : leqF y x = true) : textL x = textL y :=
  text_congr fun j hj => Int.le_antisymm (leq_iff.1 h1 j hj) (leq_iff.1 h2 j hj)
theorem leq_to {x y : Nat → Int} (h : leqF x y = true) (w : World) : Calls Tryd.prog 16 #[ck x, ck y] w fun e w' => e = .returned (.bool true) ∧ Ext w w' := by
  have := leq_any x y w
  rwa [h] at this
theorem cmp_to {x y : Nat → Int} {c : Int} (h : cmpF x y = c) (w : World) : Calls Tryd.prog 18 #[ck x, ck y] w fun e w' => e = .returned (.int .u8 c) ∧ Ext w w' := by
  have := compare_any x y w
  rwa [h] at this
theorem is_to {x y : Nat → Int} (h : x = y) (hU : U64 x) (w : World) : Calls Tryd.prog 24 #[ck x, ck y] w fun e w' => e = .returned (.bool true) ∧ Ext w w' := by
  subst h
  exact is_any x hU w
theorem take_rng {xs : List Int} (h : ∀ a ∈ xs, 0 ≤ a ∧ a < 18446744073709551616) : U64 (ofF (xs.take 16)) := of_rng fun a ha => h a (List.mem_of_mem_take ha)
set_option maxHeartbeats 4000000 in
set_option maxRecDepth 100000 in
theorem least_any (H : Hp) (v0 : Value) (n0 : Nat) (xs0 : List Int) (h0 : SlAt H v0 n0 (u64L xs0)) (_ : ∀ a ∈ xs0, 0 ≤ a ∧ a < 18446744073709551616) (v1 : Value) (n1 : Nat) (xs1 : List Int) (h1 : SlAt H v1 n1 (u64L xs1)) (_ : ∀ a ∈ xs1, 0 ≤ a ∧ a < 18446744073709551616) (v2 : Value) (n2 : Nat) (xs2 : List Int) (h2 : SlAt H v2 n2 (u64L xs2)) (_ : ∀ a ∈ xs2, 0 ≤ a ∧ a < 18446744073709551616)  (w : World) (hA : Agr H w) (G : Globs w) :
    Calls Tryd.prog 3 #[v0, v1, v2] w fun e w' => e = .returned (.bool true) ∧ Ext w w' := by
  refine Sx.enter (H := H) Tryd.func3 rfl Tryd.ntmps3 rfl hA ?_
  refine Sx.seq ?_
  refine Sx.region ?_
  refine Sx.cons ?_
  refine Sx.yl (.assign rfl) rfl ?_
  refine Sx.nil ?_
  refine Sx.thenN ?_
  refine Sx.seq ?_
  refine Sx.region ?_
  refine Sx.cons ?_
  refine Sx.yl (.move rfl) rfl ?_
  refine Sx.cons ?_
  refine Sx.yl (.call Fx.call13 rfl (fun W s => both_any H v0 n0 xs0 h0 W s.agr)) rfl ?_
  refine Sx.cons ?_
  refine Sx.yl (.move rfl) rfl ?_
  refine Sx.cons ?_
  refine Sx.yl (.extract rfl rfl) rfl ?_
  refine Sx.cons ?_
  refine Sx.yl (.extract rfl rfl) rfl ?_
  refine Sx.cons ?_
  refine Sx.yl (.extract rfl rfl) rfl ?_
  refine Sx.cons ?_
  refine Sx.alloc Fx.zero26 rfl (fun b7 => ?_)
  refine Sx.cons ?_
  refine Sx.alloc Fx.zero27 rfl (fun b8 => ?_)
  refine Sx.cons ?_
  first
    | refine Sx.storeW rfl rfl Fx.size26 (ckL_one _) (.head) rfl ?_
    | refine Sx.storeW rfl rfl Fx.size26 (ckL_one _) (.tail (.head)) rfl ?_
  refine Sx.cons ?_
  first
    | refine Sx.storeW rfl rfl Fx.size27 (ckL_one _) (.head) rfl ?_
    | refine Sx.storeW rfl rfl Fx.size27 (ckL_one _) (.tail (.head)) rfl ?_
  refine Sx.cons ?_
  refine Sx.yl (.assign rfl) rfl ?_
  refine Sx.nil ?_
  refine Sx.thenN ?_
  refine Sx.seq ?_
  refine Sx.region ?_
  refine Sx.cons ?_
  refine Sx.yl (.move rfl) rfl ?_
  refine Sx.cons ?_
  refine Sx.yl (.call Fx.call13 rfl (fun W s => both_any H v1 n1 xs1 h1 W s.agr)) rfl ?_
  refine Sx.cons ?_
  refine Sx.yl (.move rfl) rfl ?_
  refine Sx.cons ?_
  refine Sx.yl (.extract rfl rfl) rfl ?_
  refine Sx.cons ?_
  refine Sx.yl (.extract rfl rfl) rfl ?_
  refine Sx.cons ?_
  refine Sx.yl (.extract rfl rfl) rfl ?_
  refine Sx.cons ?_
  refine Sx.alloc Fx.zero26 rfl (fun b10 => ?_)
  refine Sx.cons ?_
  refine Sx.alloc Fx.zero27 rfl (fun b11 => ?_)
  refine Sx.cons ?_
  first
    | refine Sx.storeW rfl rfl Fx.size26 (ckL_one _) (.head) rfl ?_
    | refine Sx.storeW rfl rfl Fx.size26 (ckL_one _) (.tail (.head)) rfl ?_
    | refine Sx.storeW rfl rfl Fx.size26 (ckL_one _) (.tail (.tail (.head))) rfl ?_
    | refine Sx.storeW rfl rfl Fx.size26 (ckL_one _) (.tail (.tail (.tail (.head)))) rfl ?_
  refine Sx.cons ?_
  first
    | refine Sx.storeW rfl rfl Fx.size27 (ckL_one _) (.head) rfl ?_
    | refine Sx.storeW rfl rfl Fx.size27 (ckL_one _) (.tail (.head)) rfl ?_
    | refine Sx.storeW rfl rfl Fx.size27 (ckL_one _) (.tail (.tail (.head))) rfl ?_
    | refine Sx.storeW rfl rfl Fx.size27 (ckL_one _) (.tail (.tail (.tail (.head)))) rfl ?_
  refine Sx.cons ?_
  refine Sx.yl (.assign rfl) rfl ?_
  refine Sx.nil ?_
  refine Sx.thenN ?_
  refine Sx.seq ?_
  refine Sx.region ?_
  refine Sx.cons ?_
  refine Sx.yl (.move rfl) rfl ?_
  refine Sx.cons ?_
  refine Sx.yl (.call Fx.call13 rfl (fun W s => both_any H v2 n2 xs2 h2 W s.agr)) rfl ?_
  refine Sx.cons ?_
  refine Sx.yl (.move rfl) rfl ?_
  refine Sx.cons ?_
  refine Sx.yl (.extract rfl rfl) rfl ?_
  refine Sx.cons ?_
  refine Sx.yl (.extract rfl rfl) rfl ?_
  refine Sx.cons ?_
  refine Sx.yl (.extract rfl rfl) rfl ?_
  refine Sx.cons ?_
  refine Sx.alloc Fx.zero26 rfl (fun b13 => ?_)
  refine Sx.cons ?_
  refine Sx.alloc Fx.zero27 rfl (fun b14 => ?_)
  refine Sx.cons ?_
  first
    | refine Sx.storeW rfl rfl Fx.size26 (ckL_one _) (.head) rfl ?_
    | refine Sx.storeW rfl rfl Fx.size26 (ckL_one _) (.tail (.head)) rfl ?_
    | refine Sx.storeW rfl rfl Fx.size26 (ckL_one _) (.tail (.tail (.head))) rfl ?_
    | refine Sx.storeW rfl rfl Fx.size26 (ckL_one _) (.tail (.tail (.tail (.head)))) rfl ?_
    | refine Sx.storeW rfl rfl Fx.size26 (ckL_one _) (.tail (.tail (.tail (.tail (.head))))) rfl ?_
    | refine Sx.storeW rfl rfl Fx.size26 (ckL_one _) (.tail (.tail (.tail (.tail (.tail (.head)))))) rfl ?_
  refine Sx.cons ?_
  first
    | refine Sx.storeW rfl rfl Fx.size27 (ckL_one _) (.head) rfl ?_
    | refine Sx.storeW rfl rfl Fx.size27 (ckL_one _) (.tail (.head)) rfl ?_
    | refine Sx.storeW rfl rfl Fx.size27 (ckL_one _) (.tail (.tail (.head))) rfl ?_
    | refine Sx.storeW rfl rfl Fx.size27 (ckL_one _) (.tail (.tail (.tail (.head)))) rfl ?_
    | refine Sx.storeW rfl rfl Fx.size27 (ckL_one _) (.tail (.tail (.tail (.tail (.head))))) rfl ?_
    | refine Sx.storeW rfl rfl Fx.size27 (ckL_one _) (.tail (.tail (.tail (.tail (.tail (.head)))))) rfl ?_
  refine Sx.cons ?_
  refine Sx.yl (.assign rfl) rfl ?_
  refine Sx.nil ?_
  refine Sx.thenN ?_
  refine Sx.seq ?_
  refine Sx.region ?_
  refine Sx.cons ?_
  first
    | refine Sx.yl (.loadW rfl Fx.agg26 (.head _) (ck_length _)) rfl ?_
    | refine Sx.yl (.loadW rfl Fx.agg26 (.tail _ (.head _)) (ck_length _)) rfl ?_
    | refine Sx.yl (.loadW rfl Fx.agg26 (.tail _ (.tail _ (.head _))) (ck_length _)) rfl ?_
    | refine Sx.yl (.loadW rfl Fx.agg26 (.tail _ (.tail _ (.tail _ (.head _)))) (ck_length _)) rfl ?_
    | refine Sx.yl (.loadW rfl Fx.agg26 (.tail _ (.tail _ (.tail _ (.tail _ (.head _))))) (ck_length _)) rfl ?_
    | refine Sx.yl (.loadW rfl Fx.agg26 (.tail _ (.tail _ (.tail _ (.tail _ (.tail _ (.head _)))))) (ck_length _)) rfl ?_
  refine Sx.cons ?_
  first
    | refine Sx.yl (.loadW rfl Fx.agg26 (.head _) (ck_length _)) rfl ?_
    | refine Sx.yl (.loadW rfl Fx.agg26 (.tail _ (.head _)) (ck_length _)) rfl ?_
    | refine Sx.yl (.loadW rfl Fx.agg26 (.tail _ (.tail _ (.head _))) (ck_length _)) rfl ?_
    | refine Sx.yl (.loadW rfl Fx.agg26 (.tail _ (.tail _ (.tail _ (.head _)))) (ck_length _)) rfl ?_
    | refine Sx.yl (.loadW rfl Fx.agg26 (.tail _ (.tail _ (.tail _ (.tail _ (.head _))))) (ck_length _)) rfl ?_
    | refine Sx.yl (.loadW rfl Fx.agg26 (.tail _ (.tail _ (.tail _ (.tail _ (.tail _ (.head _)))))) (ck_length _)) rfl ?_
  refine Sx.cons ?_
  refine Sx.yl (.call Fx.call14 rfl (fun W s => merge_any (ofF (xs0.take 16)) (ofF (xs1.take 16)) W)) rfl ?_
  refine Sx.cons ?_
  refine Sx.alloc Fx.zero26 rfl (fun b16 => ?_)
  refine Sx.cons ?_
  first
    | refine Sx.storeW rfl rfl Fx.size26 (ckL_one _) (.head) rfl ?_
    | refine Sx.storeW rfl rfl Fx.size26 (ckL_one _) (.tail (.head)) rfl ?_
    | refine Sx.storeW rfl rfl Fx.size26 (ckL_one _) (.tail (.tail (.head))) rfl ?_
    | refine Sx.storeW rfl rfl Fx.size26 (ckL_one _) (.tail (.tail (.tail (.head)))) rfl ?_
    | refine Sx.storeW rfl rfl Fx.size26 (ckL_one _) (.tail (.tail (.tail (.tail (.head))))) rfl ?_
    | refine Sx.storeW rfl rfl Fx.size26 (ckL_one _) (.tail (.tail (.tail (.tail (.tail (.head)))))) rfl ?_
    | refine Sx.storeW rfl rfl Fx.size26 (ckL_one _) (.tail (.tail (.tail (.tail (.tail (.tail (.head))))))) rfl ?_
  refine Sx.nil ?_
  refine Sx.thenN ?_
  refine Sx.seq ?_
  refine Sx.seq ?_
  refine Sx.region ?_
  refine Sx.cons ?_
  refine Sx.yl (.call Fx.call15 rfl (fun W s => awake_any W (G.ext s.ext))) rfl ?_
  refine Sx.cons ?_
  refine Sx.yl (.not rfl) rfl ?_
  refine Sx.cons ?_
  refine Sx.yl (.move rfl) rfl ?_
  refine Sx.cons ?_
  refine Sx.guardT rfl rfl ?_
  refine Sx.yl (.move rfl) rfl ?_
  refine Sx.cons ?_
  refine Sx.guardT rfl rfl ?_
  refine Sx.yl (.not rfl) rfl ?_
  refine Sx.cons ?_
  refine Sx.yl (.pickF rfl rfl) rfl ?_
  refine Sx.cons ?_
  refine Sx.yl (.move rfl) rfl ?_
  refine Sx.cons ?_
  refine Sx.guardT rfl rfl ?_
  refine Sx.yl (.move rfl) rfl ?_
  refine Sx.cons ?_
  refine Sx.guardT rfl rfl ?_
  refine Sx.yl (.not rfl) rfl ?_
  refine Sx.cons ?_
  refine Sx.yl (.pickF rfl rfl) rfl ?_
  refine Sx.cons ?_
  refine Sx.yl (.move rfl) rfl ?_
  refine Sx.cons ?_
  refine Sx.guardT rfl rfl ?_
  refine Sx.yl (.move rfl) rfl ?_
  refine Sx.cons ?_
  refine Sx.guardT rfl rfl ?_
  refine Sx.yl (.not rfl) rfl ?_
  refine Sx.cons ?_
  refine Sx.yl (.pickF rfl rfl) rfl ?_
  refine Sx.cons ?_
  refine Sx.yl (.move rfl) rfl ?_
  refine Sx.cons ?_
  refine Sx.guardT rfl rfl ?_
  first
    | refine Sx.yl (.loadW rfl Fx.agg26 (.head _) (ck_length _)) rfl ?_
    | refine Sx.yl (.loadW rfl Fx.agg26 (.tail _ (.head _)) (ck_length _)) rfl ?_
    | refine Sx.yl (.loadW rfl Fx.agg26 (.tail _ (.tail _ (.head _))) (ck_length _)) rfl ?_
    | refine Sx.yl (.loadW rfl Fx.agg26 (.tail _ (.tail _ (.tail _ (.head _)))) (ck_length _)) rfl ?_
    | refine Sx.yl (.loadW rfl Fx.agg26 (.tail _ (.tail _ (.tail _ (.tail _ (.head _))))) (ck_length _)) rfl ?_
    | refine Sx.yl (.loadW rfl Fx.agg26 (.tail _ (.tail _ (.tail _ (.tail _ (.tail _ (.head _)))))) (ck_length _)) rfl ?_
    | refine Sx.yl (.loadW rfl Fx.agg26 (.tail _ (.tail _ (.tail _ (.tail _ (.tail _ (.tail _ (.head _))))))) (ck_length _)) rfl ?_
  refine Sx.cons ?_
  refine Sx.guardT rfl rfl ?_
  first
    | refine Sx.yl (.loadW rfl Fx.agg26 (.head _) (ck_length _)) rfl ?_
    | refine Sx.yl (.loadW rfl Fx.agg26 (.tail _ (.head _)) (ck_length _)) rfl ?_
    | refine Sx.yl (.loadW rfl Fx.agg26 (.tail _ (.tail _ (.head _))) (ck_length _)) rfl ?_
    | refine Sx.yl (.loadW rfl Fx.agg26 (.tail _ (.tail _ (.tail _ (.head _)))) (ck_length _)) rfl ?_
    | refine Sx.yl (.loadW rfl Fx.agg26 (.tail _ (.tail _ (.tail _ (.tail _ (.head _))))) (ck_length _)) rfl ?_
    | refine Sx.yl (.loadW rfl Fx.agg26 (.tail _ (.tail _ (.tail _ (.tail _ (.tail _ (.head _)))))) (ck_length _)) rfl ?_
    | refine Sx.yl (.loadW rfl Fx.agg26 (.tail _ (.tail _ (.tail _ (.tail _ (.tail _ (.tail _ (.head _))))))) (ck_length _)) rfl ?_
  refine Sx.cons ?_
  refine Sx.guardT rfl rfl ?_
  refine Sx.yl (.call Fx.call16 rfl (fun W s => leq_to (leq_l (ofF (xs0.take 16)) (ofF (xs1.take 16))) W)) rfl ?_
  refine Sx.cons ?_
  refine Sx.guardT rfl rfl ?_
  refine Sx.yl (.not rfl) rfl ?_
  refine Sx.cons ?_
  refine Sx.yl (.pickF rfl rfl) rfl ?_
  refine Sx.cons ?_
  refine Sx.yl (.move rfl) rfl ?_
  refine Sx.cons ?_
  refine Sx.guardT rfl rfl ?_
  first
    | refine Sx.yl (.loadW rfl Fx.agg26 (.head _) (ck_length _)) rfl ?_
    | refine Sx.yl (.loadW rfl Fx.agg26 (.tail _ (.head _)) (ck_length _)) rfl ?_
    | refine Sx.yl (.loadW rfl Fx.agg26 (.tail _ (.tail _ (.head _))) (ck_length _)) rfl ?_
    | refine Sx.yl (.loadW rfl Fx.agg26 (.tail _ (.tail _ (.tail _ (.head _)))) (ck_length _)) rfl ?_
    | refine Sx.yl (.loadW rfl Fx.agg26 (.tail _ (.tail _ (.tail _ (.tail _ (.head _))))) (ck_length _)) rfl ?_
    | refine Sx.yl (.loadW rfl Fx.agg26 (.tail _ (.tail _ (.tail _ (.tail _ (.tail _ (.head _)))))) (ck_length _)) rfl ?_
    | refine Sx.yl (.loadW rfl Fx.agg26 (.tail _ (.tail _ (.tail _ (.tail _ (.tail _ (.tail _ (.head _))))))) (ck_length _)) rfl ?_
  refine Sx.cons ?_
  refine Sx.guardT rfl rfl ?_
  first
    | refine Sx.yl (.loadW rfl Fx.agg26 (.head _) (ck_length _)) rfl ?_
    | refine Sx.yl (.loadW rfl Fx.agg26 (.tail _ (.head _)) (ck_length _)) rfl ?_
    | refine Sx.yl (.loadW rfl Fx.agg26 (.tail _ (.tail _ (.head _))) (ck_length _)) rfl ?_
    | refine Sx.yl (.loadW rfl Fx.agg26 (.tail _ (.tail _ (.tail _ (.head _)))) (ck_length _)) rfl ?_
    | refine Sx.yl (.loadW rfl Fx.agg26 (.tail _ (.tail _ (.tail _ (.tail _ (.head _))))) (ck_length _)) rfl ?_
    | refine Sx.yl (.loadW rfl Fx.agg26 (.tail _ (.tail _ (.tail _ (.tail _ (.tail _ (.head _)))))) (ck_length _)) rfl ?_
    | refine Sx.yl (.loadW rfl Fx.agg26 (.tail _ (.tail _ (.tail _ (.tail _ (.tail _ (.tail _ (.head _))))))) (ck_length _)) rfl ?_
  refine Sx.cons ?_
  refine Sx.guardT rfl rfl ?_
  refine Sx.yl (.call Fx.call16 rfl (fun W s => leq_to (leq_r (ofF (xs0.take 16)) (ofF (xs1.take 16))) W)) rfl ?_
  refine Sx.cons ?_
  refine Sx.guardT rfl rfl ?_
  refine Sx.yl (.not rfl) rfl ?_
  refine Sx.cons ?_
  refine Sx.yl (.pickF rfl rfl) rfl ?_
  refine Sx.nil ?_
  refine Sx.thenN ?_
  refine Sx.condF rfl ?_
  refine Sx.skip ?_
  refine Sx.thenN ?_
  refine Sx.seq ?_
  refine Sx.par (hd := [_, _, _, _, _, _, _, _, _, _, _, _]) 12 [] (by kernel_rfl) (by kernel_rfl) rfl (fun _ _ _ _ _ h => h) ?_
  first
    | refine Sx.rYl rfl (.loadW rfl Fx.agg26 (.head _) (ck_length _)) rfl ?_
    | refine Sx.rYl rfl (.loadW rfl Fx.agg26 (.tail _ (.head _)) (ck_length _)) rfl ?_
    | refine Sx.rYl rfl (.loadW rfl Fx.agg26 (.tail _ (.tail _ (.head _))) (ck_length _)) rfl ?_
    | refine Sx.rYl rfl (.loadW rfl Fx.agg26 (.tail _ (.tail _ (.tail _ (.head _)))) (ck_length _)) rfl ?_
    | refine Sx.rYl rfl (.loadW rfl Fx.agg26 (.tail _ (.tail _ (.tail _ (.tail _ (.head _))))) (ck_length _)) rfl ?_
    | refine Sx.rYl rfl (.loadW rfl Fx.agg26 (.tail _ (.tail _ (.tail _ (.tail _ (.tail _ (.head _)))))) (ck_length _)) rfl ?_
    | refine Sx.rYl rfl (.loadW rfl Fx.agg26 (.tail _ (.tail _ (.tail _ (.tail _ (.tail _ (.tail _ (.head _))))))) (ck_length _)) rfl ?_
  first
    | refine Sx.rYl rfl (.loadW rfl Fx.agg26 (.head _) (ck_length _)) rfl ?_
    | refine Sx.rYl rfl (.loadW rfl Fx.agg26 (.tail _ (.head _)) (ck_length _)) rfl ?_
    | refine Sx.rYl rfl (.loadW rfl Fx.agg26 (.tail _ (.tail _ (.head _))) (ck_length _)) rfl ?_
    | refine Sx.rYl rfl (.loadW rfl Fx.agg26 (.tail _ (.tail _ (.tail _ (.head _)))) (ck_length _)) rfl ?_
    | refine Sx.rYl rfl (.loadW rfl Fx.agg26 (.tail _ (.tail _ (.tail _ (.tail _ (.head _))))) (ck_length _)) rfl ?_
    | refine Sx.rYl rfl (.loadW rfl Fx.agg26 (.tail _ (.tail _ (.tail _ (.tail _ (.tail _ (.head _)))))) (ck_length _)) rfl ?_
    | refine Sx.rYl rfl (.loadW rfl Fx.agg26 (.tail _ (.tail _ (.tail _ (.tail _ (.tail _ (.tail _ (.head _))))))) (ck_length _)) rfl ?_
  refine Sx.rYl rfl (.call Fx.call16 rfl (fun W s => leq_any (mergeF (ofF (xs0.take 16)) (ofF (xs1.take 16))) (ofF (xs2.take 16)) W)) rfl ?_
  first
    | refine Sx.rYl rfl (.loadW rfl Fx.agg26 (.head _) (ck_length _)) rfl ?_
    | refine Sx.rYl rfl (.loadW rfl Fx.agg26 (.tail _ (.head _)) (ck_length _)) rfl ?_
    | refine Sx.rYl rfl (.loadW rfl Fx.agg26 (.tail _ (.tail _ (.head _))) (ck_length _)) rfl ?_
    | refine Sx.rYl rfl (.loadW rfl Fx.agg26 (.tail _ (.tail _ (.tail _ (.head _)))) (ck_length _)) rfl ?_
    | refine Sx.rYl rfl (.loadW rfl Fx.agg26 (.tail _ (.tail _ (.tail _ (.tail _ (.head _))))) (ck_length _)) rfl ?_
    | refine Sx.rYl rfl (.loadW rfl Fx.agg26 (.tail _ (.tail _ (.tail _ (.tail _ (.tail _ (.head _)))))) (ck_length _)) rfl ?_
    | refine Sx.rYl rfl (.loadW rfl Fx.agg26 (.tail _ (.tail _ (.tail _ (.tail _ (.tail _ (.tail _ (.head _))))))) (ck_length _)) rfl ?_
  first
    | refine Sx.rYl rfl (.loadW rfl Fx.agg26 (.head _) (ck_length _)) rfl ?_
    | refine Sx.rYl rfl (.loadW rfl Fx.agg26 (.tail _ (.head _)) (ck_length _)) rfl ?_
    | refine Sx.rYl rfl (.loadW rfl Fx.agg26 (.tail _ (.tail _ (.head _))) (ck_length _)) rfl ?_
    | refine Sx.rYl rfl (.loadW rfl Fx.agg26 (.tail _ (.tail _ (.tail _ (.head _)))) (ck_length _)) rfl ?_
    | refine Sx.rYl rfl (.loadW rfl Fx.agg26 (.tail _ (.tail _ (.tail _ (.tail _ (.head _))))) (ck_length _)) rfl ?_
    | refine Sx.rYl rfl (.loadW rfl Fx.agg26 (.tail _ (.tail _ (.tail _ (.tail _ (.tail _ (.head _)))))) (ck_length _)) rfl ?_
    | refine Sx.rYl rfl (.loadW rfl Fx.agg26 (.tail _ (.tail _ (.tail _ (.tail _ (.tail _ (.tail _ (.head _))))))) (ck_length _)) rfl ?_
  refine Sx.rYl rfl (.call Fx.call16 rfl (fun W s => leq_any (ofF (xs0.take 16)) (ofF (xs2.take 16)) W)) rfl ?_
  refine Sx.rMove rfl rfl ?_
  refine Sx.rBool (fun h70 => ?_) (fun h70 => ?_)
  · skip
    first
      | refine Sx.rYlG rfl rfl rfl (.loadW rfl Fx.agg26 (.head _) (ck_length _)) rfl ?_
      | refine Sx.rYlG rfl rfl rfl (.loadW rfl Fx.agg26 (.tail _ (.head _)) (ck_length _)) rfl ?_
      | refine Sx.rYlG rfl rfl rfl (.loadW rfl Fx.agg26 (.tail _ (.tail _ (.head _))) (ck_length _)) rfl ?_
      | refine Sx.rYlG rfl rfl rfl (.loadW rfl Fx.agg26 (.tail _ (.tail _ (.tail _ (.head _)))) (ck_length _)) rfl ?_
      | refine Sx.rYlG rfl rfl rfl (.loadW rfl Fx.agg26 (.tail _ (.tail _ (.tail _ (.tail _ (.head _))))) (ck_length _)) rfl ?_
      | refine Sx.rYlG rfl rfl rfl (.loadW rfl Fx.agg26 (.tail _ (.tail _ (.tail _ (.tail _ (.tail _ (.head _)))))) (ck_length _)) rfl ?_
      | refine Sx.rYlG rfl rfl rfl (.loadW rfl Fx.agg26 (.tail _ (.tail _ (.tail _ (.tail _ (.tail _ (.tail _ (.head _))))))) (ck_length _)) rfl ?_
    first
      | refine Sx.rYlG rfl rfl rfl (.loadW rfl Fx.agg26 (.head _) (ck_length _)) rfl ?_
      | refine Sx.rYlG rfl rfl rfl (.loadW rfl Fx.agg26 (.tail _ (.head _)) (ck_length _)) rfl ?_
      | refine Sx.rYlG rfl rfl rfl (.loadW rfl Fx.agg26 (.tail _ (.tail _ (.head _))) (ck_length _)) rfl ?_
      | refine Sx.rYlG rfl rfl rfl (.loadW rfl Fx.agg26 (.tail _ (.tail _ (.tail _ (.head _)))) (ck_length _)) rfl ?_
      | refine Sx.rYlG rfl rfl rfl (.loadW rfl Fx.agg26 (.tail _ (.tail _ (.tail _ (.tail _ (.head _))))) (ck_length _)) rfl ?_
      | refine Sx.rYlG rfl rfl rfl (.loadW rfl Fx.agg26 (.tail _ (.tail _ (.tail _ (.tail _ (.tail _ (.head _)))))) (ck_length _)) rfl ?_
      | refine Sx.rYlG rfl rfl rfl (.loadW rfl Fx.agg26 (.tail _ (.tail _ (.tail _ (.tail _ (.tail _ (.tail _ (.head _))))))) (ck_length _)) rfl ?_
    refine Sx.rYlG rfl rfl rfl (.call Fx.call16 rfl (fun W s => leq_any (ofF (xs1.take 16)) (ofF (xs2.take 16)) W)) rfl ?_
    refine Sx.rYl rfl (.pickT rfl rfl) rfl ?_
    refine Sx.rYl rfl (.eqlB Fx.bool4 rfl rfl) rfl ?_
    refine Sx.rFin (tl := [_]) rfl ?_
    refine Sx.cons ?_
    refine Sx.yl (.assign rfl) rfl ?_
    refine Sx.nil ?_
    refine Sx.thenN ?_
    refine Sx.ret ?_
    refine Sx.ret1 (.inl rfl) rfl (.tmp rfl) (fun W s => ⟨?_, s.ext⟩)
    rw [leq_lub]; simp [*]
  · skip
    refine Sx.rSkip rfl rfl rfl rfl ?_
    refine Sx.rSkip rfl rfl rfl rfl ?_
    refine Sx.rSkip rfl rfl rfl rfl ?_
    refine Sx.rYl rfl (.pickF rfl rfl) rfl ?_
    refine Sx.rYl rfl (.eqlB Fx.bool4 rfl rfl) rfl ?_
    refine Sx.rFin (tl := [_]) rfl ?_
    refine Sx.cons ?_
    refine Sx.yl (.assign rfl) rfl ?_
    refine Sx.nil ?_
    refine Sx.thenN ?_
    refine Sx.ret ?_
    refine Sx.ret1 (.inl rfl) rfl (.tmp rfl) (fun W s => ⟨?_, s.ext⟩)
    rw [leq_lub]; simp [*]
set_option maxHeartbeats 4000000 in
set_option maxRecDepth 100000 in
theorem compares_any (H : Hp) (v0 : Value) (n0 : Nat) (xs0 : List Int) (h0 : SlAt H v0 n0 (u64L xs0)) (_ : ∀ a ∈ xs0, 0 ≤ a ∧ a < 18446744073709551616) (v1 : Value) (n1 : Nat) (xs1 : List Int) (h1 : SlAt H v1 n1 (u64L xs1)) (_ : ∀ a ∈ xs1, 0 ≤ a ∧ a < 18446744073709551616)  (w : World) (hA : Agr H w) (G : Globs w) :
    Calls Tryd.prog 4 #[v0, v1] w fun e w' => e = .returned (.bool true) ∧ Ext w w' := by
  have hc1 := cmp_rng (ofF (xs0.take 16)) (ofF (xs1.take 16))
  have hc2 := cmp_rng (ofF (xs1.take 16)) (ofF (xs0.take 16))
  refine Sx.enter (H := H) Tryd.func4 rfl Tryd.ntmps4 rfl hA ?_
  refine Sx.seq ?_
  refine Sx.region ?_
  refine Sx.cons ?_
  refine Sx.yl (.assign rfl) rfl ?_
  refine Sx.nil ?_
  refine Sx.thenN ?_
  refine Sx.seq ?_
  refine Sx.region ?_
  refine Sx.cons ?_
  refine Sx.yl (.move rfl) rfl ?_
  refine Sx.cons ?_
  refine Sx.yl (.call Fx.call13 rfl (fun W s => both_any H v0 n0 xs0 h0 W s.agr)) rfl ?_
  refine Sx.cons ?_
  refine Sx.yl (.move rfl) rfl ?_
  refine Sx.cons ?_
  refine Sx.yl (.extract rfl rfl) rfl ?_
  refine Sx.cons ?_
  refine Sx.yl (.extract rfl rfl) rfl ?_
  refine Sx.cons ?_
  refine Sx.yl (.extract rfl rfl) rfl ?_
  refine Sx.cons ?_
  refine Sx.alloc Fx.zero26 rfl (fun b5 => ?_)
  refine Sx.cons ?_
  refine Sx.alloc Fx.zero27 rfl (fun b6 => ?_)
  refine Sx.cons ?_
  first
    | refine Sx.storeW rfl rfl Fx.size26 (ckL_one _) (.head) rfl ?_
    | refine Sx.storeW rfl rfl Fx.size26 (ckL_one _) (.tail (.head)) rfl ?_
  refine Sx.cons ?_
  first
    | refine Sx.storeW rfl rfl Fx.size27 (ckL_one _) (.head) rfl ?_
    | refine Sx.storeW rfl rfl Fx.size27 (ckL_one _) (.tail (.head)) rfl ?_
  refine Sx.cons ?_
  refine Sx.yl (.assign rfl) rfl ?_
  refine Sx.nil ?_
  refine Sx.thenN ?_
  refine Sx.seq ?_
  refine Sx.region ?_
  refine Sx.cons ?_
  refine Sx.yl (.move rfl) rfl ?_
  refine Sx.cons ?_
  refine Sx.yl (.call Fx.call13 rfl (fun W s => both_any H v1 n1 xs1 h1 W s.agr)) rfl ?_
  refine Sx.cons ?_
  refine Sx.yl (.move rfl) rfl ?_
  refine Sx.cons ?_
  refine Sx.yl (.extract rfl rfl) rfl ?_
  refine Sx.cons ?_
  refine Sx.yl (.extract rfl rfl) rfl ?_
  refine Sx.cons ?_
  refine Sx.yl (.extract rfl rfl) rfl ?_
  refine Sx.cons ?_
  refine Sx.alloc Fx.zero26 rfl (fun b8 => ?_)
  refine Sx.cons ?_
  refine Sx.alloc Fx.zero27 rfl (fun b9 => ?_)
  refine Sx.cons ?_
  first
    | refine Sx.storeW rfl rfl Fx.size26 (ckL_one _) (.head) rfl ?_
    | refine Sx.storeW rfl rfl Fx.size26 (ckL_one _) (.tail (.head)) rfl ?_
    | refine Sx.storeW rfl rfl Fx.size26 (ckL_one _) (.tail (.tail (.head))) rfl ?_
    | refine Sx.storeW rfl rfl Fx.size26 (ckL_one _) (.tail (.tail (.tail (.head)))) rfl ?_
  refine Sx.cons ?_
  first
    | refine Sx.storeW rfl rfl Fx.size27 (ckL_one _) (.head) rfl ?_
    | refine Sx.storeW rfl rfl Fx.size27 (ckL_one _) (.tail (.head)) rfl ?_
    | refine Sx.storeW rfl rfl Fx.size27 (ckL_one _) (.tail (.tail (.head))) rfl ?_
    | refine Sx.storeW rfl rfl Fx.size27 (ckL_one _) (.tail (.tail (.tail (.head)))) rfl ?_
  refine Sx.cons ?_
  refine Sx.yl (.assign rfl) rfl ?_
  refine Sx.nil ?_
  refine Sx.thenN ?_
  refine Sx.seq ?_
  refine Sx.par (hd := [_, _, _, _, _, _, _, _, _, _, _, _, _, _, _, _, _, _, _, _, _, _, _, _, _, _, _, _, _, _, _, _, _, _, _, _]) 36 [] (by kernel_rfl) (by kernel_rfl) rfl (fun _ _ _ _ _ h => h) ?_
  refine Sx.rYl rfl (.call Fx.call15 rfl (fun W s => awake_any W (G.ext s.ext))) rfl ?_
  refine Sx.rMove rfl rfl ?_
  refine Sx.rYlG rfl rfl rfl (.move rfl) rfl ?_
  refine Sx.rYl rfl (.pickT rfl rfl) rfl ?_
  refine Sx.rMove rfl rfl ?_
  refine Sx.rYlG rfl rfl rfl (.move rfl) rfl ?_
  refine Sx.rYl rfl (.pickT rfl rfl) rfl ?_
  refine Sx.rMove rfl rfl ?_
  first
    | refine Sx.rYlG rfl rfl rfl (.loadW rfl Fx.agg26 (.head _) (ck_length _)) rfl ?_
    | refine Sx.rYlG rfl rfl rfl (.loadW rfl Fx.agg26 (.tail _ (.head _)) (ck_length _)) rfl ?_
    | refine Sx.rYlG rfl rfl rfl (.loadW rfl Fx.agg26 (.tail _ (.tail _ (.head _))) (ck_length _)) rfl ?_
    | refine Sx.rYlG rfl rfl rfl (.loadW rfl Fx.agg26 (.tail _ (.tail _ (.tail _ (.head _)))) (ck_length _)) rfl ?_
  first
    | refine Sx.rYlG rfl rfl rfl (.loadW rfl Fx.agg26 (.head _) (ck_length _)) rfl ?_
    | refine Sx.rYlG rfl rfl rfl (.loadW rfl Fx.agg26 (.tail _ (.head _)) (ck_length _)) rfl ?_
    | refine Sx.rYlG rfl rfl rfl (.loadW rfl Fx.agg26 (.tail _ (.tail _ (.head _))) (ck_length _)) rfl ?_
    | refine Sx.rYlG rfl rfl rfl (.loadW rfl Fx.agg26 (.tail _ (.tail _ (.tail _ (.head _)))) (ck_length _)) rfl ?_
  refine Sx.rYlG rfl rfl rfl (.call Fx.call16 rfl (fun W s => leq_any (ofF (xs0.take 16)) (ofF (xs1.take 16)) W)) rfl ?_
  first
    | refine Sx.rYlG rfl rfl rfl (.loadW rfl Fx.agg27 (.head _) (ck_length _)) rfl ?_
    | refine Sx.rYlG rfl rfl rfl (.loadW rfl Fx.agg27 (.tail _ (.head _)) (ck_length _)) rfl ?_
    | refine Sx.rYlG rfl rfl rfl (.loadW rfl Fx.agg27 (.tail _ (.tail _ (.head _))) (ck_length _)) rfl ?_
    | refine Sx.rYlG rfl rfl rfl (.loadW rfl Fx.agg27 (.tail _ (.tail _ (.tail _ (.head _)))) (ck_length _)) rfl ?_
  first
    | refine Sx.rYlG rfl rfl rfl (.loadW rfl Fx.agg27 (.head _) (ck_length _)) rfl ?_
    | refine Sx.rYlG rfl rfl rfl (.loadW rfl Fx.agg27 (.tail _ (.head _)) (ck_length _)) rfl ?_
    | refine Sx.rYlG rfl rfl rfl (.loadW rfl Fx.agg27 (.tail _ (.tail _ (.head _))) (ck_length _)) rfl ?_
    | refine Sx.rYlG rfl rfl rfl (.loadW rfl Fx.agg27 (.tail _ (.tail _ (.tail _ (.head _)))) (ck_length _)) rfl ?_
  refine Sx.rYlG rfl rfl rfl (.call Fx.call17 rfl (fun W s => rleq_any (ofF (xs0.take 16)) (ofF (xs1.take 16)) W)) rfl ?_
  refine Sx.rYlG rfl rfl rfl (.eqlB Fx.bool4 rfl rfl) rfl ?_
  refine Sx.rYl rfl (.pickT rfl rfl) rfl ?_
  refine Sx.rMove rfl rfl ?_
  refine Sx.rBool (fun h39 => ?_) (fun h39 => ?_)
  · skip
    first
      | refine Sx.rYlG rfl rfl rfl (.loadW rfl Fx.agg26 (.head _) (ck_length _)) rfl ?_
      | refine Sx.rYlG rfl rfl rfl (.loadW rfl Fx.agg26 (.tail _ (.head _)) (ck_length _)) rfl ?_
      | refine Sx.rYlG rfl rfl rfl (.loadW rfl Fx.agg26 (.tail _ (.tail _ (.head _))) (ck_length _)) rfl ?_
      | refine Sx.rYlG rfl rfl rfl (.loadW rfl Fx.agg26 (.tail _ (.tail _ (.tail _ (.head _)))) (ck_length _)) rfl ?_
    first
      | refine Sx.rYlG rfl rfl rfl (.loadW rfl Fx.agg26 (.head _) (ck_length _)) rfl ?_
      | refine Sx.rYlG rfl rfl rfl (.loadW rfl Fx.agg26 (.tail _ (.head _)) (ck_length _)) rfl ?_
      | refine Sx.rYlG rfl rfl rfl (.loadW rfl Fx.agg26 (.tail _ (.tail _ (.head _))) (ck_length _)) rfl ?_
      | refine Sx.rYlG rfl rfl rfl (.loadW rfl Fx.agg26 (.tail _ (.tail _ (.tail _ (.head _)))) (ck_length _)) rfl ?_
    refine Sx.rYlG rfl rfl rfl (.call Fx.call18 rfl (fun W s => compare_any (ofF (xs0.take 16)) (ofF (xs1.take 16)) W)) rfl ?_
    refine Sx.rYlG rfl rfl rfl (.conv rfl Fx.int35 Fx.int3 (w64 (by omega) (by omega))) rfl ?_
    first
      | refine Sx.rYlG rfl rfl rfl (.loadW rfl Fx.agg27 (.head _) (ck_length _)) rfl ?_
      | refine Sx.rYlG rfl rfl rfl (.loadW rfl Fx.agg27 (.tail _ (.head _)) (ck_length _)) rfl ?_
      | refine Sx.rYlG rfl rfl rfl (.loadW rfl Fx.agg27 (.tail _ (.tail _ (.head _))) (ck_length _)) rfl ?_
      | refine Sx.rYlG rfl rfl rfl (.loadW rfl Fx.agg27 (.tail _ (.tail _ (.tail _ (.head _)))) (ck_length _)) rfl ?_
    first
      | refine Sx.rYlG rfl rfl rfl (.loadW rfl Fx.agg27 (.head _) (ck_length _)) rfl ?_
      | refine Sx.rYlG rfl rfl rfl (.loadW rfl Fx.agg27 (.tail _ (.head _)) (ck_length _)) rfl ?_
      | refine Sx.rYlG rfl rfl rfl (.loadW rfl Fx.agg27 (.tail _ (.tail _ (.head _))) (ck_length _)) rfl ?_
      | refine Sx.rYlG rfl rfl rfl (.loadW rfl Fx.agg27 (.tail _ (.tail _ (.tail _ (.head _)))) (ck_length _)) rfl ?_
    refine Sx.rYlG rfl rfl rfl (.call Fx.call19 rfl (fun W s => rcompare_any (ofF (xs0.take 16)) (ofF (xs1.take 16)) W)) rfl ?_
    refine Sx.rYlG rfl rfl rfl (.eql rfl rfl) rfl ?_
    refine Sx.rYl rfl (.pickT rfl rfl) rfl ?_
    refine Sx.rMove rfl rfl ?_
    refine Sx.rBool (fun h49 => ?_) (fun h49 => ?_)
    · skip
      first
        | refine Sx.rYlG rfl rfl rfl (.loadW rfl Fx.agg26 (.head _) (ck_length _)) rfl ?_
        | refine Sx.rYlG rfl rfl rfl (.loadW rfl Fx.agg26 (.tail _ (.head _)) (ck_length _)) rfl ?_
        | refine Sx.rYlG rfl rfl rfl (.loadW rfl Fx.agg26 (.tail _ (.tail _ (.head _))) (ck_length _)) rfl ?_
        | refine Sx.rYlG rfl rfl rfl (.loadW rfl Fx.agg26 (.tail _ (.tail _ (.tail _ (.head _)))) (ck_length _)) rfl ?_
      first
        | refine Sx.rYlG rfl rfl rfl (.loadW rfl Fx.agg26 (.head _) (ck_length _)) rfl ?_
        | refine Sx.rYlG rfl rfl rfl (.loadW rfl Fx.agg26 (.tail _ (.head _)) (ck_length _)) rfl ?_
        | refine Sx.rYlG rfl rfl rfl (.loadW rfl Fx.agg26 (.tail _ (.tail _ (.head _))) (ck_length _)) rfl ?_
        | refine Sx.rYlG rfl rfl rfl (.loadW rfl Fx.agg26 (.tail _ (.tail _ (.tail _ (.head _)))) (ck_length _)) rfl ?_
      refine Sx.rYlG rfl rfl rfl (.call Fx.call18 rfl (fun W s => compare_any (ofF (xs1.take 16)) (ofF (xs0.take 16)) W)) rfl ?_
      refine Sx.rYlG rfl rfl rfl (.conv rfl Fx.int35 Fx.int3 (w64 (by omega) (by omega))) rfl ?_
      first
        | refine Sx.rYlG rfl rfl rfl (.loadW rfl Fx.agg27 (.head _) (ck_length _)) rfl ?_
        | refine Sx.rYlG rfl rfl rfl (.loadW rfl Fx.agg27 (.tail _ (.head _)) (ck_length _)) rfl ?_
        | refine Sx.rYlG rfl rfl rfl (.loadW rfl Fx.agg27 (.tail _ (.tail _ (.head _))) (ck_length _)) rfl ?_
        | refine Sx.rYlG rfl rfl rfl (.loadW rfl Fx.agg27 (.tail _ (.tail _ (.tail _ (.head _)))) (ck_length _)) rfl ?_
      first
        | refine Sx.rYlG rfl rfl rfl (.loadW rfl Fx.agg27 (.head _) (ck_length _)) rfl ?_
        | refine Sx.rYlG rfl rfl rfl (.loadW rfl Fx.agg27 (.tail _ (.head _)) (ck_length _)) rfl ?_
        | refine Sx.rYlG rfl rfl rfl (.loadW rfl Fx.agg27 (.tail _ (.tail _ (.head _))) (ck_length _)) rfl ?_
        | refine Sx.rYlG rfl rfl rfl (.loadW rfl Fx.agg27 (.tail _ (.tail _ (.tail _ (.head _)))) (ck_length _)) rfl ?_
      refine Sx.rYlG rfl rfl rfl (.call Fx.call19 rfl (fun W s => rcompare_any (ofF (xs1.take 16)) (ofF (xs0.take 16)) W)) rfl ?_
      refine Sx.rYlG rfl rfl rfl (.eql rfl rfl) rfl ?_
      refine Sx.rYl rfl (.pickT rfl rfl) rfl ?_
      refine Sx.rFin (tl := [_]) rfl ?_
      refine Sx.cons ?_
      refine Sx.yl (.assign rfl) rfl ?_
      refine Sx.nil ?_
      refine Sx.thenN ?_
      refine Sx.ret ?_
      refine Sx.ret1 (.inl rfl) rfl (.tmp rfl) (fun W s => ⟨?_, s.ext⟩)
      simp
    · exact absurd h49 (by simp)
  · exact absurd h39 (by simp)
set_option maxHeartbeats 4000000 in
set_option maxRecDepth 100000 in
theorem order_any (H : Hp) (v0 : Value) (n0 : Nat) (xs0 : List Int) (h0 : SlAt H v0 n0 (u64L xs0)) (r0 : ∀ a ∈ xs0, 0 ≤ a ∧ a < 18446744073709551616) (v1 : Value) (n1 : Nat) (xs1 : List Int) (h1 : SlAt H v1 n1 (u64L xs1)) (r1 : ∀ a ∈ xs1, 0 ≤ a ∧ a < 18446744073709551616) (v2 : Value) (n2 : Nat) (xs2 : List Int) (h2 : SlAt H v2 n2 (u64L xs2)) (_ : ∀ a ∈ xs2, 0 ≤ a ∧ a < 18446744073709551616)  (w : World) (hA : Agr H w) (G : Globs w) :
    Calls Tryd.prog 5 #[v0, v1, v2] w fun e w' => e = .returned (.bool true) ∧ Ext w w' := by
  refine Sx.enter (H := H) Tryd.func5 rfl Tryd.ntmps5 rfl hA ?_
  refine Sx.seq ?_
  refine Sx.region ?_
  refine Sx.cons ?_
  refine Sx.yl (.assign rfl) rfl ?_
  refine Sx.nil ?_
  refine Sx.thenN ?_
  refine Sx.seq ?_
  refine Sx.region ?_
  refine Sx.cons ?_
  refine Sx.yl (.move rfl) rfl ?_
  refine Sx.cons ?_
  refine Sx.yl (.call Fx.call13 rfl (fun W s => both_any H v0 n0 xs0 h0 W s.agr)) rfl ?_
  refine Sx.cons ?_
  refine Sx.yl (.move rfl) rfl ?_
  refine Sx.cons ?_
  refine Sx.yl (.extract rfl rfl) rfl ?_
  refine Sx.cons ?_
  refine Sx.yl (.extract rfl rfl) rfl ?_
  refine Sx.cons ?_
  refine Sx.yl (.extract rfl rfl) rfl ?_
  refine Sx.cons ?_
  refine Sx.alloc Fx.zero26 rfl (fun b7 => ?_)
  refine Sx.cons ?_
  refine Sx.alloc Fx.zero27 rfl (fun b8 => ?_)
  refine Sx.cons ?_
  first
    | refine Sx.storeW rfl rfl Fx.size26 (ckL_one _) (.head) rfl ?_
    | refine Sx.storeW rfl rfl Fx.size26 (ckL_one _) (.tail (.head)) rfl ?_
  refine Sx.cons ?_
  first
    | refine Sx.storeW rfl rfl Fx.size27 (ckL_one _) (.head) rfl ?_
    | refine Sx.storeW rfl rfl Fx.size27 (ckL_one _) (.tail (.head)) rfl ?_
  refine Sx.cons ?_
  refine Sx.yl (.assign rfl) rfl ?_
  refine Sx.nil ?_
  refine Sx.thenN ?_
  refine Sx.seq ?_
  refine Sx.region ?_
  refine Sx.cons ?_
  refine Sx.yl (.move rfl) rfl ?_
  refine Sx.cons ?_
  refine Sx.yl (.call Fx.call13 rfl (fun W s => both_any H v1 n1 xs1 h1 W s.agr)) rfl ?_
  refine Sx.cons ?_
  refine Sx.yl (.move rfl) rfl ?_
  refine Sx.cons ?_
  refine Sx.yl (.extract rfl rfl) rfl ?_
  refine Sx.cons ?_
  refine Sx.yl (.extract rfl rfl) rfl ?_
  refine Sx.cons ?_
  refine Sx.yl (.extract rfl rfl) rfl ?_
  refine Sx.cons ?_
  refine Sx.alloc Fx.zero26 rfl (fun b10 => ?_)
  refine Sx.cons ?_
  refine Sx.alloc Fx.zero27 rfl (fun b11 => ?_)
  refine Sx.cons ?_
  first
    | refine Sx.storeW rfl rfl Fx.size26 (ckL_one _) (.head) rfl ?_
    | refine Sx.storeW rfl rfl Fx.size26 (ckL_one _) (.tail (.head)) rfl ?_
    | refine Sx.storeW rfl rfl Fx.size26 (ckL_one _) (.tail (.tail (.head))) rfl ?_
    | refine Sx.storeW rfl rfl Fx.size26 (ckL_one _) (.tail (.tail (.tail (.head)))) rfl ?_
  refine Sx.cons ?_
  first
    | refine Sx.storeW rfl rfl Fx.size27 (ckL_one _) (.head) rfl ?_
    | refine Sx.storeW rfl rfl Fx.size27 (ckL_one _) (.tail (.head)) rfl ?_
    | refine Sx.storeW rfl rfl Fx.size27 (ckL_one _) (.tail (.tail (.head))) rfl ?_
    | refine Sx.storeW rfl rfl Fx.size27 (ckL_one _) (.tail (.tail (.tail (.head)))) rfl ?_
  refine Sx.cons ?_
  refine Sx.yl (.assign rfl) rfl ?_
  refine Sx.nil ?_
  refine Sx.thenN ?_
  refine Sx.seq ?_
  refine Sx.region ?_
  refine Sx.cons ?_
  refine Sx.yl (.move rfl) rfl ?_
  refine Sx.cons ?_
  refine Sx.yl (.call Fx.call13 rfl (fun W s => both_any H v2 n2 xs2 h2 W s.agr)) rfl ?_
  refine Sx.cons ?_
  refine Sx.yl (.move rfl) rfl ?_
  refine Sx.cons ?_
  refine Sx.yl (.extract rfl rfl) rfl ?_
  refine Sx.cons ?_
  refine Sx.yl (.extract rfl rfl) rfl ?_
  refine Sx.cons ?_
  refine Sx.yl (.extract rfl rfl) rfl ?_
  refine Sx.cons ?_
  refine Sx.alloc Fx.zero26 rfl (fun b13 => ?_)
  refine Sx.cons ?_
  refine Sx.alloc Fx.zero27 rfl (fun b14 => ?_)
  refine Sx.cons ?_
  first
    | refine Sx.storeW rfl rfl Fx.size26 (ckL_one _) (.head) rfl ?_
    | refine Sx.storeW rfl rfl Fx.size26 (ckL_one _) (.tail (.head)) rfl ?_
    | refine Sx.storeW rfl rfl Fx.size26 (ckL_one _) (.tail (.tail (.head))) rfl ?_
    | refine Sx.storeW rfl rfl Fx.size26 (ckL_one _) (.tail (.tail (.tail (.head)))) rfl ?_
    | refine Sx.storeW rfl rfl Fx.size26 (ckL_one _) (.tail (.tail (.tail (.tail (.head))))) rfl ?_
    | refine Sx.storeW rfl rfl Fx.size26 (ckL_one _) (.tail (.tail (.tail (.tail (.tail (.head)))))) rfl ?_
  refine Sx.cons ?_
  first
    | refine Sx.storeW rfl rfl Fx.size27 (ckL_one _) (.head) rfl ?_
    | refine Sx.storeW rfl rfl Fx.size27 (ckL_one _) (.tail (.head)) rfl ?_
    | refine Sx.storeW rfl rfl Fx.size27 (ckL_one _) (.tail (.tail (.head))) rfl ?_
    | refine Sx.storeW rfl rfl Fx.size27 (ckL_one _) (.tail (.tail (.tail (.head)))) rfl ?_
    | refine Sx.storeW rfl rfl Fx.size27 (ckL_one _) (.tail (.tail (.tail (.tail (.head))))) rfl ?_
    | refine Sx.storeW rfl rfl Fx.size27 (ckL_one _) (.tail (.tail (.tail (.tail (.tail (.head)))))) rfl ?_
  refine Sx.cons ?_
  refine Sx.yl (.assign rfl) rfl ?_
  refine Sx.nil ?_
  refine Sx.thenN ?_
  refine Sx.seq ?_
  refine Sx.seq ?_
  refine Sx.region ?_
  refine Sx.cons ?_
  refine Sx.yl (.call Fx.call15 rfl (fun W s => awake_any W (G.ext s.ext))) rfl ?_
  refine Sx.cons ?_
  refine Sx.yl (.not rfl) rfl ?_
  refine Sx.cons ?_
  refine Sx.yl (.move rfl) rfl ?_
  refine Sx.cons ?_
  refine Sx.guardT rfl rfl ?_
  refine Sx.yl (.move rfl) rfl ?_
  refine Sx.cons ?_
  refine Sx.guardT rfl rfl ?_
  refine Sx.yl (.not rfl) rfl ?_
  refine Sx.cons ?_
  refine Sx.yl (.pickF rfl rfl) rfl ?_
  refine Sx.cons ?_
  refine Sx.yl (.move rfl) rfl ?_
  refine Sx.cons ?_
  refine Sx.guardT rfl rfl ?_
  refine Sx.yl (.move rfl) rfl ?_
  refine Sx.cons ?_
  refine Sx.guardT rfl rfl ?_
  refine Sx.yl (.not rfl) rfl ?_
  refine Sx.cons ?_
  refine Sx.yl (.pickF rfl rfl) rfl ?_
  refine Sx.cons ?_
  refine Sx.yl (.move rfl) rfl ?_
  refine Sx.cons ?_
  refine Sx.guardT rfl rfl ?_
  refine Sx.yl (.move rfl) rfl ?_
  refine Sx.cons ?_
  refine Sx.guardT rfl rfl ?_
  refine Sx.yl (.not rfl) rfl ?_
  refine Sx.cons ?_
  refine Sx.yl (.pickF rfl rfl) rfl ?_
  refine Sx.cons ?_
  refine Sx.yl (.move rfl) rfl ?_
  refine Sx.cons ?_
  refine Sx.guardT rfl rfl ?_
  first
    | refine Sx.yl (.loadW rfl Fx.agg26 (.head _) (ck_length _)) rfl ?_
    | refine Sx.yl (.loadW rfl Fx.agg26 (.tail _ (.head _)) (ck_length _)) rfl ?_
    | refine Sx.yl (.loadW rfl Fx.agg26 (.tail _ (.tail _ (.head _))) (ck_length _)) rfl ?_
    | refine Sx.yl (.loadW rfl Fx.agg26 (.tail _ (.tail _ (.tail _ (.head _)))) (ck_length _)) rfl ?_
    | refine Sx.yl (.loadW rfl Fx.agg26 (.tail _ (.tail _ (.tail _ (.tail _ (.head _))))) (ck_length _)) rfl ?_
    | refine Sx.yl (.loadW rfl Fx.agg26 (.tail _ (.tail _ (.tail _ (.tail _ (.tail _ (.head _)))))) (ck_length _)) rfl ?_
  refine Sx.cons ?_
  refine Sx.guardT rfl rfl ?_
  first
    | refine Sx.yl (.loadW rfl Fx.agg26 (.head _) (ck_length _)) rfl ?_
    | refine Sx.yl (.loadW rfl Fx.agg26 (.tail _ (.head _)) (ck_length _)) rfl ?_
    | refine Sx.yl (.loadW rfl Fx.agg26 (.tail _ (.tail _ (.head _))) (ck_length _)) rfl ?_
    | refine Sx.yl (.loadW rfl Fx.agg26 (.tail _ (.tail _ (.tail _ (.head _)))) (ck_length _)) rfl ?_
    | refine Sx.yl (.loadW rfl Fx.agg26 (.tail _ (.tail _ (.tail _ (.tail _ (.head _))))) (ck_length _)) rfl ?_
    | refine Sx.yl (.loadW rfl Fx.agg26 (.tail _ (.tail _ (.tail _ (.tail _ (.tail _ (.head _)))))) (ck_length _)) rfl ?_
  refine Sx.cons ?_
  refine Sx.guardT rfl rfl ?_
  refine Sx.yl (.call Fx.call16 rfl (fun W s => leq_to (leq_refl (ofF (xs0.take 16))) W)) rfl ?_
  refine Sx.cons ?_
  refine Sx.guardT rfl rfl ?_
  refine Sx.yl (.not rfl) rfl ?_
  refine Sx.cons ?_
  refine Sx.yl (.pickF rfl rfl) rfl ?_
  refine Sx.nil ?_
  refine Sx.thenN ?_
  refine Sx.condF rfl ?_
  refine Sx.skip ?_
  refine Sx.thenN ?_
  refine Sx.seq ?_
  refine Sx.seq ?_
  refine Sx.region ?_
  refine Sx.cons ?_
  first
    | refine Sx.yl (.loadW rfl Fx.agg26 (.head _) (ck_length _)) rfl ?_
    | refine Sx.yl (.loadW rfl Fx.agg26 (.tail _ (.head _)) (ck_length _)) rfl ?_
    | refine Sx.yl (.loadW rfl Fx.agg26 (.tail _ (.tail _ (.head _))) (ck_length _)) rfl ?_
    | refine Sx.yl (.loadW rfl Fx.agg26 (.tail _ (.tail _ (.tail _ (.head _)))) (ck_length _)) rfl ?_
    | refine Sx.yl (.loadW rfl Fx.agg26 (.tail _ (.tail _ (.tail _ (.tail _ (.head _))))) (ck_length _)) rfl ?_
    | refine Sx.yl (.loadW rfl Fx.agg26 (.tail _ (.tail _ (.tail _ (.tail _ (.tail _ (.head _)))))) (ck_length _)) rfl ?_
  refine Sx.cons ?_
  first
    | refine Sx.yl (.loadW rfl Fx.agg26 (.head _) (ck_length _)) rfl ?_
    | refine Sx.yl (.loadW rfl Fx.agg26 (.tail _ (.head _)) (ck_length _)) rfl ?_
    | refine Sx.yl (.loadW rfl Fx.agg26 (.tail _ (.tail _ (.head _))) (ck_length _)) rfl ?_
    | refine Sx.yl (.loadW rfl Fx.agg26 (.tail _ (.tail _ (.tail _ (.head _)))) (ck_length _)) rfl ?_
    | refine Sx.yl (.loadW rfl Fx.agg26 (.tail _ (.tail _ (.tail _ (.tail _ (.head _))))) (ck_length _)) rfl ?_
    | refine Sx.yl (.loadW rfl Fx.agg26 (.tail _ (.tail _ (.tail _ (.tail _ (.tail _ (.head _)))))) (ck_length _)) rfl ?_
  refine Sx.cons ?_
  refine Sx.yl (.call Fx.call16 rfl (fun W s => leq_any (ofF (xs0.take 16)) (ofF (xs1.take 16)) W)) rfl ?_
  refine Sx.cons ?_
  refine Sx.yl (.move rfl) rfl ?_
  refine Sx.bool (fun h57 => ?_) (fun h57 => ?_)
  · skip
    refine Sx.cons ?_
    refine Sx.guardT rfl rfl ?_
    first
      | refine Sx.yl (.loadW rfl Fx.agg26 (.head _) (ck_length _)) rfl ?_
      | refine Sx.yl (.loadW rfl Fx.agg26 (.tail _ (.head _)) (ck_length _)) rfl ?_
      | refine Sx.yl (.loadW rfl Fx.agg26 (.tail _ (.tail _ (.head _))) (ck_length _)) rfl ?_
      | refine Sx.yl (.loadW rfl Fx.agg26 (.tail _ (.tail _ (.tail _ (.head _)))) (ck_length _)) rfl ?_
      | refine Sx.yl (.loadW rfl Fx.agg26 (.tail _ (.tail _ (.tail _ (.tail _ (.head _))))) (ck_length _)) rfl ?_
      | refine Sx.yl (.loadW rfl Fx.agg26 (.tail _ (.tail _ (.tail _ (.tail _ (.tail _ (.head _)))))) (ck_length _)) rfl ?_
    refine Sx.cons ?_
    refine Sx.guardT rfl rfl ?_
    first
      | refine Sx.yl (.loadW rfl Fx.agg26 (.head _) (ck_length _)) rfl ?_
      | refine Sx.yl (.loadW rfl Fx.agg26 (.tail _ (.head _)) (ck_length _)) rfl ?_
      | refine Sx.yl (.loadW rfl Fx.agg26 (.tail _ (.tail _ (.head _))) (ck_length _)) rfl ?_
      | refine Sx.yl (.loadW rfl Fx.agg26 (.tail _ (.tail _ (.tail _ (.head _)))) (ck_length _)) rfl ?_
      | refine Sx.yl (.loadW rfl Fx.agg26 (.tail _ (.tail _ (.tail _ (.tail _ (.head _))))) (ck_length _)) rfl ?_
      | refine Sx.yl (.loadW rfl Fx.agg26 (.tail _ (.tail _ (.tail _ (.tail _ (.tail _ (.head _)))))) (ck_length _)) rfl ?_
    refine Sx.cons ?_
    refine Sx.guardT rfl rfl ?_
    refine Sx.yl (.call Fx.call16 rfl (fun W s => leq_any (ofF (xs1.take 16)) (ofF (xs2.take 16)) W)) rfl ?_
    refine Sx.cons ?_
    refine Sx.yl (.pickT rfl rfl) rfl ?_
    refine Sx.cons ?_
    refine Sx.yl (.move rfl) rfl ?_
    refine Sx.bool (fun h62 => ?_) (fun h62 => ?_)
    · skip
      refine Sx.cons ?_
      refine Sx.guardT rfl rfl ?_
      first
        | refine Sx.yl (.loadW rfl Fx.agg26 (.head _) (ck_length _)) rfl ?_
        | refine Sx.yl (.loadW rfl Fx.agg26 (.tail _ (.head _)) (ck_length _)) rfl ?_
        | refine Sx.yl (.loadW rfl Fx.agg26 (.tail _ (.tail _ (.head _))) (ck_length _)) rfl ?_
        | refine Sx.yl (.loadW rfl Fx.agg26 (.tail _ (.tail _ (.tail _ (.head _)))) (ck_length _)) rfl ?_
        | refine Sx.yl (.loadW rfl Fx.agg26 (.tail _ (.tail _ (.tail _ (.tail _ (.head _))))) (ck_length _)) rfl ?_
        | refine Sx.yl (.loadW rfl Fx.agg26 (.tail _ (.tail _ (.tail _ (.tail _ (.tail _ (.head _)))))) (ck_length _)) rfl ?_
      refine Sx.cons ?_
      refine Sx.guardT rfl rfl ?_
      first
        | refine Sx.yl (.loadW rfl Fx.agg26 (.head _) (ck_length _)) rfl ?_
        | refine Sx.yl (.loadW rfl Fx.agg26 (.tail _ (.head _)) (ck_length _)) rfl ?_
        | refine Sx.yl (.loadW rfl Fx.agg26 (.tail _ (.tail _ (.head _))) (ck_length _)) rfl ?_
        | refine Sx.yl (.loadW rfl Fx.agg26 (.tail _ (.tail _ (.tail _ (.head _)))) (ck_length _)) rfl ?_
        | refine Sx.yl (.loadW rfl Fx.agg26 (.tail _ (.tail _ (.tail _ (.tail _ (.head _))))) (ck_length _)) rfl ?_
        | refine Sx.yl (.loadW rfl Fx.agg26 (.tail _ (.tail _ (.tail _ (.tail _ (.tail _ (.head _)))))) (ck_length _)) rfl ?_
      refine Sx.cons ?_
      refine Sx.guardT rfl rfl ?_
      refine Sx.yl (.call Fx.call16 rfl (fun W s => leq_to (leq_trans h57 h62) W)) rfl ?_
      refine Sx.cons ?_
      refine Sx.guardT rfl rfl ?_
      refine Sx.yl (.not rfl) rfl ?_
      refine Sx.cons ?_
      refine Sx.yl (.pickT rfl rfl) rfl ?_
      refine Sx.nil ?_
      refine Sx.thenN ?_
      refine Sx.condF rfl ?_
      refine Sx.skip ?_
      refine Sx.thenN ?_
      refine Sx.seq ?_
      refine Sx.par (hd := [_, _, _, _, _, _, _, _, _, _, _, _, _, _, _, _, _, _, _, _, _, _]) 22 [] (by kernel_rfl) (by kernel_rfl) rfl (fun _ _ _ _ _ h => h) ?_
      first
        | refine Sx.rYl rfl (.loadW rfl Fx.agg26 (.head _) (ck_length _)) rfl ?_
        | refine Sx.rYl rfl (.loadW rfl Fx.agg26 (.tail _ (.head _)) (ck_length _)) rfl ?_
        | refine Sx.rYl rfl (.loadW rfl Fx.agg26 (.tail _ (.tail _ (.head _))) (ck_length _)) rfl ?_
        | refine Sx.rYl rfl (.loadW rfl Fx.agg26 (.tail _ (.tail _ (.tail _ (.head _)))) (ck_length _)) rfl ?_
        | refine Sx.rYl rfl (.loadW rfl Fx.agg26 (.tail _ (.tail _ (.tail _ (.tail _ (.head _))))) (ck_length _)) rfl ?_
        | refine Sx.rYl rfl (.loadW rfl Fx.agg26 (.tail _ (.tail _ (.tail _ (.tail _ (.tail _ (.head _)))))) (ck_length _)) rfl ?_
      first
        | refine Sx.rYl rfl (.loadW rfl Fx.agg26 (.head _) (ck_length _)) rfl ?_
        | refine Sx.rYl rfl (.loadW rfl Fx.agg26 (.tail _ (.head _)) (ck_length _)) rfl ?_
        | refine Sx.rYl rfl (.loadW rfl Fx.agg26 (.tail _ (.tail _ (.head _))) (ck_length _)) rfl ?_
        | refine Sx.rYl rfl (.loadW rfl Fx.agg26 (.tail _ (.tail _ (.tail _ (.head _)))) (ck_length _)) rfl ?_
        | refine Sx.rYl rfl (.loadW rfl Fx.agg26 (.tail _ (.tail _ (.tail _ (.tail _ (.head _))))) (ck_length _)) rfl ?_
        | refine Sx.rYl rfl (.loadW rfl Fx.agg26 (.tail _ (.tail _ (.tail _ (.tail _ (.tail _ (.head _)))))) (ck_length _)) rfl ?_
      refine Sx.rYl rfl (.call Fx.call16 rfl (fun W s => leq_any (ofF (xs0.take 16)) (ofF (xs1.take 16)) W)) rfl ?_
      refine Sx.rMove rfl rfl ?_
      refine Sx.rBool (fun h71 => ?_) (fun h71 => ?_)
      · skip
        first
          | refine Sx.rYlG rfl rfl rfl (.loadW rfl Fx.agg26 (.head _) (ck_length _)) rfl ?_
          | refine Sx.rYlG rfl rfl rfl (.loadW rfl Fx.agg26 (.tail _ (.head _)) (ck_length _)) rfl ?_
          | refine Sx.rYlG rfl rfl rfl (.loadW rfl Fx.agg26 (.tail _ (.tail _ (.head _))) (ck_length _)) rfl ?_
          | refine Sx.rYlG rfl rfl rfl (.loadW rfl Fx.agg26 (.tail _ (.tail _ (.tail _ (.head _)))) (ck_length _)) rfl ?_
          | refine Sx.rYlG rfl rfl rfl (.loadW rfl Fx.agg26 (.tail _ (.tail _ (.tail _ (.tail _ (.head _))))) (ck_length _)) rfl ?_
          | refine Sx.rYlG rfl rfl rfl (.loadW rfl Fx.agg26 (.tail _ (.tail _ (.tail _ (.tail _ (.tail _ (.head _)))))) (ck_length _)) rfl ?_
        first
          | refine Sx.rYlG rfl rfl rfl (.loadW rfl Fx.agg26 (.head _) (ck_length _)) rfl ?_
          | refine Sx.rYlG rfl rfl rfl (.loadW rfl Fx.agg26 (.tail _ (.head _)) (ck_length _)) rfl ?_
          | refine Sx.rYlG rfl rfl rfl (.loadW rfl Fx.agg26 (.tail _ (.tail _ (.head _))) (ck_length _)) rfl ?_
          | refine Sx.rYlG rfl rfl rfl (.loadW rfl Fx.agg26 (.tail _ (.tail _ (.tail _ (.head _)))) (ck_length _)) rfl ?_
          | refine Sx.rYlG rfl rfl rfl (.loadW rfl Fx.agg26 (.tail _ (.tail _ (.tail _ (.tail _ (.head _))))) (ck_length _)) rfl ?_
          | refine Sx.rYlG rfl rfl rfl (.loadW rfl Fx.agg26 (.tail _ (.tail _ (.tail _ (.tail _ (.tail _ (.head _)))))) (ck_length _)) rfl ?_
        refine Sx.rYlG rfl rfl rfl (.call Fx.call16 rfl (fun W s => leq_any (ofF (xs1.take 16)) (ofF (xs0.take 16)) W)) rfl ?_
        refine Sx.rYl rfl (.pickT rfl rfl) rfl ?_
        refine Sx.rYl rfl (.not rfl) rfl ?_
        refine Sx.rMove rfl rfl ?_
        refine Sx.rBool (fun h77 => ?_) (fun h77 => ?_)
        · skip
          refine Sx.rSkip rfl rfl rfl rfl ?_
          refine Sx.rSkip rfl rfl rfl rfl ?_
          refine Sx.rSkip rfl rfl rfl rfl ?_
          refine Sx.rSkip rfl rfl rfl rfl ?_
          refine Sx.rSkip rfl rfl rfl rfl ?_
          refine Sx.rSkipU rfl rfl rfl ?_
          refine Sx.rSkipU rfl rfl rfl ?_
          refine Sx.rSkipU rfl rfl rfl ?_
          refine Sx.rSkipU rfl rfl rfl ?_
          refine Sx.rSkipU rfl rfl rfl ?_
          refine Sx.rSkip rfl rfl rfl rfl ?_
          refine Sx.rYl rfl (.pickT rfl rfl) rfl ?_
          refine Sx.rFin (tl := [_]) rfl ?_
          refine Sx.cons ?_
          refine Sx.yl (.assign rfl) rfl ?_
          refine Sx.nil ?_
          refine Sx.thenN ?_
          refine Sx.ret ?_
          refine Sx.ret1 (.inl rfl) rfl (.tmp rfl) (fun W s => ⟨?_, s.ext⟩)
          first | rfl | (rw [text_anti h71 (by simpa using h77)]; simp)
        · skip
          first
            | refine Sx.rYlG rfl rfl rfl (.loadW rfl Fx.agg26 (.head _) (ck_length _)) rfl ?_
            | refine Sx.rYlG rfl rfl rfl (.loadW rfl Fx.agg26 (.tail _ (.head _)) (ck_length _)) rfl ?_
            | refine Sx.rYlG rfl rfl rfl (.loadW rfl Fx.agg26 (.tail _ (.tail _ (.head _))) (ck_length _)) rfl ?_
            | refine Sx.rYlG rfl rfl rfl (.loadW rfl Fx.agg26 (.tail _ (.tail _ (.tail _ (.head _)))) (ck_length _)) rfl ?_
            | refine Sx.rYlG rfl rfl rfl (.loadW rfl Fx.agg26 (.tail _ (.tail _ (.tail _ (.tail _ (.head _))))) (ck_length _)) rfl ?_
            | refine Sx.rYlG rfl rfl rfl (.loadW rfl Fx.agg26 (.tail _ (.tail _ (.tail _ (.tail _ (.tail _ (.head _)))))) (ck_length _)) rfl ?_
          first
            | refine Sx.rYlG rfl rfl rfl (.loadW rfl Fx.agg26 (.head _) (ck_length _)) rfl ?_
            | refine Sx.rYlG rfl rfl rfl (.loadW rfl Fx.agg26 (.tail _ (.head _)) (ck_length _)) rfl ?_
            | refine Sx.rYlG rfl rfl rfl (.loadW rfl Fx.agg26 (.tail _ (.tail _ (.head _))) (ck_length _)) rfl ?_
            | refine Sx.rYlG rfl rfl rfl (.loadW rfl Fx.agg26 (.tail _ (.tail _ (.tail _ (.head _)))) (ck_length _)) rfl ?_
            | refine Sx.rYlG rfl rfl rfl (.loadW rfl Fx.agg26 (.tail _ (.tail _ (.tail _ (.tail _ (.head _))))) (ck_length _)) rfl ?_
            | refine Sx.rYlG rfl rfl rfl (.loadW rfl Fx.agg26 (.tail _ (.tail _ (.tail _ (.tail _ (.tail _ (.head _)))))) (ck_length _)) rfl ?_
          refine Sx.rYlG rfl rfl rfl (.call Fx.call18 rfl (fun W s => cmp_to (cmp_anti h71 (by simpa using h77)) W)) rfl ?_
          refine Sx.rYlG rfl rfl rfl (.eql rfl rfl) rfl ?_
          refine Sx.rYlG rfl rfl rfl (.move rfl) rfl ?_
          first
            | refine Sx.rYlG rfl rfl rfl (.loadW rfl Fx.agg26 (.head _) (ck_length _)) rfl ?_
            | refine Sx.rYlG rfl rfl rfl (.loadW rfl Fx.agg26 (.tail _ (.head _)) (ck_length _)) rfl ?_
            | refine Sx.rYlG rfl rfl rfl (.loadW rfl Fx.agg26 (.tail _ (.tail _ (.head _))) (ck_length _)) rfl ?_
            | refine Sx.rYlG rfl rfl rfl (.loadW rfl Fx.agg26 (.tail _ (.tail _ (.tail _ (.head _)))) (ck_length _)) rfl ?_
            | refine Sx.rYlG rfl rfl rfl (.loadW rfl Fx.agg26 (.tail _ (.tail _ (.tail _ (.tail _ (.head _))))) (ck_length _)) rfl ?_
            | refine Sx.rYlG rfl rfl rfl (.loadW rfl Fx.agg26 (.tail _ (.tail _ (.tail _ (.tail _ (.tail _ (.head _)))))) (ck_length _)) rfl ?_
          refine Sx.rYlG rfl rfl rfl (.call Fx.call20 rfl (fun W s => text_any (ofF (xs0.take 16)) (take_rng r0) W (G.ext s.ext))) rfl ?_
          first
            | refine Sx.rYlG rfl rfl rfl (.loadW rfl Fx.agg26 (.head _) (ck_length _)) rfl ?_
            | refine Sx.rYlG rfl rfl rfl (.loadW rfl Fx.agg26 (.tail _ (.head _)) (ck_length _)) rfl ?_
            | refine Sx.rYlG rfl rfl rfl (.loadW rfl Fx.agg26 (.tail _ (.tail _ (.head _))) (ck_length _)) rfl ?_
            | refine Sx.rYlG rfl rfl rfl (.loadW rfl Fx.agg26 (.tail _ (.tail _ (.tail _ (.head _)))) (ck_length _)) rfl ?_
            | refine Sx.rYlG rfl rfl rfl (.loadW rfl Fx.agg26 (.tail _ (.tail _ (.tail _ (.tail _ (.head _))))) (ck_length _)) rfl ?_
            | refine Sx.rYlG rfl rfl rfl (.loadW rfl Fx.agg26 (.tail _ (.tail _ (.tail _ (.tail _ (.tail _ (.head _)))))) (ck_length _)) rfl ?_
          refine Sx.rYlG rfl rfl rfl (.call Fx.call20 rfl (fun W s => text_any (ofF (xs1.take 16)) (take_rng r1) W (G.ext s.ext))) rfl ?_
          refine Sx.rYlG rfl rfl rfl (.eqlS rfl rfl) rfl ?_
          refine Sx.rYlG rfl rfl rfl (.pickT rfl rfl) rfl ?_
          refine Sx.rYl rfl (.pickF rfl rfl) rfl ?_
          refine Sx.rFin (tl := [_]) rfl ?_
          refine Sx.cons ?_
          refine Sx.yl (.assign rfl) rfl ?_
          refine Sx.nil ?_
          refine Sx.thenN ?_
          refine Sx.ret ?_
          refine Sx.ret1 (.inl rfl) rfl (.tmp rfl) (fun W s => ⟨?_, s.ext⟩)
          first | rfl | (rw [text_anti h71 (by simpa using h77)]; simp)
      · skip
        refine Sx.rSkip rfl rfl rfl rfl ?_
        refine Sx.rSkip rfl rfl rfl rfl ?_
        refine Sx.rSkip rfl rfl rfl rfl ?_
        refine Sx.rYl rfl (.pickF rfl rfl) rfl ?_
        refine Sx.rYl rfl (.not rfl) rfl ?_
        refine Sx.rMove rfl rfl ?_
        refine Sx.rSkip rfl rfl rfl rfl ?_
        refine Sx.rSkip rfl rfl rfl rfl ?_
        refine Sx.rSkip rfl rfl rfl rfl ?_
        refine Sx.rSkip rfl rfl rfl rfl ?_
        refine Sx.rSkip rfl rfl rfl rfl ?_
        refine Sx.rSkipU rfl rfl rfl ?_
        refine Sx.rSkipU rfl rfl rfl ?_
        refine Sx.rSkipU rfl rfl rfl ?_
        refine Sx.rSkipU rfl rfl rfl ?_
        refine Sx.rSkipU rfl rfl rfl ?_
        refine Sx.rSkip rfl rfl rfl rfl ?_
        refine Sx.rYl rfl (.pickT rfl rfl) rfl ?_
        refine Sx.rFin (tl := [_]) rfl ?_
        refine Sx.cons ?_
        refine Sx.yl (.assign rfl) rfl ?_
        refine Sx.nil ?_
        refine Sx.thenN ?_
        refine Sx.ret ?_
        refine Sx.ret1 (.inl rfl) rfl (.tmp rfl) (fun W s => ⟨?_, s.ext⟩)
        first | rfl | (rw [text_anti h71 (by simpa using h77)]; simp)
    · skip
      refine Sx.cons ?_
      refine Sx.guardF rfl rfl rfl rfl ?_
      refine Sx.cons ?_
      refine Sx.guardF rfl rfl rfl rfl ?_
      refine Sx.cons ?_
      refine Sx.guardF rfl rfl rfl rfl ?_
      refine Sx.cons ?_
      refine Sx.guardF rfl rfl rfl rfl ?_
      refine Sx.cons ?_
      refine Sx.yl (.pickF rfl rfl) rfl ?_
      refine Sx.nil ?_
      refine Sx.thenN ?_
      refine Sx.condF rfl ?_
      refine Sx.skip ?_
      refine Sx.thenN ?_
      refine Sx.seq ?_
      refine Sx.par (hd := [_, _, _, _, _, _, _, _, _, _, _, _, _, _, _, _, _, _, _, _, _, _]) 22 [] (by kernel_rfl) (by kernel_rfl) rfl (fun _ _ _ _ _ h => h) ?_
      first
        | refine Sx.rYl rfl (.loadW rfl Fx.agg26 (.head _) (ck_length _)) rfl ?_
        | refine Sx.rYl rfl (.loadW rfl Fx.agg26 (.tail _ (.head _)) (ck_length _)) rfl ?_
        | refine Sx.rYl rfl (.loadW rfl Fx.agg26 (.tail _ (.tail _ (.head _))) (ck_length _)) rfl ?_
        | refine Sx.rYl rfl (.loadW rfl Fx.agg26 (.tail _ (.tail _ (.tail _ (.head _)))) (ck_length _)) rfl ?_
        | refine Sx.rYl rfl (.loadW rfl Fx.agg26 (.tail _ (.tail _ (.tail _ (.tail _ (.head _))))) (ck_length _)) rfl ?_
        | refine Sx.rYl rfl (.loadW rfl Fx.agg26 (.tail _ (.tail _ (.tail _ (.tail _ (.tail _ (.head _)))))) (ck_length _)) rfl ?_
      first
        | refine Sx.rYl rfl (.loadW rfl Fx.agg26 (.head _) (ck_length _)) rfl ?_
        | refine Sx.rYl rfl (.loadW rfl Fx.agg26 (.tail _ (.head _)) (ck_length _)) rfl ?_
        | refine Sx.rYl rfl (.loadW rfl Fx.agg26 (.tail _ (.tail _ (.head _))) (ck_length _)) rfl ?_
        | refine Sx.rYl rfl (.loadW rfl Fx.agg26 (.tail _ (.tail _ (.tail _ (.head _)))) (ck_length _)) rfl ?_
        | refine Sx.rYl rfl (.loadW rfl Fx.agg26 (.tail _ (.tail _ (.tail _ (.tail _ (.head _))))) (ck_length _)) rfl ?_
        | refine Sx.rYl rfl (.loadW rfl Fx.agg26 (.tail _ (.tail _ (.tail _ (.tail _ (.tail _ (.head _)))))) (ck_length _)) rfl ?_
      refine Sx.rYl rfl (.call Fx.call16 rfl (fun W s => leq_any (ofF (xs0.take 16)) (ofF (xs1.take 16)) W)) rfl ?_
      refine Sx.rMove rfl rfl ?_
      refine Sx.rBool (fun h71 => ?_) (fun h71 => ?_)
      · skip
        first
          | refine Sx.rYlG rfl rfl rfl (.loadW rfl Fx.agg26 (.head _) (ck_length _)) rfl ?_
          | refine Sx.rYlG rfl rfl rfl (.loadW rfl Fx.agg26 (.tail _ (.head _)) (ck_length _)) rfl ?_
          | refine Sx.rYlG rfl rfl rfl (.loadW rfl Fx.agg26 (.tail _ (.tail _ (.head _))) (ck_length _)) rfl ?_
          | refine Sx.rYlG rfl rfl rfl (.loadW rfl Fx.agg26 (.tail _ (.tail _ (.tail _ (.head _)))) (ck_length _)) rfl ?_
          | refine Sx.rYlG rfl rfl rfl (.loadW rfl Fx.agg26 (.tail _ (.tail _ (.tail _ (.tail _ (.head _))))) (ck_length _)) rfl ?_
          | refine Sx.rYlG rfl rfl rfl (.loadW rfl Fx.agg26 (.tail _ (.tail _ (.tail _ (.tail _ (.tail _ (.head _)))))) (ck_length _)) rfl ?_
        first
          | refine Sx.rYlG rfl rfl rfl (.loadW rfl Fx.agg26 (.head _) (ck_length _)) rfl ?_
          | refine Sx.rYlG rfl rfl rfl (.loadW rfl Fx.agg26 (.tail _ (.head _)) (ck_length _)) rfl ?_
          | refine Sx.rYlG rfl rfl rfl (.loadW rfl Fx.agg26 (.tail _ (.tail _ (.head _))) (ck_length _)) rfl ?_
          | refine Sx.rYlG rfl rfl rfl (.loadW rfl Fx.agg26 (.tail _ (.tail _ (.tail _ (.head _)))) (ck_length _)) rfl ?_
          | refine Sx.rYlG rfl rfl rfl (.loadW rfl Fx.agg26 (.tail _ (.tail _ (.tail _ (.tail _ (.head _))))) (ck_length _)) rfl ?_
          | refine Sx.rYlG rfl rfl rfl (.loadW rfl Fx.agg26 (.tail _ (.tail _ (.tail _ (.tail _ (.tail _ (.head _)))))) (ck_length _)) rfl ?_
        refine Sx.rYlG rfl rfl rfl (.call Fx.call16 rfl (fun W s => leq_any (ofF (xs1.take 16)) (ofF (xs0.take 16)) W)) rfl ?_
        refine Sx.rYl rfl (.pickT rfl rfl) rfl ?_
        refine Sx.rYl rfl (.not rfl) rfl ?_
        refine Sx.rMove rfl rfl ?_
        refine Sx.rBool (fun h77 => ?_) (fun h77 => ?_)
        · skip
          refine Sx.rSkip rfl rfl rfl rfl ?_
          refine Sx.rSkip rfl rfl rfl rfl ?_
          refine Sx.rSkip rfl rfl rfl rfl ?_
          refine Sx.rSkip rfl rfl rfl rfl ?_
          refine Sx.rSkip rfl rfl rfl rfl ?_
          refine Sx.rSkipU rfl rfl rfl ?_
          refine Sx.rSkipU rfl rfl rfl ?_
          refine Sx.rSkipU rfl rfl rfl ?_
          refine Sx.rSkipU rfl rfl rfl ?_
          refine Sx.rSkipU rfl rfl rfl ?_
          refine Sx.rSkip rfl rfl rfl rfl ?_
          refine Sx.rYl rfl (.pickT rfl rfl) rfl ?_
          refine Sx.rFin (tl := [_]) rfl ?_
          refine Sx.cons ?_
          refine Sx.yl (.assign rfl) rfl ?_
          refine Sx.nil ?_
          refine Sx.thenN ?_
          refine Sx.ret ?_
          refine Sx.ret1 (.inl rfl) rfl (.tmp rfl) (fun W s => ⟨?_, s.ext⟩)
          first | rfl | (rw [text_anti h71 (by simpa using h77)]; simp)
        · skip
          first
            | refine Sx.rYlG rfl rfl rfl (.loadW rfl Fx.agg26 (.head _) (ck_length _)) rfl ?_
            | refine Sx.rYlG rfl rfl rfl (.loadW rfl Fx.agg26 (.tail _ (.head _)) (ck_length _)) rfl ?_
            | refine Sx.rYlG rfl rfl rfl (.loadW rfl Fx.agg26 (.tail _ (.tail _ (.head _))) (ck_length _)) rfl ?_
            | refine Sx.rYlG rfl rfl rfl (.loadW rfl Fx.agg26 (.tail _ (.tail _ (.tail _ (.head _)))) (ck_length _)) rfl ?_
            | refine Sx.rYlG rfl rfl rfl (.loadW rfl Fx.agg26 (.tail _ (.tail _ (.tail _ (.tail _ (.head _))))) (ck_length _)) rfl ?_
            | refine Sx.rYlG rfl rfl rfl (.loadW rfl Fx.agg26 (.tail _ (.tail _ (.tail _ (.tail _ (.tail _ (.head _)))))) (ck_length _)) rfl ?_
          first
            | refine Sx.rYlG rfl rfl rfl (.loadW rfl Fx.agg26 (.head _) (ck_length _)) rfl ?_
            | refine Sx.rYlG rfl rfl rfl (.loadW rfl Fx.agg26 (.tail _ (.head _)) (ck_length _)) rfl ?_
            | refine Sx.rYlG rfl rfl rfl (.loadW rfl Fx.agg26 (.tail _ (.tail _ (.head _))) (ck_length _)) rfl ?_
            | refine Sx.rYlG rfl rfl rfl (.loadW rfl Fx.agg26 (.tail _ (.tail _ (.tail _ (.head _)))) (ck_length _)) rfl ?_
            | refine Sx.rYlG rfl rfl rfl (.loadW rfl Fx.agg26 (.tail _ (.tail _ (.tail _ (.tail _ (.head _))))) (ck_length _)) rfl ?_
            | refine Sx.rYlG rfl rfl rfl (.loadW rfl Fx.agg26 (.tail _ (.tail _ (.tail _ (.tail _ (.tail _ (.head _)))))) (ck_length _)) rfl ?_
          refine Sx.rYlG rfl rfl rfl (.call Fx.call18 rfl (fun W s => cmp_to (cmp_anti h71 (by simpa using h77)) W)) rfl ?_
          refine Sx.rYlG rfl rfl rfl (.eql rfl rfl) rfl ?_
          refine Sx.rYlG rfl rfl rfl (.move rfl) rfl ?_
          first
            | refine Sx.rYlG rfl rfl rfl (.loadW rfl Fx.agg26 (.head _) (ck_length _)) rfl ?_
            | refine Sx.rYlG rfl rfl rfl (.loadW rfl Fx.agg26 (.tail _ (.head _)) (ck_length _)) rfl ?_
            | refine Sx.rYlG rfl rfl rfl (.loadW rfl Fx.agg26 (.tail _ (.tail _ (.head _))) (ck_length _)) rfl ?_
            | refine Sx.rYlG rfl rfl rfl (.loadW rfl Fx.agg26 (.tail _ (.tail _ (.tail _ (.head _)))) (ck_length _)) rfl ?_
            | refine Sx.rYlG rfl rfl rfl (.loadW rfl Fx.agg26 (.tail _ (.tail _ (.tail _ (.tail _ (.head _))))) (ck_length _)) rfl ?_
            | refine Sx.rYlG rfl rfl rfl (.loadW rfl Fx.agg26 (.tail _ (.tail _ (.tail _ (.tail _ (.tail _ (.head _)))))) (ck_length _)) rfl ?_
          refine Sx.rYlG rfl rfl rfl (.call Fx.call20 rfl (fun W s => text_any (ofF (xs0.take 16)) (take_rng r0) W (G.ext s.ext))) rfl ?_
          first
            | refine Sx.rYlG rfl rfl rfl (.loadW rfl Fx.agg26 (.head _) (ck_length _)) rfl ?_
            | refine Sx.rYlG rfl rfl rfl (.loadW rfl Fx.agg26 (.tail _ (.head _)) (ck_length _)) rfl ?_
            | refine Sx.rYlG rfl rfl rfl (.loadW rfl Fx.agg26 (.tail _ (.tail _ (.head _))) (ck_length _)) rfl ?_
            | refine Sx.rYlG rfl rfl rfl (.loadW rfl Fx.agg26 (.tail _ (.tail _ (.tail _ (.head _)))) (ck_length _)) rfl ?_
            | refine Sx.rYlG rfl rfl rfl (.loadW rfl Fx.agg26 (.tail _ (.tail _ (.tail _ (.tail _ (.head _))))) (ck_length _)) rfl ?_
            | refine Sx.rYlG rfl rfl rfl (.loadW rfl Fx.agg26 (.tail _ (.tail _ (.tail _ (.tail _ (.tail _ (.head _)))))) (ck_length _)) rfl ?_
          refine Sx.rYlG rfl rfl rfl (.call Fx.call20 rfl (fun W s => text_any (ofF (xs1.take 16)) (take_rng r1) W (G.ext s.ext))) rfl ?_
          refine Sx.rYlG rfl rfl rfl (.eqlS rfl rfl) rfl ?_
          refine Sx.rYlG rfl rfl rfl (.pickT rfl rfl) rfl ?_
          refine Sx.rYl rfl (.pickF rfl rfl) rfl ?_
          refine Sx.rFin (tl := [_]) rfl ?_
          refine Sx.cons ?_
          refine Sx.yl (.assign rfl) rfl ?_
          refine Sx.nil ?_
          refine Sx.thenN ?_
          refine Sx.ret ?_
          refine Sx.ret1 (.inl rfl) rfl (.tmp rfl) (fun W s => ⟨?_, s.ext⟩)
          first | rfl | (rw [text_anti h71 (by simpa using h77)]; simp)
      · skip
        refine Sx.rSkip rfl rfl rfl rfl ?_
        refine Sx.rSkip rfl rfl rfl rfl ?_
        refine Sx.rSkip rfl rfl rfl rfl ?_
        refine Sx.rYl rfl (.pickF rfl rfl) rfl ?_
        refine Sx.rYl rfl (.not rfl) rfl ?_
        refine Sx.rMove rfl rfl ?_
        refine Sx.rSkip rfl rfl rfl rfl ?_
        refine Sx.rSkip rfl rfl rfl rfl ?_
        refine Sx.rSkip rfl rfl rfl rfl ?_
        refine Sx.rSkip rfl rfl rfl rfl ?_
        refine Sx.rSkip rfl rfl rfl rfl ?_
        refine Sx.rSkipU rfl rfl rfl ?_
        refine Sx.rSkipU rfl rfl rfl ?_
        refine Sx.rSkipU rfl rfl rfl ?_
        refine Sx.rSkipU rfl rfl rfl ?_
        refine Sx.rSkipU rfl rfl rfl ?_
        refine Sx.rSkip rfl rfl rfl rfl ?_
        refine Sx.rYl rfl (.pickT rfl rfl) rfl ?_
        refine Sx.rFin (tl := [_]) rfl ?_
        refine Sx.cons ?_
        refine Sx.yl (.assign rfl) rfl ?_
        refine Sx.nil ?_
        refine Sx.thenN ?_
        refine Sx.ret ?_
        refine Sx.ret1 (.inl rfl) rfl (.tmp rfl) (fun W s => ⟨?_, s.ext⟩)
        first | rfl | (rw [text_anti h71 (by simpa using h77)]; simp)
  · skip
    refine Sx.cons ?_
    refine Sx.guardF rfl rfl rfl rfl ?_
    refine Sx.cons ?_
    refine Sx.guardF rfl rfl rfl rfl ?_
    refine Sx.cons ?_
    refine Sx.guardF rfl rfl rfl rfl ?_
    refine Sx.cons ?_
    refine Sx.yl (.pickF rfl rfl) rfl ?_
    refine Sx.cons ?_
    refine Sx.yl (.move rfl) rfl ?_
    refine Sx.cons ?_
    refine Sx.guardF rfl rfl rfl rfl ?_
    refine Sx.cons ?_
    refine Sx.guardF rfl rfl rfl rfl ?_
    refine Sx.cons ?_
    refine Sx.guardF rfl rfl rfl rfl ?_
    refine Sx.cons ?_
    refine Sx.guardF rfl rfl rfl rfl ?_
    refine Sx.cons ?_
    refine Sx.yl (.pickF rfl rfl) rfl ?_
    refine Sx.nil ?_
    refine Sx.thenN ?_
    refine Sx.condF rfl ?_
    refine Sx.skip ?_
    refine Sx.thenN ?_
    refine Sx.seq ?_
    refine Sx.par (hd := [_, _, _, _, _, _, _, _, _, _, _, _, _, _, _, _, _, _, _, _, _, _]) 22 [] (by kernel_rfl) (by kernel_rfl) rfl (fun _ _ _ _ _ h => h) ?_
    first
      | refine Sx.rYl rfl (.loadW rfl Fx.agg26 (.head _) (ck_length _)) rfl ?_
      | refine Sx.rYl rfl (.loadW rfl Fx.agg26 (.tail _ (.head _)) (ck_length _)) rfl ?_
      | refine Sx.rYl rfl (.loadW rfl Fx.agg26 (.tail _ (.tail _ (.head _))) (ck_length _)) rfl ?_
      | refine Sx.rYl rfl (.loadW rfl Fx.agg26 (.tail _ (.tail _ (.tail _ (.head _)))) (ck_length _)) rfl ?_
      | refine Sx.rYl rfl (.loadW rfl Fx.agg26 (.tail _ (.tail _ (.tail _ (.tail _ (.head _))))) (ck_length _)) rfl ?_
      | refine Sx.rYl rfl (.loadW rfl Fx.agg26 (.tail _ (.tail _ (.tail _ (.tail _ (.tail _ (.head _)))))) (ck_length _)) rfl ?_
    first
      | refine Sx.rYl rfl (.loadW rfl Fx.agg26 (.head _) (ck_length _)) rfl ?_
      | refine Sx.rYl rfl (.loadW rfl Fx.agg26 (.tail _ (.head _)) (ck_length _)) rfl ?_
      | refine Sx.rYl rfl (.loadW rfl Fx.agg26 (.tail _ (.tail _ (.head _))) (ck_length _)) rfl ?_
      | refine Sx.rYl rfl (.loadW rfl Fx.agg26 (.tail _ (.tail _ (.tail _ (.head _)))) (ck_length _)) rfl ?_
      | refine Sx.rYl rfl (.loadW rfl Fx.agg26 (.tail _ (.tail _ (.tail _ (.tail _ (.head _))))) (ck_length _)) rfl ?_
      | refine Sx.rYl rfl (.loadW rfl Fx.agg26 (.tail _ (.tail _ (.tail _ (.tail _ (.tail _ (.head _)))))) (ck_length _)) rfl ?_
    refine Sx.rYl rfl (.call Fx.call16 rfl (fun W s => leq_any (ofF (xs0.take 16)) (ofF (xs1.take 16)) W)) rfl ?_
    refine Sx.rMove rfl rfl ?_
    refine Sx.rBool (fun h71 => ?_) (fun h71 => ?_)
    · skip
      first
        | refine Sx.rYlG rfl rfl rfl (.loadW rfl Fx.agg26 (.head _) (ck_length _)) rfl ?_
        | refine Sx.rYlG rfl rfl rfl (.loadW rfl Fx.agg26 (.tail _ (.head _)) (ck_length _)) rfl ?_
        | refine Sx.rYlG rfl rfl rfl (.loadW rfl Fx.agg26 (.tail _ (.tail _ (.head _))) (ck_length _)) rfl ?_
        | refine Sx.rYlG rfl rfl rfl (.loadW rfl Fx.agg26 (.tail _ (.tail _ (.tail _ (.head _)))) (ck_length _)) rfl ?_
        | refine Sx.rYlG rfl rfl rfl (.loadW rfl Fx.agg26 (.tail _ (.tail _ (.tail _ (.tail _ (.head _))))) (ck_length _)) rfl ?_
        | refine Sx.rYlG rfl rfl rfl (.loadW rfl Fx.agg26 (.tail _ (.tail _ (.tail _ (.tail _ (.tail _ (.head _)))))) (ck_length _)) rfl ?_
      first
        | refine Sx.rYlG rfl rfl rfl (.loadW rfl Fx.agg26 (.head _) (ck_length _)) rfl ?_
        | refine Sx.rYlG rfl rfl rfl (.loadW rfl Fx.agg26 (.tail _ (.head _)) (ck_length _)) rfl ?_
        | refine Sx.rYlG rfl rfl rfl (.loadW rfl Fx.agg26 (.tail _ (.tail _ (.head _))) (ck_length _)) rfl ?_
        | refine Sx.rYlG rfl rfl rfl (.loadW rfl Fx.agg26 (.tail _ (.tail _ (.tail _ (.head _)))) (ck_length _)) rfl ?_
        | refine Sx.rYlG rfl rfl rfl (.loadW rfl Fx.agg26 (.tail _ (.tail _ (.tail _ (.tail _ (.head _))))) (ck_length _)) rfl ?_
        | refine Sx.rYlG rfl rfl rfl (.loadW rfl Fx.agg26 (.tail _ (.tail _ (.tail _ (.tail _ (.tail _ (.head _)))))) (ck_length _)) rfl ?_
      refine Sx.rYlG rfl rfl rfl (.call Fx.call16 rfl (fun W s => leq_any (ofF (xs1.take 16)) (ofF (xs0.take 16)) W)) rfl ?_
      refine Sx.rYl rfl (.pickT rfl rfl) rfl ?_
      refine Sx.rYl rfl (.not rfl) rfl ?_
      refine Sx.rMove rfl rfl ?_
      refine Sx.rBool (fun h77 => ?_) (fun h77 => ?_)
      · skip
        refine Sx.rSkip rfl rfl rfl rfl ?_
        refine Sx.rSkip rfl rfl rfl rfl ?_
        refine Sx.rSkip rfl rfl rfl rfl ?_
        refine Sx.rSkip rfl rfl rfl rfl ?_
        refine Sx.rSkip rfl rfl rfl rfl ?_
        refine Sx.rSkipU rfl rfl rfl ?_
        refine Sx.rSkipU rfl rfl rfl ?_
        refine Sx.rSkipU rfl rfl rfl ?_
        refine Sx.rSkipU rfl rfl rfl ?_
        refine Sx.rSkipU rfl rfl rfl ?_
        refine Sx.rSkip rfl rfl rfl rfl ?_
        refine Sx.rYl rfl (.pickT rfl rfl) rfl ?_
        refine Sx.rFin (tl := [_]) rfl ?_
        refine Sx.cons ?_
        refine Sx.yl (.assign rfl) rfl ?_
        refine Sx.nil ?_
        refine Sx.thenN ?_
        refine Sx.ret ?_
        refine Sx.ret1 (.inl rfl) rfl (.tmp rfl) (fun W s => ⟨?_, s.ext⟩)
        first | rfl | (rw [text_anti h71 (by simpa using h77)]; simp)
      · skip
        first
          | refine Sx.rYlG rfl rfl rfl (.loadW rfl Fx.agg26 (.head _) (ck_length _)) rfl ?_
          | refine Sx.rYlG rfl rfl rfl (.loadW rfl Fx.agg26 (.tail _ (.head _)) (ck_length _)) rfl ?_
          | refine Sx.rYlG rfl rfl rfl (.loadW rfl Fx.agg26 (.tail _ (.tail _ (.head _))) (ck_length _)) rfl ?_
          | refine Sx.rYlG rfl rfl rfl (.loadW rfl Fx.agg26 (.tail _ (.tail _ (.tail _ (.head _)))) (ck_length _)) rfl ?_
          | refine Sx.rYlG rfl rfl rfl (.loadW rfl Fx.agg26 (.tail _ (.tail _ (.tail _ (.tail _ (.head _))))) (ck_length _)) rfl ?_
          | refine Sx.rYlG rfl rfl rfl (.loadW rfl Fx.agg26 (.tail _ (.tail _ (.tail _ (.tail _ (.tail _ (.head _)))))) (ck_length _)) rfl ?_
        first
          | refine Sx.rYlG rfl rfl rfl (.loadW rfl Fx.agg26 (.head _) (ck_length _)) rfl ?_
          | refine Sx.rYlG rfl rfl rfl (.loadW rfl Fx.agg26 (.tail _ (.head _)) (ck_length _)) rfl ?_
          | refine Sx.rYlG rfl rfl rfl (.loadW rfl Fx.agg26 (.tail _ (.tail _ (.head _))) (ck_length _)) rfl ?_
          | refine Sx.rYlG rfl rfl rfl (.loadW rfl Fx.agg26 (.tail _ (.tail _ (.tail _ (.head _)))) (ck_length _)) rfl ?_
          | refine Sx.rYlG rfl rfl rfl (.loadW rfl Fx.agg26 (.tail _ (.tail _ (.tail _ (.tail _ (.head _))))) (ck_length _)) rfl ?_
          | refine Sx.rYlG rfl rfl rfl (.loadW rfl Fx.agg26 (.tail _ (.tail _ (.tail _ (.tail _ (.tail _ (.head _)))))) (ck_length _)) rfl ?_
        refine Sx.rYlG rfl rfl rfl (.call Fx.call18 rfl (fun W s => cmp_to (cmp_anti h71 (by simpa using h77)) W)) rfl ?_
        refine Sx.rYlG rfl rfl rfl (.eql rfl rfl) rfl ?_
        refine Sx.rYlG rfl rfl rfl (.move rfl) rfl ?_
        first
          | refine Sx.rYlG rfl rfl rfl (.loadW rfl Fx.agg26 (.head _) (ck_length _)) rfl ?_
          | refine Sx.rYlG rfl rfl rfl (.loadW rfl Fx.agg26 (.tail _ (.head _)) (ck_length _)) rfl ?_
          | refine Sx.rYlG rfl rfl rfl (.loadW rfl Fx.agg26 (.tail _ (.tail _ (.head _))) (ck_length _)) rfl ?_
          | refine Sx.rYlG rfl rfl rfl (.loadW rfl Fx.agg26 (.tail _ (.tail _ (.tail _ (.head _)))) (ck_length _)) rfl ?_
          | refine Sx.rYlG rfl rfl rfl (.loadW rfl Fx.agg26 (.tail _ (.tail _ (.tail _ (.tail _ (.head _))))) (ck_length _)) rfl ?_
          | refine Sx.rYlG rfl rfl rfl (.loadW rfl Fx.agg26 (.tail _ (.tail _ (.tail _ (.tail _ (.tail _ (.head _)))))) (ck_length _)) rfl ?_
        refine Sx.rYlG rfl rfl rfl (.call Fx.call20 rfl (fun W s => text_any (ofF (xs0.take 16)) (take_rng r0) W (G.ext s.ext))) rfl ?_
        first
          | refine Sx.rYlG rfl rfl rfl (.loadW rfl Fx.agg26 (.head _) (ck_length _)) rfl ?_
          | refine Sx.rYlG rfl rfl rfl (.loadW rfl Fx.agg26 (.tail _ (.head _)) (ck_length _)) rfl ?_
          | refine Sx.rYlG rfl rfl rfl (.loadW rfl Fx.agg26 (.tail _ (.tail _ (.head _))) (ck_length _)) rfl ?_
          | refine Sx.rYlG rfl rfl rfl (.loadW rfl Fx.agg26 (.tail _ (.tail _ (.tail _ (.head _)))) (ck_length _)) rfl ?_
          | refine Sx.rYlG rfl rfl rfl (.loadW rfl Fx.agg26 (.tail _ (.tail _ (.tail _ (.tail _ (.head _))))) (ck_length _)) rfl ?_
          | refine Sx.rYlG rfl rfl rfl (.loadW rfl Fx.agg26 (.tail _ (.tail _ (.tail _ (.tail _ (.tail _ (.head _)))))) (ck_length _)) rfl ?_
        refine Sx.rYlG rfl rfl rfl (.call Fx.call20 rfl (fun W s => text_any (ofF (xs1.take 16)) (take_rng r1) W (G.ext s.ext))) rfl ?_
        refine Sx.rYlG rfl rfl rfl (.eqlS rfl rfl) rfl ?_
        refine Sx.rYlG rfl rfl rfl (.pickT rfl rfl) rfl ?_
        refine Sx.rYl rfl (.pickF rfl rfl) rfl ?_
        refine Sx.rFin (tl := [_]) rfl ?_
        refine Sx.cons ?_
        refine Sx.yl (.assign rfl) rfl ?_
        refine Sx.nil ?_
        refine Sx.thenN ?_
        refine Sx.ret ?_
        refine Sx.ret1 (.inl rfl) rfl (.tmp rfl) (fun W s => ⟨?_, s.ext⟩)
        first | rfl | (rw [text_anti h71 (by simpa using h77)]; simp)
    · skip
      refine Sx.rSkip rfl rfl rfl rfl ?_
      refine Sx.rSkip rfl rfl rfl rfl ?_
      refine Sx.rSkip rfl rfl rfl rfl ?_
      refine Sx.rYl rfl (.pickF rfl rfl) rfl ?_
      refine Sx.rYl rfl (.not rfl) rfl ?_
      refine Sx.rMove rfl rfl ?_
      refine Sx.rSkip rfl rfl rfl rfl ?_
      refine Sx.rSkip rfl rfl rfl rfl ?_
      refine Sx.rSkip rfl rfl rfl rfl ?_
      refine Sx.rSkip rfl rfl rfl rfl ?_
      refine Sx.rSkip rfl rfl rfl rfl ?_
      refine Sx.rSkipU rfl rfl rfl ?_
      refine Sx.rSkipU rfl rfl rfl ?_
      refine Sx.rSkipU rfl rfl rfl ?_
      refine Sx.rSkipU rfl rfl rfl ?_
      refine Sx.rSkipU rfl rfl rfl ?_
      refine Sx.rSkip rfl rfl rfl rfl ?_
      refine Sx.rYl rfl (.pickT rfl rfl) rfl ?_
      refine Sx.rFin (tl := [_]) rfl ?_
      refine Sx.cons ?_
      refine Sx.yl (.assign rfl) rfl ?_
      refine Sx.nil ?_
      refine Sx.thenN ?_
      refine Sx.ret ?_
      refine Sx.ret1 (.inl rfl) rfl (.tmp rfl) (fun W s => ⟨?_, s.ext⟩)
      first | rfl | (rw [text_anti h71 (by simpa using h77)]; simp)
set_option maxHeartbeats 4000000 in
set_option maxRecDepth 100000 in
theorem merges_any (H : Hp) (v0 : Value) (n0 : Nat) (xs0 : List Int) (h0 : SlAt H v0 n0 (u64L xs0)) (r0 : ∀ a ∈ xs0, 0 ≤ a ∧ a < 18446744073709551616) (v1 : Value) (n1 : Nat) (xs1 : List Int) (h1 : SlAt H v1 n1 (u64L xs1)) (r1 : ∀ a ∈ xs1, 0 ≤ a ∧ a < 18446744073709551616) (v2 : Value) (n2 : Nat) (xs2 : List Int) (h2 : SlAt H v2 n2 (u64L xs2)) (_ : ∀ a ∈ xs2, 0 ≤ a ∧ a < 18446744073709551616)  (w : World) (hA : Agr H w) (G : Globs w) :
    Calls Tryd.prog 8 #[v0, v1, v2] w fun e w' => e = .returned (.bool true) ∧ Ext w w' := by
  have hx := take_rng r0
  have hy := take_rng r1
  refine Sx.enter (H := H) Tryd.func8 rfl Tryd.ntmps8 rfl hA ?_
  refine Sx.seq ?_
  refine Sx.region ?_
  refine Sx.cons ?_
  refine Sx.yl (.assign rfl) rfl ?_
  refine Sx.nil ?_
  refine Sx.thenN ?_
  refine Sx.seq ?_
  refine Sx.region ?_
  refine Sx.cons ?_
  refine Sx.yl (.move rfl) rfl ?_
  refine Sx.cons ?_
  refine Sx.yl (.call Fx.call13 rfl (fun W s => both_any H v0 n0 xs0 h0 W s.agr)) rfl ?_
  refine Sx.cons ?_
  refine Sx.yl (.move rfl) rfl ?_
  refine Sx.cons ?_
  refine Sx.yl (.extract rfl rfl) rfl ?_
  refine Sx.cons ?_
  refine Sx.yl (.extract rfl rfl) rfl ?_
  refine Sx.cons ?_
  refine Sx.yl (.extract rfl rfl) rfl ?_
  refine Sx.cons ?_
  refine Sx.alloc Fx.zero26 rfl (fun b7 => ?_)
  refine Sx.cons ?_
  refine Sx.alloc Fx.zero27 rfl (fun b8 => ?_)
  refine Sx.cons ?_
  first
    | refine Sx.storeW rfl rfl Fx.size26 (ckL_one _) (.head) rfl ?_
    | refine Sx.storeW rfl rfl Fx.size26 (ckL_one _) (.tail (.head)) rfl ?_
  refine Sx.cons ?_
  first
    | refine Sx.storeW rfl rfl Fx.size27 (ckL_one _) (.head) rfl ?_
    | refine Sx.storeW rfl rfl Fx.size27 (ckL_one _) (.tail (.head)) rfl ?_
  refine Sx.cons ?_
  refine Sx.yl (.assign rfl) rfl ?_
  refine Sx.nil ?_
  refine Sx.thenN ?_
  refine Sx.seq ?_
  refine Sx.region ?_
  refine Sx.cons ?_
  refine Sx.yl (.move rfl) rfl ?_
  refine Sx.cons ?_
  refine Sx.yl (.call Fx.call13 rfl (fun W s => both_any H v1 n1 xs1 h1 W s.agr)) rfl ?_
  refine Sx.cons ?_
  refine Sx.yl (.move rfl) rfl ?_
  refine Sx.cons ?_
  refine Sx.yl (.extract rfl rfl) rfl ?_
  refine Sx.cons ?_
  refine Sx.yl (.extract rfl rfl) rfl ?_
  refine Sx.cons ?_
  refine Sx.yl (.extract rfl rfl) rfl ?_
  refine Sx.cons ?_
  refine Sx.alloc Fx.zero26 rfl (fun b10 => ?_)
  refine Sx.cons ?_
  refine Sx.alloc Fx.zero27 rfl (fun b11 => ?_)
  refine Sx.cons ?_
  first
    | refine Sx.storeW rfl rfl Fx.size26 (ckL_one _) (.head) rfl ?_
    | refine Sx.storeW rfl rfl Fx.size26 (ckL_one _) (.tail (.head)) rfl ?_
    | refine Sx.storeW rfl rfl Fx.size26 (ckL_one _) (.tail (.tail (.head))) rfl ?_
    | refine Sx.storeW rfl rfl Fx.size26 (ckL_one _) (.tail (.tail (.tail (.head)))) rfl ?_
  refine Sx.cons ?_
  first
    | refine Sx.storeW rfl rfl Fx.size27 (ckL_one _) (.head) rfl ?_
    | refine Sx.storeW rfl rfl Fx.size27 (ckL_one _) (.tail (.head)) rfl ?_
    | refine Sx.storeW rfl rfl Fx.size27 (ckL_one _) (.tail (.tail (.head))) rfl ?_
    | refine Sx.storeW rfl rfl Fx.size27 (ckL_one _) (.tail (.tail (.tail (.head)))) rfl ?_
  refine Sx.cons ?_
  refine Sx.yl (.assign rfl) rfl ?_
  refine Sx.nil ?_
  refine Sx.thenN ?_
  refine Sx.seq ?_
  refine Sx.region ?_
  refine Sx.cons ?_
  refine Sx.yl (.move rfl) rfl ?_
  refine Sx.cons ?_
  refine Sx.yl (.call Fx.call13 rfl (fun W s => both_any H v2 n2 xs2 h2 W s.agr)) rfl ?_
  refine Sx.cons ?_
  refine Sx.yl (.move rfl) rfl ?_
  refine Sx.cons ?_
  refine Sx.yl (.extract rfl rfl) rfl ?_
  refine Sx.cons ?_
  refine Sx.yl (.extract rfl rfl) rfl ?_
  refine Sx.cons ?_
  refine Sx.yl (.extract rfl rfl) rfl ?_
  refine Sx.cons ?_
  refine Sx.alloc Fx.zero26 rfl (fun b13 => ?_)
  refine Sx.cons ?_
  refine Sx.alloc Fx.zero27 rfl (fun b14 => ?_)
  refine Sx.cons ?_
  first
    | refine Sx.storeW rfl rfl Fx.size26 (ckL_one _) (.head) rfl ?_
    | refine Sx.storeW rfl rfl Fx.size26 (ckL_one _) (.tail (.head)) rfl ?_
    | refine Sx.storeW rfl rfl Fx.size26 (ckL_one _) (.tail (.tail (.head))) rfl ?_
    | refine Sx.storeW rfl rfl Fx.size26 (ckL_one _) (.tail (.tail (.tail (.head)))) rfl ?_
    | refine Sx.storeW rfl rfl Fx.size26 (ckL_one _) (.tail (.tail (.tail (.tail (.head))))) rfl ?_
    | refine Sx.storeW rfl rfl Fx.size26 (ckL_one _) (.tail (.tail (.tail (.tail (.tail (.head)))))) rfl ?_
  refine Sx.cons ?_
  first
    | refine Sx.storeW rfl rfl Fx.size27 (ckL_one _) (.head) rfl ?_
    | refine Sx.storeW rfl rfl Fx.size27 (ckL_one _) (.tail (.head)) rfl ?_
    | refine Sx.storeW rfl rfl Fx.size27 (ckL_one _) (.tail (.tail (.head))) rfl ?_
    | refine Sx.storeW rfl rfl Fx.size27 (ckL_one _) (.tail (.tail (.tail (.head)))) rfl ?_
    | refine Sx.storeW rfl rfl Fx.size27 (ckL_one _) (.tail (.tail (.tail (.tail (.head))))) rfl ?_
    | refine Sx.storeW rfl rfl Fx.size27 (ckL_one _) (.tail (.tail (.tail (.tail (.tail (.head)))))) rfl ?_
  refine Sx.cons ?_
  refine Sx.yl (.assign rfl) rfl ?_
  refine Sx.nil ?_
  refine Sx.thenN ?_
  refine Sx.seq ?_
  refine Sx.seq ?_
  refine Sx.region ?_
  refine Sx.cons ?_
  refine Sx.yl (.call Fx.call15 rfl (fun W s => awake_any W (G.ext s.ext))) rfl ?_
  refine Sx.cons ?_
  refine Sx.yl (.not rfl) rfl ?_
  refine Sx.cons ?_
  refine Sx.yl (.move rfl) rfl ?_
  refine Sx.cons ?_
  refine Sx.guardT rfl rfl ?_
  refine Sx.yl (.move rfl) rfl ?_
  refine Sx.cons ?_
  refine Sx.guardT rfl rfl ?_
  refine Sx.yl (.not rfl) rfl ?_
  refine Sx.cons ?_
  refine Sx.yl (.pickF rfl rfl) rfl ?_
  refine Sx.cons ?_
  refine Sx.yl (.move rfl) rfl ?_
  refine Sx.cons ?_
  refine Sx.guardT rfl rfl ?_
  refine Sx.yl (.move rfl) rfl ?_
  refine Sx.cons ?_
  refine Sx.guardT rfl rfl ?_
  refine Sx.yl (.not rfl) rfl ?_
  refine Sx.cons ?_
  refine Sx.yl (.pickF rfl rfl) rfl ?_
  refine Sx.cons ?_
  refine Sx.yl (.move rfl) rfl ?_
  refine Sx.cons ?_
  refine Sx.guardT rfl rfl ?_
  refine Sx.yl (.move rfl) rfl ?_
  refine Sx.cons ?_
  refine Sx.guardT rfl rfl ?_
  refine Sx.yl (.not rfl) rfl ?_
  refine Sx.cons ?_
  refine Sx.yl (.pickF rfl rfl) rfl ?_
  refine Sx.nil ?_
  refine Sx.thenN ?_
  refine Sx.condF rfl ?_
  refine Sx.skip ?_
  refine Sx.thenN ?_
  refine Sx.seq ?_
  refine Sx.region ?_
  refine Sx.cons ?_
  first
    | refine Sx.yl (.loadW rfl Fx.agg26 (.head _) (ck_length _)) rfl ?_
    | refine Sx.yl (.loadW rfl Fx.agg26 (.tail _ (.head _)) (ck_length _)) rfl ?_
    | refine Sx.yl (.loadW rfl Fx.agg26 (.tail _ (.tail _ (.head _))) (ck_length _)) rfl ?_
    | refine Sx.yl (.loadW rfl Fx.agg26 (.tail _ (.tail _ (.tail _ (.head _)))) (ck_length _)) rfl ?_
    | refine Sx.yl (.loadW rfl Fx.agg26 (.tail _ (.tail _ (.tail _ (.tail _ (.head _))))) (ck_length _)) rfl ?_
    | refine Sx.yl (.loadW rfl Fx.agg26 (.tail _ (.tail _ (.tail _ (.tail _ (.tail _ (.head _)))))) (ck_length _)) rfl ?_
  refine Sx.cons ?_
  first
    | refine Sx.yl (.loadW rfl Fx.agg26 (.head _) (ck_length _)) rfl ?_
    | refine Sx.yl (.loadW rfl Fx.agg26 (.tail _ (.head _)) (ck_length _)) rfl ?_
    | refine Sx.yl (.loadW rfl Fx.agg26 (.tail _ (.tail _ (.head _))) (ck_length _)) rfl ?_
    | refine Sx.yl (.loadW rfl Fx.agg26 (.tail _ (.tail _ (.tail _ (.head _)))) (ck_length _)) rfl ?_
    | refine Sx.yl (.loadW rfl Fx.agg26 (.tail _ (.tail _ (.tail _ (.tail _ (.head _))))) (ck_length _)) rfl ?_
    | refine Sx.yl (.loadW rfl Fx.agg26 (.tail _ (.tail _ (.tail _ (.tail _ (.tail _ (.head _)))))) (ck_length _)) rfl ?_
  refine Sx.cons ?_
  refine Sx.yl (.call Fx.call14 rfl (fun W s => merge_any (ofF (xs0.take 16)) (ofF (xs1.take 16)) W)) rfl ?_
  refine Sx.cons ?_
  refine Sx.alloc Fx.zero26 rfl (fun b16 => ?_)
  refine Sx.cons ?_
  first
    | refine Sx.storeW rfl rfl Fx.size26 (ckL_one _) (.head) rfl ?_
    | refine Sx.storeW rfl rfl Fx.size26 (ckL_one _) (.tail (.head)) rfl ?_
    | refine Sx.storeW rfl rfl Fx.size26 (ckL_one _) (.tail (.tail (.head))) rfl ?_
    | refine Sx.storeW rfl rfl Fx.size26 (ckL_one _) (.tail (.tail (.tail (.head)))) rfl ?_
    | refine Sx.storeW rfl rfl Fx.size26 (ckL_one _) (.tail (.tail (.tail (.tail (.head))))) rfl ?_
    | refine Sx.storeW rfl rfl Fx.size26 (ckL_one _) (.tail (.tail (.tail (.tail (.tail (.head)))))) rfl ?_
    | refine Sx.storeW rfl rfl Fx.size26 (ckL_one _) (.tail (.tail (.tail (.tail (.tail (.tail (.head))))))) rfl ?_
  refine Sx.nil ?_
  refine Sx.thenN ?_
  refine Sx.seq ?_
  refine Sx.par (hd := [_, _, _, _, _, _, _, _, _, _, _, _, _, _, _, _, _, _, _, _, _, _, _, _, _, _, _, _, _, _, _, _, _, _, _, _, _, _, _, _, _, _, _]) 43 [] (by kernel_rfl) (by kernel_rfl) rfl (fun _ _ _ _ _ h => h) ?_
  first
    | refine Sx.rYl rfl (.loadW rfl Fx.agg26 (.head _) (ck_length _)) rfl ?_
    | refine Sx.rYl rfl (.loadW rfl Fx.agg26 (.tail _ (.head _)) (ck_length _)) rfl ?_
    | refine Sx.rYl rfl (.loadW rfl Fx.agg26 (.tail _ (.tail _ (.head _))) (ck_length _)) rfl ?_
    | refine Sx.rYl rfl (.loadW rfl Fx.agg26 (.tail _ (.tail _ (.tail _ (.head _)))) (ck_length _)) rfl ?_
    | refine Sx.rYl rfl (.loadW rfl Fx.agg26 (.tail _ (.tail _ (.tail _ (.tail _ (.head _))))) (ck_length _)) rfl ?_
    | refine Sx.rYl rfl (.loadW rfl Fx.agg26 (.tail _ (.tail _ (.tail _ (.tail _ (.tail _ (.head _)))))) (ck_length _)) rfl ?_
    | refine Sx.rYl rfl (.loadW rfl Fx.agg26 (.tail _ (.tail _ (.tail _ (.tail _ (.tail _ (.tail _ (.head _))))))) (ck_length _)) rfl ?_
  first
    | refine Sx.rYl rfl (.loadW rfl Fx.agg27 (.head _) (ck_length _)) rfl ?_
    | refine Sx.rYl rfl (.loadW rfl Fx.agg27 (.tail _ (.head _)) (ck_length _)) rfl ?_
    | refine Sx.rYl rfl (.loadW rfl Fx.agg27 (.tail _ (.tail _ (.head _))) (ck_length _)) rfl ?_
    | refine Sx.rYl rfl (.loadW rfl Fx.agg27 (.tail _ (.tail _ (.tail _ (.head _)))) (ck_length _)) rfl ?_
    | refine Sx.rYl rfl (.loadW rfl Fx.agg27 (.tail _ (.tail _ (.tail _ (.tail _ (.head _))))) (ck_length _)) rfl ?_
    | refine Sx.rYl rfl (.loadW rfl Fx.agg27 (.tail _ (.tail _ (.tail _ (.tail _ (.tail _ (.head _)))))) (ck_length _)) rfl ?_
    | refine Sx.rYl rfl (.loadW rfl Fx.agg27 (.tail _ (.tail _ (.tail _ (.tail _ (.tail _ (.tail _ (.head _))))))) (ck_length _)) rfl ?_
  first
    | refine Sx.rYl rfl (.loadW rfl Fx.agg27 (.head _) (ck_length _)) rfl ?_
    | refine Sx.rYl rfl (.loadW rfl Fx.agg27 (.tail _ (.head _)) (ck_length _)) rfl ?_
    | refine Sx.rYl rfl (.loadW rfl Fx.agg27 (.tail _ (.tail _ (.head _))) (ck_length _)) rfl ?_
    | refine Sx.rYl rfl (.loadW rfl Fx.agg27 (.tail _ (.tail _ (.tail _ (.head _)))) (ck_length _)) rfl ?_
    | refine Sx.rYl rfl (.loadW rfl Fx.agg27 (.tail _ (.tail _ (.tail _ (.tail _ (.head _))))) (ck_length _)) rfl ?_
    | refine Sx.rYl rfl (.loadW rfl Fx.agg27 (.tail _ (.tail _ (.tail _ (.tail _ (.tail _ (.head _)))))) (ck_length _)) rfl ?_
    | refine Sx.rYl rfl (.loadW rfl Fx.agg27 (.tail _ (.tail _ (.tail _ (.tail _ (.tail _ (.tail _ (.head _))))))) (ck_length _)) rfl ?_
  refine Sx.rYl rfl (.call Fx.call25 rfl (fun W s => rmerge_any (ofF (xs0.take 16)) (ofF (xs1.take 16)) W)) rfl ?_
  refine Sx.rYl rfl (.call Fx.call24 rfl (fun W s => is_to (x := (mergeF (ofF (xs0.take 16)) (ofF (xs1.take 16)))) (y := (mergeF (ofF (xs0.take 16)) (ofF (xs1.take 16)))) rfl (merge_rng hx hy) W)) rfl ?_
  refine Sx.rMove rfl rfl ?_
  first
    | refine Sx.rYlG rfl rfl rfl (.loadW rfl Fx.agg26 (.head _) (ck_length _)) rfl ?_
    | refine Sx.rYlG rfl rfl rfl (.loadW rfl Fx.agg26 (.tail _ (.head _)) (ck_length _)) rfl ?_
    | refine Sx.rYlG rfl rfl rfl (.loadW rfl Fx.agg26 (.tail _ (.tail _ (.head _))) (ck_length _)) rfl ?_
    | refine Sx.rYlG rfl rfl rfl (.loadW rfl Fx.agg26 (.tail _ (.tail _ (.tail _ (.head _)))) (ck_length _)) rfl ?_
    | refine Sx.rYlG rfl rfl rfl (.loadW rfl Fx.agg26 (.tail _ (.tail _ (.tail _ (.tail _ (.head _))))) (ck_length _)) rfl ?_
    | refine Sx.rYlG rfl rfl rfl (.loadW rfl Fx.agg26 (.tail _ (.tail _ (.tail _ (.tail _ (.tail _ (.head _)))))) (ck_length _)) rfl ?_
    | refine Sx.rYlG rfl rfl rfl (.loadW rfl Fx.agg26 (.tail _ (.tail _ (.tail _ (.tail _ (.tail _ (.tail _ (.head _))))))) (ck_length _)) rfl ?_
  first
    | refine Sx.rYlG rfl rfl rfl (.loadW rfl Fx.agg26 (.head _) (ck_length _)) rfl ?_
    | refine Sx.rYlG rfl rfl rfl (.loadW rfl Fx.agg26 (.tail _ (.head _)) (ck_length _)) rfl ?_
    | refine Sx.rYlG rfl rfl rfl (.loadW rfl Fx.agg26 (.tail _ (.tail _ (.head _))) (ck_length _)) rfl ?_
    | refine Sx.rYlG rfl rfl rfl (.loadW rfl Fx.agg26 (.tail _ (.tail _ (.tail _ (.head _)))) (ck_length _)) rfl ?_
    | refine Sx.rYlG rfl rfl rfl (.loadW rfl Fx.agg26 (.tail _ (.tail _ (.tail _ (.tail _ (.head _))))) (ck_length _)) rfl ?_
    | refine Sx.rYlG rfl rfl rfl (.loadW rfl Fx.agg26 (.tail _ (.tail _ (.tail _ (.tail _ (.tail _ (.head _)))))) (ck_length _)) rfl ?_
    | refine Sx.rYlG rfl rfl rfl (.loadW rfl Fx.agg26 (.tail _ (.tail _ (.tail _ (.tail _ (.tail _ (.tail _ (.head _))))))) (ck_length _)) rfl ?_
  refine Sx.rYlG rfl rfl rfl (.call Fx.call14 rfl (fun W s => merge_any (ofF (xs1.take 16)) (ofF (xs0.take 16)) W)) rfl ?_
  first
    | refine Sx.rYlG rfl rfl rfl (.loadW rfl Fx.agg27 (.head _) (ck_length _)) rfl ?_
    | refine Sx.rYlG rfl rfl rfl (.loadW rfl Fx.agg27 (.tail _ (.head _)) (ck_length _)) rfl ?_
    | refine Sx.rYlG rfl rfl rfl (.loadW rfl Fx.agg27 (.tail _ (.tail _ (.head _))) (ck_length _)) rfl ?_
    | refine Sx.rYlG rfl rfl rfl (.loadW rfl Fx.agg27 (.tail _ (.tail _ (.tail _ (.head _)))) (ck_length _)) rfl ?_
    | refine Sx.rYlG rfl rfl rfl (.loadW rfl Fx.agg27 (.tail _ (.tail _ (.tail _ (.tail _ (.head _))))) (ck_length _)) rfl ?_
    | refine Sx.rYlG rfl rfl rfl (.loadW rfl Fx.agg27 (.tail _ (.tail _ (.tail _ (.tail _ (.tail _ (.head _)))))) (ck_length _)) rfl ?_
    | refine Sx.rYlG rfl rfl rfl (.loadW rfl Fx.agg27 (.tail _ (.tail _ (.tail _ (.tail _ (.tail _ (.tail _ (.head _))))))) (ck_length _)) rfl ?_
  first
    | refine Sx.rYlG rfl rfl rfl (.loadW rfl Fx.agg27 (.head _) (ck_length _)) rfl ?_
    | refine Sx.rYlG rfl rfl rfl (.loadW rfl Fx.agg27 (.tail _ (.head _)) (ck_length _)) rfl ?_
    | refine Sx.rYlG rfl rfl rfl (.loadW rfl Fx.agg27 (.tail _ (.tail _ (.head _))) (ck_length _)) rfl ?_
    | refine Sx.rYlG rfl rfl rfl (.loadW rfl Fx.agg27 (.tail _ (.tail _ (.tail _ (.head _)))) (ck_length _)) rfl ?_
    | refine Sx.rYlG rfl rfl rfl (.loadW rfl Fx.agg27 (.tail _ (.tail _ (.tail _ (.tail _ (.head _))))) (ck_length _)) rfl ?_
    | refine Sx.rYlG rfl rfl rfl (.loadW rfl Fx.agg27 (.tail _ (.tail _ (.tail _ (.tail _ (.tail _ (.head _)))))) (ck_length _)) rfl ?_
    | refine Sx.rYlG rfl rfl rfl (.loadW rfl Fx.agg27 (.tail _ (.tail _ (.tail _ (.tail _ (.tail _ (.tail _ (.head _))))))) (ck_length _)) rfl ?_
  refine Sx.rYlG rfl rfl rfl (.call Fx.call25 rfl (fun W s => rmerge_any (ofF (xs0.take 16)) (ofF (xs1.take 16)) W)) rfl ?_
  refine Sx.rYlG rfl rfl rfl (.call Fx.call24 rfl (fun W s => is_to (merge_comm (ofF (xs1.take 16)) (ofF (xs0.take 16))) (merge_rng hy hx) W)) rfl ?_
  refine Sx.rYl rfl (.pickT rfl rfl) rfl ?_
  refine Sx.rMove rfl rfl ?_
  first
    | refine Sx.rYlG rfl rfl rfl (.loadW rfl Fx.agg26 (.head _) (ck_length _)) rfl ?_
    | refine Sx.rYlG rfl rfl rfl (.loadW rfl Fx.agg26 (.tail _ (.head _)) (ck_length _)) rfl ?_
    | refine Sx.rYlG rfl rfl rfl (.loadW rfl Fx.agg26 (.tail _ (.tail _ (.head _))) (ck_length _)) rfl ?_
    | refine Sx.rYlG rfl rfl rfl (.loadW rfl Fx.agg26 (.tail _ (.tail _ (.tail _ (.head _)))) (ck_length _)) rfl ?_
    | refine Sx.rYlG rfl rfl rfl (.loadW rfl Fx.agg26 (.tail _ (.tail _ (.tail _ (.tail _ (.head _))))) (ck_length _)) rfl ?_
    | refine Sx.rYlG rfl rfl rfl (.loadW rfl Fx.agg26 (.tail _ (.tail _ (.tail _ (.tail _ (.tail _ (.head _)))))) (ck_length _)) rfl ?_
    | refine Sx.rYlG rfl rfl rfl (.loadW rfl Fx.agg26 (.tail _ (.tail _ (.tail _ (.tail _ (.tail _ (.tail _ (.head _))))))) (ck_length _)) rfl ?_
  first
    | refine Sx.rYlG rfl rfl rfl (.loadW rfl Fx.agg26 (.head _) (ck_length _)) rfl ?_
    | refine Sx.rYlG rfl rfl rfl (.loadW rfl Fx.agg26 (.tail _ (.head _)) (ck_length _)) rfl ?_
    | refine Sx.rYlG rfl rfl rfl (.loadW rfl Fx.agg26 (.tail _ (.tail _ (.head _))) (ck_length _)) rfl ?_
    | refine Sx.rYlG rfl rfl rfl (.loadW rfl Fx.agg26 (.tail _ (.tail _ (.tail _ (.head _)))) (ck_length _)) rfl ?_
    | refine Sx.rYlG rfl rfl rfl (.loadW rfl Fx.agg26 (.tail _ (.tail _ (.tail _ (.tail _ (.head _))))) (ck_length _)) rfl ?_
    | refine Sx.rYlG rfl rfl rfl (.loadW rfl Fx.agg26 (.tail _ (.tail _ (.tail _ (.tail _ (.tail _ (.head _)))))) (ck_length _)) rfl ?_
    | refine Sx.rYlG rfl rfl rfl (.loadW rfl Fx.agg26 (.tail _ (.tail _ (.tail _ (.tail _ (.tail _ (.tail _ (.head _))))))) (ck_length _)) rfl ?_
  refine Sx.rYlG rfl rfl rfl (.call Fx.call14 rfl (fun W s => merge_any (ofF (xs0.take 16)) (ofF (xs0.take 16)) W)) rfl ?_
  first
    | refine Sx.rYlG rfl rfl rfl (.loadW rfl Fx.agg27 (.head _) (ck_length _)) rfl ?_
    | refine Sx.rYlG rfl rfl rfl (.loadW rfl Fx.agg27 (.tail _ (.head _)) (ck_length _)) rfl ?_
    | refine Sx.rYlG rfl rfl rfl (.loadW rfl Fx.agg27 (.tail _ (.tail _ (.head _))) (ck_length _)) rfl ?_
    | refine Sx.rYlG rfl rfl rfl (.loadW rfl Fx.agg27 (.tail _ (.tail _ (.tail _ (.head _)))) (ck_length _)) rfl ?_
    | refine Sx.rYlG rfl rfl rfl (.loadW rfl Fx.agg27 (.tail _ (.tail _ (.tail _ (.tail _ (.head _))))) (ck_length _)) rfl ?_
    | refine Sx.rYlG rfl rfl rfl (.loadW rfl Fx.agg27 (.tail _ (.tail _ (.tail _ (.tail _ (.tail _ (.head _)))))) (ck_length _)) rfl ?_
    | refine Sx.rYlG rfl rfl rfl (.loadW rfl Fx.agg27 (.tail _ (.tail _ (.tail _ (.tail _ (.tail _ (.tail _ (.head _))))))) (ck_length _)) rfl ?_
  refine Sx.rYlG rfl rfl rfl (.call Fx.call24 rfl (fun W s => is_to (merge_self (ofF (xs0.take 16))) (merge_rng hx hx) W)) rfl ?_
  refine Sx.rYl rfl (.pickT rfl rfl) rfl ?_
  refine Sx.rMove rfl rfl ?_
  first
    | refine Sx.rYlG rfl rfl rfl (.loadW rfl Fx.agg26 (.head _) (ck_length _)) rfl ?_
    | refine Sx.rYlG rfl rfl rfl (.loadW rfl Fx.agg26 (.tail _ (.head _)) (ck_length _)) rfl ?_
    | refine Sx.rYlG rfl rfl rfl (.loadW rfl Fx.agg26 (.tail _ (.tail _ (.head _))) (ck_length _)) rfl ?_
    | refine Sx.rYlG rfl rfl rfl (.loadW rfl Fx.agg26 (.tail _ (.tail _ (.tail _ (.head _)))) (ck_length _)) rfl ?_
    | refine Sx.rYlG rfl rfl rfl (.loadW rfl Fx.agg26 (.tail _ (.tail _ (.tail _ (.tail _ (.head _))))) (ck_length _)) rfl ?_
    | refine Sx.rYlG rfl rfl rfl (.loadW rfl Fx.agg26 (.tail _ (.tail _ (.tail _ (.tail _ (.tail _ (.head _)))))) (ck_length _)) rfl ?_
    | refine Sx.rYlG rfl rfl rfl (.loadW rfl Fx.agg26 (.tail _ (.tail _ (.tail _ (.tail _ (.tail _ (.tail _ (.head _))))))) (ck_length _)) rfl ?_
  first
    | refine Sx.rYlG rfl rfl rfl (.loadW rfl Fx.agg26 (.head _) (ck_length _)) rfl ?_
    | refine Sx.rYlG rfl rfl rfl (.loadW rfl Fx.agg26 (.tail _ (.head _)) (ck_length _)) rfl ?_
    | refine Sx.rYlG rfl rfl rfl (.loadW rfl Fx.agg26 (.tail _ (.tail _ (.head _))) (ck_length _)) rfl ?_
    | refine Sx.rYlG rfl rfl rfl (.loadW rfl Fx.agg26 (.tail _ (.tail _ (.tail _ (.head _)))) (ck_length _)) rfl ?_
    | refine Sx.rYlG rfl rfl rfl (.loadW rfl Fx.agg26 (.tail _ (.tail _ (.tail _ (.tail _ (.head _))))) (ck_length _)) rfl ?_
    | refine Sx.rYlG rfl rfl rfl (.loadW rfl Fx.agg26 (.tail _ (.tail _ (.tail _ (.tail _ (.tail _ (.head _)))))) (ck_length _)) rfl ?_
    | refine Sx.rYlG rfl rfl rfl (.loadW rfl Fx.agg26 (.tail _ (.tail _ (.tail _ (.tail _ (.tail _ (.tail _ (.head _))))))) (ck_length _)) rfl ?_
  refine Sx.rYlG rfl rfl rfl (.call Fx.call14 rfl (fun W s => merge_any (mergeF (ofF (xs0.take 16)) (ofF (xs1.take 16))) (ofF (xs2.take 16)) W)) rfl ?_
  first
    | refine Sx.rYlG rfl rfl rfl (.loadW rfl Fx.agg26 (.head _) (ck_length _)) rfl ?_
    | refine Sx.rYlG rfl rfl rfl (.loadW rfl Fx.agg26 (.tail _ (.head _)) (ck_length _)) rfl ?_
    | refine Sx.rYlG rfl rfl rfl (.loadW rfl Fx.agg26 (.tail _ (.tail _ (.head _))) (ck_length _)) rfl ?_
    | refine Sx.rYlG rfl rfl rfl (.loadW rfl Fx.agg26 (.tail _ (.tail _ (.tail _ (.head _)))) (ck_length _)) rfl ?_
    | refine Sx.rYlG rfl rfl rfl (.loadW rfl Fx.agg26 (.tail _ (.tail _ (.tail _ (.tail _ (.head _))))) (ck_length _)) rfl ?_
    | refine Sx.rYlG rfl rfl rfl (.loadW rfl Fx.agg26 (.tail _ (.tail _ (.tail _ (.tail _ (.tail _ (.head _)))))) (ck_length _)) rfl ?_
    | refine Sx.rYlG rfl rfl rfl (.loadW rfl Fx.agg26 (.tail _ (.tail _ (.tail _ (.tail _ (.tail _ (.tail _ (.head _))))))) (ck_length _)) rfl ?_
  first
    | refine Sx.rYlG rfl rfl rfl (.loadW rfl Fx.agg26 (.head _) (ck_length _)) rfl ?_
    | refine Sx.rYlG rfl rfl rfl (.loadW rfl Fx.agg26 (.tail _ (.head _)) (ck_length _)) rfl ?_
    | refine Sx.rYlG rfl rfl rfl (.loadW rfl Fx.agg26 (.tail _ (.tail _ (.head _))) (ck_length _)) rfl ?_
    | refine Sx.rYlG rfl rfl rfl (.loadW rfl Fx.agg26 (.tail _ (.tail _ (.tail _ (.head _)))) (ck_length _)) rfl ?_
    | refine Sx.rYlG rfl rfl rfl (.loadW rfl Fx.agg26 (.tail _ (.tail _ (.tail _ (.tail _ (.head _))))) (ck_length _)) rfl ?_
    | refine Sx.rYlG rfl rfl rfl (.loadW rfl Fx.agg26 (.tail _ (.tail _ (.tail _ (.tail _ (.tail _ (.head _)))))) (ck_length _)) rfl ?_
    | refine Sx.rYlG rfl rfl rfl (.loadW rfl Fx.agg26 (.tail _ (.tail _ (.tail _ (.tail _ (.tail _ (.tail _ (.head _))))))) (ck_length _)) rfl ?_
  first
    | refine Sx.rYlG rfl rfl rfl (.loadW rfl Fx.agg26 (.head _) (ck_length _)) rfl ?_
    | refine Sx.rYlG rfl rfl rfl (.loadW rfl Fx.agg26 (.tail _ (.head _)) (ck_length _)) rfl ?_
    | refine Sx.rYlG rfl rfl rfl (.loadW rfl Fx.agg26 (.tail _ (.tail _ (.head _))) (ck_length _)) rfl ?_
    | refine Sx.rYlG rfl rfl rfl (.loadW rfl Fx.agg26 (.tail _ (.tail _ (.tail _ (.head _)))) (ck_length _)) rfl ?_
    | refine Sx.rYlG rfl rfl rfl (.loadW rfl Fx.agg26 (.tail _ (.tail _ (.tail _ (.tail _ (.head _))))) (ck_length _)) rfl ?_
    | refine Sx.rYlG rfl rfl rfl (.loadW rfl Fx.agg26 (.tail _ (.tail _ (.tail _ (.tail _ (.tail _ (.head _)))))) (ck_length _)) rfl ?_
    | refine Sx.rYlG rfl rfl rfl (.loadW rfl Fx.agg26 (.tail _ (.tail _ (.tail _ (.tail _ (.tail _ (.tail _ (.head _))))))) (ck_length _)) rfl ?_
  refine Sx.rYlG rfl rfl rfl (.call Fx.call14 rfl (fun W s => merge_any (ofF (xs1.take 16)) (ofF (xs2.take 16)) W)) rfl ?_
  refine Sx.rYlG rfl rfl rfl (.call Fx.call14 rfl (fun W s => merge_any (ofF (xs0.take 16)) (mergeF (ofF (xs1.take 16)) (ofF (xs2.take 16))) W)) rfl ?_
  refine Sx.rYlG rfl rfl rfl (.call Fx.call18 rfl (fun W s => cmp_to (x := mergeF (mergeF (ofF (xs0.take 16)) (ofF (xs1.take 16))) (ofF (xs2.take 16))) (y := mergeF (ofF (xs0.take 16)) (mergeF (ofF (xs1.take 16)) (ofF (xs2.take 16)))) (by rw [merge_assoc, cmp_refl]) W)) rfl ?_
  refine Sx.rYlG rfl rfl rfl (.eql rfl rfl) rfl ?_
  refine Sx.rYl rfl (.pickT rfl rfl) rfl ?_
  refine Sx.rMove rfl rfl ?_
  first
    | refine Sx.rYlG rfl rfl rfl (.loadW rfl Fx.agg26 (.head _) (ck_length _)) rfl ?_
    | refine Sx.rYlG rfl rfl rfl (.loadW rfl Fx.agg26 (.tail _ (.head _)) (ck_length _)) rfl ?_
    | refine Sx.rYlG rfl rfl rfl (.loadW rfl Fx.agg26 (.tail _ (.tail _ (.head _))) (ck_length _)) rfl ?_
    | refine Sx.rYlG rfl rfl rfl (.loadW rfl Fx.agg26 (.tail _ (.tail _ (.tail _ (.head _)))) (ck_length _)) rfl ?_
    | refine Sx.rYlG rfl rfl rfl (.loadW rfl Fx.agg26 (.tail _ (.tail _ (.tail _ (.tail _ (.head _))))) (ck_length _)) rfl ?_
    | refine Sx.rYlG rfl rfl rfl (.loadW rfl Fx.agg26 (.tail _ (.tail _ (.tail _ (.tail _ (.tail _ (.head _)))))) (ck_length _)) rfl ?_
    | refine Sx.rYlG rfl rfl rfl (.loadW rfl Fx.agg26 (.tail _ (.tail _ (.tail _ (.tail _ (.tail _ (.tail _ (.head _))))))) (ck_length _)) rfl ?_
  first
    | refine Sx.rYlG rfl rfl rfl (.loadW rfl Fx.agg27 (.head _) (ck_length _)) rfl ?_
    | refine Sx.rYlG rfl rfl rfl (.loadW rfl Fx.agg27 (.tail _ (.head _)) (ck_length _)) rfl ?_
    | refine Sx.rYlG rfl rfl rfl (.loadW rfl Fx.agg27 (.tail _ (.tail _ (.head _))) (ck_length _)) rfl ?_
    | refine Sx.rYlG rfl rfl rfl (.loadW rfl Fx.agg27 (.tail _ (.tail _ (.tail _ (.head _)))) (ck_length _)) rfl ?_
    | refine Sx.rYlG rfl rfl rfl (.loadW rfl Fx.agg27 (.tail _ (.tail _ (.tail _ (.tail _ (.head _))))) (ck_length _)) rfl ?_
    | refine Sx.rYlG rfl rfl rfl (.loadW rfl Fx.agg27 (.tail _ (.tail _ (.tail _ (.tail _ (.tail _ (.head _)))))) (ck_length _)) rfl ?_
    | refine Sx.rYlG rfl rfl rfl (.loadW rfl Fx.agg27 (.tail _ (.tail _ (.tail _ (.tail _ (.tail _ (.tail _ (.head _))))))) (ck_length _)) rfl ?_
  refine Sx.rYlG rfl rfl rfl (.call Fx.call24 rfl (fun W s => is_any (ofF (xs0.take 16)) hx W)) rfl ?_
  refine Sx.rYl rfl (.pickT rfl rfl) rfl ?_
  refine Sx.rMove rfl rfl ?_
  first
    | refine Sx.rYlG rfl rfl rfl (.loadW rfl Fx.agg26 (.head _) (ck_length _)) rfl ?_
    | refine Sx.rYlG rfl rfl rfl (.loadW rfl Fx.agg26 (.tail _ (.head _)) (ck_length _)) rfl ?_
    | refine Sx.rYlG rfl rfl rfl (.loadW rfl Fx.agg26 (.tail _ (.tail _ (.head _))) (ck_length _)) rfl ?_
    | refine Sx.rYlG rfl rfl rfl (.loadW rfl Fx.agg26 (.tail _ (.tail _ (.tail _ (.head _)))) (ck_length _)) rfl ?_
    | refine Sx.rYlG rfl rfl rfl (.loadW rfl Fx.agg26 (.tail _ (.tail _ (.tail _ (.tail _ (.head _))))) (ck_length _)) rfl ?_
    | refine Sx.rYlG rfl rfl rfl (.loadW rfl Fx.agg26 (.tail _ (.tail _ (.tail _ (.tail _ (.tail _ (.head _)))))) (ck_length _)) rfl ?_
    | refine Sx.rYlG rfl rfl rfl (.loadW rfl Fx.agg26 (.tail _ (.tail _ (.tail _ (.tail _ (.tail _ (.tail _ (.head _))))))) (ck_length _)) rfl ?_
  first
    | refine Sx.rYlG rfl rfl rfl (.loadW rfl Fx.agg27 (.head _) (ck_length _)) rfl ?_
    | refine Sx.rYlG rfl rfl rfl (.loadW rfl Fx.agg27 (.tail _ (.head _)) (ck_length _)) rfl ?_
    | refine Sx.rYlG rfl rfl rfl (.loadW rfl Fx.agg27 (.tail _ (.tail _ (.head _))) (ck_length _)) rfl ?_
    | refine Sx.rYlG rfl rfl rfl (.loadW rfl Fx.agg27 (.tail _ (.tail _ (.tail _ (.head _)))) (ck_length _)) rfl ?_
    | refine Sx.rYlG rfl rfl rfl (.loadW rfl Fx.agg27 (.tail _ (.tail _ (.tail _ (.tail _ (.head _))))) (ck_length _)) rfl ?_
    | refine Sx.rYlG rfl rfl rfl (.loadW rfl Fx.agg27 (.tail _ (.tail _ (.tail _ (.tail _ (.tail _ (.head _)))))) (ck_length _)) rfl ?_
    | refine Sx.rYlG rfl rfl rfl (.loadW rfl Fx.agg27 (.tail _ (.tail _ (.tail _ (.tail _ (.tail _ (.tail _ (.head _))))))) (ck_length _)) rfl ?_
  refine Sx.rYlG rfl rfl rfl (.call Fx.call24 rfl (fun W s => is_any (ofF (xs1.take 16)) hy W)) rfl ?_
  refine Sx.rYl rfl (.pickT rfl rfl) rfl ?_
  refine Sx.rFin (tl := [_]) rfl ?_
  refine Sx.cons ?_
  refine Sx.yl (.assign rfl) rfl ?_
  refine Sx.nil ?_
  refine Sx.thenN ?_
  refine Sx.ret ?_
  refine Sx.ret1 (.inl rfl) rfl (.tmp rfl) (fun W s => ⟨?_, s.ext⟩)
  rfl
end Go.Proofs.YtnmickfdflinpaaDoor
