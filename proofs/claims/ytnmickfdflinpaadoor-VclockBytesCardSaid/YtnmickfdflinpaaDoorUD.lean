/- Walks of the laws Makes, Parses. -/
import Derived.Test.YtnmickfdflinpaaDoorFC
namespace Go.Proofs.YtnmickfdflinpaaDoor
open Go.RowKit Go.Par Go.Sx
theorem ent_zero : lenK zeroF 16 = 0 := by decide
theorem zeroF_u : U64 zeroF := zero_u
theorem of_big0 (H : Hp) (p : Option Addr) (n c : Nat) (hl : 16 < n) (w : World) (hA : Agr H w) :
    Calls Tryd.prog 27 #[.slice p n c] w fun e w' => e = .returned (.tuple #[ck zeroF, .int .i64 1]) ∧ Ext w w' := of_big H p n c hl w hA
theorem rof_big0 (H : Hp) (p : Option Addr) (n c : Nat) (hl : 16 < n) (w : World) (hA : Agr H w) :
    Calls Tryd.prog 28 #[.slice p n c] w fun e w' => e = .returned (.tuple #[ck zeroF, .bool false]) ∧ Ext w w' := rof_big H p n c hl w hA
theorem parse_good (l : List UInt8) (hl : l.length ≤ 1000000) (hg : good l) (w : World) (G : Globs w) : Calls Tryd.prog 21 #[strV l] w fun e w' => e = .returned (.tuple #[ck (ofF (parseX l)), .int .i64 0]) ∧ Ext w w' := by
  have h := parse_any l hl w G
  unfold parseV at h
  rwa [if_pos hg] at h
theorem parse_bad (l : List UInt8) (hl : l.length ≤ 1000000) (hg : ¬ good l) (w : World) (G : Globs w) : Calls Tryd.prog 21 #[strV l] w fun e w' => e = .returned (.tuple #[ck zeroF, .int .i64 6]) ∧ Ext w w' := by
  have h := parse_any l hl w G
  unfold parseV at h
  rwa [if_neg hg] at h
theorem parseX_rng (l : List UInt8) : ∀ a ∈ parseX l, 0 ≤ a ∧ a < 18446744073709551616 := by
  unfold parseX
  split
  · intro a ha
    obtain ⟨m, _, rfl⟩ := List.mem_map.1 ha
    exact valW_rng m
  · simp
set_option maxHeartbeats 4000000 in
set_option maxRecDepth 100000 in
theorem makes_small (H : Hp) (p : Option Addr) (c : Nat) (n0 : Nat) (xs0 : List Int) (h0 : SlAt H (.slice p n0 c) n0 (u64L xs0)) (r0 : ∀ a ∈ xs0, 0 ≤ a ∧ a < 18446744073709551616) (i : Int) (hl : xs0.length ≤ 16) (w : World) (hA : Agr H w) (G : Globs w) :
    Calls Tryd.prog 10 #[.slice p n0 c, .int .i64 i] w fun e w' => e = .returned (.bool true) ∧ Ext w w' := by
  have hU := of_rng r0
  have hn : xs0.length = n0 := by have := h0.1; rwa [u64L_length] at this
  refine Sx.enter (H := H) Tryd.func10 rfl Tryd.ntmps10 rfl hA ?_
  refine Sx.seq ?_
  refine Sx.region ?_
  refine Sx.cons ?_
  refine Sx.yl (.assign rfl) rfl ?_
  refine Sx.nil ?_
  refine Sx.thenN ?_
  refine Sx.seq ?_
  refine Sx.seq ?_
  refine Sx.region ?_
  refine Sx.cons ?_
  refine Sx.yl (.move rfl) rfl ?_
  refine Sx.cons ?_
  refine Sx.yl (.lenSl Fx.sl22 rfl) rfl ?_
  refine Sx.cons ?_
  refine Sx.yl (.gtr rfl rfl) rfl ?_
  refine Sx.nil ?_
  refine Sx.thenN ?_
  refine Sx.cond rfl (fun h12 => ?_) (fun h12 => ?_)
  · exact absurd h12 (by simp; omega)
  · try simp only [decide_eq_false_iff_not] at h12
    refine Sx.skip ?_
    refine Sx.thenN ?_
    refine Sx.seq ?_
    refine Sx.region ?_
    refine Sx.cons ?_
    refine Sx.yl (.move rfl) rfl ?_
    refine Sx.cons ?_
    refine Sx.yl (.call Fx.call27 rfl (fun W s => of_any H _ n0 xs0 h0 hl W s.agr)) rfl ?_
    refine Sx.cons ?_
    refine Sx.yl (.move rfl) rfl ?_
    refine Sx.cons ?_
    refine Sx.yl (.extract rfl rfl) rfl ?_
    refine Sx.cons ?_
    refine Sx.yl (.extract rfl rfl) rfl ?_
    refine Sx.cons ?_
    refine Sx.alloc Fx.zero26 rfl (fun b5 => ?_)
    refine Sx.cons ?_
    refine Sx.storeW rfl rfl Fx.size26 (ckL_one _) (.head) rfl ?_
    refine Sx.cons ?_
    refine Sx.yl (.assign rfl) rfl ?_
    refine Sx.nil ?_
    refine Sx.thenN ?_
    refine Sx.seq ?_
    refine Sx.region ?_
    refine Sx.cons ?_
    refine Sx.yl (.move rfl) rfl ?_
    refine Sx.cons ?_
    refine Sx.yl (.call Fx.call28 rfl (fun W s => rof_any H _ n0 xs0 h0 hl W s.agr)) rfl ?_
    refine Sx.cons ?_
    refine Sx.yl (.move rfl) rfl ?_
    refine Sx.cons ?_
    refine Sx.yl (.extract rfl rfl) rfl ?_
    refine Sx.cons ?_
    refine Sx.yl (.extract rfl rfl) rfl ?_
    refine Sx.cons ?_
    refine Sx.alloc Fx.zero27 rfl (fun b7 => ?_)
    refine Sx.cons ?_
    first
      | refine Sx.storeW rfl rfl Fx.size27 (ckL_one _) (.head) rfl ?_
      | refine Sx.storeW rfl rfl Fx.size27 (ckL_one _) (.tail (.head)) rfl ?_
    refine Sx.cons ?_
    refine Sx.yl (.assign rfl) rfl ?_
    refine Sx.nil ?_
    refine Sx.thenN ?_
    refine Sx.seq ?_
    refine Sx.seq ?_
    refine Sx.region ?_
    refine Sx.cons ?_
    refine Sx.yl (.call Fx.call15 rfl (fun W s => awake_any W (G.ext s.ext))) rfl ?_
    refine Sx.cons ?_
    refine Sx.yl (.not rfl) rfl ?_
    refine Sx.cons ?_
    refine Sx.yl (.move rfl) rfl ?_
    refine Sx.cons ?_
    refine Sx.guardT rfl rfl ?_
    refine Sx.yl (.move rfl) rfl ?_
    refine Sx.cons ?_
    refine Sx.guardT rfl rfl ?_
    refine Sx.yl (.move rfl) rfl ?_
    refine Sx.cons ?_
    refine Sx.guardT rfl rfl ?_
    refine Sx.yl (.eql rfl rfl) rfl ?_
    refine Sx.cons ?_
    refine Sx.guardT rfl rfl ?_
    refine Sx.yl (.neqB Fx.bool4 rfl rfl) rfl ?_
    refine Sx.cons ?_
    refine Sx.yl (.pickF rfl rfl) rfl ?_
    refine Sx.cons ?_
    refine Sx.yl (.move rfl) rfl ?_
    refine Sx.cons ?_
    refine Sx.guardT rfl rfl ?_
    refine Sx.yl (.move rfl) rfl ?_
    refine Sx.cons ?_
    refine Sx.guardT rfl rfl ?_
    refine Sx.yl (.not rfl) rfl ?_
    refine Sx.cons ?_
    refine Sx.guardT rfl rfl ?_
    refine Sx.yl (.move rfl) rfl ?_
    refine Sx.cons ?_
    refine Sx.guardF rfl rfl rfl rfl ?_
    refine Sx.cons ?_
    refine Sx.guardF rfl rfl rfl rfl ?_
    refine Sx.cons ?_
    refine Sx.guardT rfl rfl ?_
    refine Sx.yl (.pickF rfl rfl) rfl ?_
    refine Sx.cons ?_
    refine Sx.yl (.pickF rfl rfl) rfl ?_
    refine Sx.nil ?_
    refine Sx.thenN ?_
    refine Sx.condF rfl ?_
    refine Sx.skip ?_
    refine Sx.thenN ?_
    refine Sx.seq ?_
    refine Sx.region ?_
    refine Sx.cons ?_
    first
      | refine Sx.yl (.loadW rfl Fx.agg26 (.head _) (ck_length _)) rfl ?_
      | refine Sx.yl (.loadW rfl Fx.agg26 (.tail _ (.head _)) (ck_length _)) rfl ?_
    refine Sx.cons ?_
    refine Sx.yl (.move rfl) rfl ?_
    refine Sx.cons ?_
    refine Sx.yl (.call Fx.call23 rfl (fun W s => tick_any (ofF xs0) hU i W)) rfl ?_
    refine Sx.cons ?_
    refine Sx.alloc Fx.zero26 rfl (fun b9 => ?_)
    refine Sx.cons ?_
    first
      | refine Sx.storeW rfl rfl Fx.size26 (ckL_one _) (.head) rfl ?_
      | refine Sx.storeW rfl rfl Fx.size26 (ckL_one _) (.tail (.head)) rfl ?_
      | refine Sx.storeW rfl rfl Fx.size26 (ckL_one _) (.tail (.tail (.head))) rfl ?_
    refine Sx.nil ?_
    refine Sx.thenN ?_
    refine Sx.seq ?_
    refine Sx.seq ?_
    refine Sx.region ?_
    refine Sx.cons ?_
    refine Sx.yl (.move rfl) rfl ?_
    refine Sx.cons ?_
    refine Sx.yl (.not rfl) rfl ?_
    refine Sx.nil ?_
    refine Sx.thenN ?_
    refine Sx.condF rfl ?_
    refine Sx.skip ?_
    refine Sx.thenN ?_
    refine Sx.seq ?_
    refine Sx.par (hd := [_, _, _, _, _, _, _, _, _, _, _, _, _, _, _]) 15 [] (by kernel_rfl) (by kernel_rfl) rfl (fun _ _ _ _ _ h => h) ?_
    first
      | refine Sx.rYl rfl (.loadW rfl Fx.agg26 (.head _) (ck_length _)) rfl ?_
      | refine Sx.rYl rfl (.loadW rfl Fx.agg26 (.tail _ (.head _)) (ck_length _)) rfl ?_
      | refine Sx.rYl rfl (.loadW rfl Fx.agg26 (.tail _ (.tail _ (.head _))) (ck_length _)) rfl ?_
    first
      | refine Sx.rYl rfl (.loadW rfl Fx.agg27 (.head _) (ck_length _)) rfl ?_
      | refine Sx.rYl rfl (.loadW rfl Fx.agg27 (.tail _ (.head _)) (ck_length _)) rfl ?_
      | refine Sx.rYl rfl (.loadW rfl Fx.agg27 (.tail _ (.tail _ (.head _))) (ck_length _)) rfl ?_
    refine Sx.rYl rfl (.call Fx.call24 rfl (fun W s => is_any (ofF xs0) hU W)) rfl ?_
    refine Sx.rMove rfl rfl ?_
    first
      | refine Sx.rYlG rfl rfl rfl (.loadW rfl Fx.agg26 (.head _) (ck_length _)) rfl ?_
      | refine Sx.rYlG rfl rfl rfl (.loadW rfl Fx.agg26 (.tail _ (.head _)) (ck_length _)) rfl ?_
      | refine Sx.rYlG rfl rfl rfl (.loadW rfl Fx.agg26 (.tail _ (.tail _ (.head _))) (ck_length _)) rfl ?_
    first
      | refine Sx.rYlG rfl rfl rfl (.loadW rfl Fx.agg27 (.head _) (ck_length _)) rfl ?_
      | refine Sx.rYlG rfl rfl rfl (.loadW rfl Fx.agg27 (.tail _ (.head _)) (ck_length _)) rfl ?_
      | refine Sx.rYlG rfl rfl rfl (.loadW rfl Fx.agg27 (.tail _ (.tail _ (.head _))) (ck_length _)) rfl ?_
    refine Sx.rYlG rfl rfl rfl (.move rfl) rfl ?_
    refine Sx.rYlG rfl rfl rfl (.call Fx.call29 rfl (fun W s => rtick_any (ofF xs0) hU i W)) rfl ?_
    refine Sx.rYlG rfl rfl rfl (.call Fx.call24 rfl (fun W s => is_any (tickF (ofF xs0) i) (tick_rng hU i) W)) rfl ?_
    refine Sx.rYl rfl (.pickT rfl rfl) rfl ?_
    refine Sx.rMove rfl rfl ?_
    refine Sx.rYlG rfl rfl rfl (.build rfl Fx.build26) rfl ?_
    refine Sx.rYlG rfl rfl rfl (.build rfl Fx.build27) rfl ?_
    refine Sx.rYlG rfl rfl rfl (.call Fx.call24 rfl (fun W s => is_any zeroF zeroF_u W)) rfl ?_
    refine Sx.rYl rfl (.pickT rfl rfl) rfl ?_
    refine Sx.rFin (tl := [_]) rfl ?_
    refine Sx.cons ?_
    refine Sx.yl (.assign rfl) rfl ?_
    refine Sx.nil ?_
    refine Sx.thenN ?_
    refine Sx.ret ?_
    refine Sx.ret1 (.inl rfl) rfl (.tmp rfl) (fun W s => ⟨?_, s.ext⟩)
    rfl
set_option maxHeartbeats 4000000 in
set_option maxRecDepth 100000 in
theorem makes_big (H : Hp) (p : Option Addr) (c : Nat) (n0 : Nat) (hc : n0 ≤ c) (hsp : ∀ q, p = some q → q.spot = none) (i : Int) (hl : 16 < n0) (w : World) (hA : Agr H w) (G : Globs w) :
    Calls Tryd.prog 10 #[.slice p n0 c, .int .i64 i] w fun e w' => e = .returned (.bool true) ∧ Ext w w' := by
  refine Sx.enter (H := H) Tryd.func10 rfl Tryd.ntmps10 rfl hA ?_
  refine Sx.seq ?_
  refine Sx.region ?_
  refine Sx.cons ?_
  refine Sx.yl (.assign rfl) rfl ?_
  refine Sx.nil ?_
  refine Sx.thenN ?_
  refine Sx.seq ?_
  refine Sx.seq ?_
  refine Sx.region ?_
  refine Sx.cons ?_
  refine Sx.yl (.move rfl) rfl ?_
  refine Sx.cons ?_
  refine Sx.yl (.lenSl Fx.sl22 rfl) rfl ?_
  refine Sx.cons ?_
  refine Sx.yl (.gtr rfl rfl) rfl ?_
  refine Sx.nil ?_
  refine Sx.thenN ?_
  refine Sx.cond rfl (fun h12 => ?_) (fun h12 => ?_)
  · try simp only [decide_eq_true_eq] at h12
    refine Sx.region ?_
    refine Sx.cons ?_
    refine Sx.yl (.move rfl) rfl ?_
    refine Sx.cons ?_
    refine Sx.yl (.cutHi Fx.sl22 rfl rfl rfl (h := 40) (by omega) hsp) rfl ?_
    refine Sx.cons ?_
    refine Sx.yl (.assign rfl) rfl ?_
    refine Sx.nil ?_
    refine Sx.thenN ?_
    refine Sx.seq ?_
    refine Sx.region ?_
    refine Sx.cons ?_
    refine Sx.yl (.move rfl) rfl ?_
    refine Sx.cons ?_
    refine Sx.yl (.call Fx.call27 rfl (fun W s => of_big0 H _ _ _ (by omega) W s.agr)) rfl ?_
    refine Sx.cons ?_
    refine Sx.yl (.move rfl) rfl ?_
    refine Sx.cons ?_
    refine Sx.yl (.extract rfl rfl) rfl ?_
    refine Sx.cons ?_
    refine Sx.yl (.extract rfl rfl) rfl ?_
    refine Sx.cons ?_
    refine Sx.alloc Fx.zero26 rfl (fun b5 => ?_)
    refine Sx.cons ?_
    refine Sx.storeW rfl rfl Fx.size26 (ckL_one _) (.head) rfl ?_
    refine Sx.cons ?_
    refine Sx.yl (.assign rfl) rfl ?_
    refine Sx.nil ?_
    refine Sx.thenN ?_
    refine Sx.seq ?_
    refine Sx.region ?_
    refine Sx.cons ?_
    refine Sx.yl (.move rfl) rfl ?_
    refine Sx.cons ?_
    refine Sx.yl (.call Fx.call28 rfl (fun W s => rof_big0 H _ _ _ (by omega) W s.agr)) rfl ?_
    refine Sx.cons ?_
    refine Sx.yl (.move rfl) rfl ?_
    refine Sx.cons ?_
    refine Sx.yl (.extract rfl rfl) rfl ?_
    refine Sx.cons ?_
    refine Sx.yl (.extract rfl rfl) rfl ?_
    refine Sx.cons ?_
    refine Sx.alloc Fx.zero27 rfl (fun b7 => ?_)
    refine Sx.cons ?_
    first
      | refine Sx.storeW rfl rfl Fx.size27 (ckL_one _) (.head) rfl ?_
      | refine Sx.storeW rfl rfl Fx.size27 (ckL_one _) (.tail (.head)) rfl ?_
    refine Sx.cons ?_
    refine Sx.yl (.assign rfl) rfl ?_
    refine Sx.nil ?_
    refine Sx.thenN ?_
    refine Sx.seq ?_
    refine Sx.seq ?_
    refine Sx.region ?_
    refine Sx.cons ?_
    refine Sx.yl (.call Fx.call15 rfl (fun W s => awake_any W (G.ext s.ext))) rfl ?_
    refine Sx.cons ?_
    refine Sx.yl (.not rfl) rfl ?_
    refine Sx.cons ?_
    refine Sx.yl (.move rfl) rfl ?_
    refine Sx.cons ?_
    refine Sx.guardT rfl rfl ?_
    refine Sx.yl (.move rfl) rfl ?_
    refine Sx.cons ?_
    refine Sx.guardT rfl rfl ?_
    refine Sx.yl (.move rfl) rfl ?_
    refine Sx.cons ?_
    refine Sx.guardT rfl rfl ?_
    refine Sx.yl (.eql rfl rfl) rfl ?_
    refine Sx.cons ?_
    refine Sx.guardT rfl rfl ?_
    refine Sx.yl (.neqB Fx.bool4 rfl rfl) rfl ?_
    refine Sx.cons ?_
    refine Sx.yl (.pickF rfl rfl) rfl ?_
    refine Sx.cons ?_
    refine Sx.yl (.move rfl) rfl ?_
    refine Sx.cons ?_
    refine Sx.guardT rfl rfl ?_
    refine Sx.yl (.move rfl) rfl ?_
    refine Sx.cons ?_
    refine Sx.guardT rfl rfl ?_
    refine Sx.yl (.not rfl) rfl ?_
    refine Sx.cons ?_
    refine Sx.guardT rfl rfl ?_
    refine Sx.yl (.move rfl) rfl ?_
    refine Sx.cons ?_
    refine Sx.guardT rfl rfl ?_
    refine Sx.yl (.move rfl) rfl ?_
    refine Sx.cons ?_
    refine Sx.guardT rfl rfl ?_
    refine Sx.yl (.neq rfl rfl) rfl ?_
    refine Sx.cons ?_
    refine Sx.guardT rfl rfl ?_
    refine Sx.yl (.pickT rfl rfl) rfl ?_
    refine Sx.cons ?_
    refine Sx.yl (.pickF rfl rfl) rfl ?_
    refine Sx.nil ?_
    refine Sx.thenN ?_
    refine Sx.condF rfl ?_
    refine Sx.skip ?_
    refine Sx.thenN ?_
    refine Sx.seq ?_
    refine Sx.region ?_
    refine Sx.cons ?_
    first
      | refine Sx.yl (.loadW rfl Fx.agg26 (.head _) (ck_length _)) rfl ?_
      | refine Sx.yl (.loadW rfl Fx.agg26 (.tail _ (.head _)) (ck_length _)) rfl ?_
    refine Sx.cons ?_
    refine Sx.yl (.move rfl) rfl ?_
    refine Sx.cons ?_
    refine Sx.yl (.call Fx.call23 rfl (fun W s => tick_any zeroF zeroF_u i W)) rfl ?_
    refine Sx.cons ?_
    refine Sx.alloc Fx.zero26 rfl (fun b9 => ?_)
    refine Sx.cons ?_
    first
      | refine Sx.storeW rfl rfl Fx.size26 (ckL_one _) (.head) rfl ?_
      | refine Sx.storeW rfl rfl Fx.size26 (ckL_one _) (.tail (.head)) rfl ?_
      | refine Sx.storeW rfl rfl Fx.size26 (ckL_one _) (.tail (.tail (.head))) rfl ?_
    refine Sx.nil ?_
    refine Sx.thenN ?_
    refine Sx.seq ?_
    refine Sx.seq ?_
    refine Sx.region ?_
    refine Sx.cons ?_
    refine Sx.yl (.move rfl) rfl ?_
    refine Sx.cons ?_
    refine Sx.yl (.not rfl) rfl ?_
    refine Sx.nil ?_
    refine Sx.thenN ?_
    refine Sx.condT rfl ?_
    refine Sx.seq ?_
    refine Sx.region ?_
    refine Sx.cons ?_
    first
      | refine Sx.yl (.loadW rfl Fx.agg26 (.head _) (ck_length _)) rfl ?_
      | refine Sx.yl (.loadW rfl Fx.agg26 (.tail _ (.head _)) (ck_length _)) rfl ?_
      | refine Sx.yl (.loadW rfl Fx.agg26 (.tail _ (.tail _ (.head _))) (ck_length _)) rfl ?_
    refine Sx.cons ?_
    refine Sx.yl (.build rfl Fx.build27) rfl ?_
    refine Sx.cons ?_
    refine Sx.yl (.call Fx.call24 rfl (fun W s => is_any zeroF zeroF_u W)) rfl ?_
    refine Sx.cons ?_
    refine Sx.yl (.assign rfl) rfl ?_
    refine Sx.nil ?_
    refine Sx.thenN ?_
    refine Sx.ret ?_
    refine Sx.thenR ?_
    refine Sx.ret1 (.inl rfl) rfl (.tmp rfl) (fun W s => ⟨?_, s.ext⟩)
    rfl
  · try simp only [decide_eq_false_iff_not] at h12
    refine Sx.skip ?_
    refine Sx.thenN ?_
    refine Sx.seq ?_
    refine Sx.region ?_
    refine Sx.cons ?_
    refine Sx.yl (.move rfl) rfl ?_
    refine Sx.cons ?_
    refine Sx.yl (.call Fx.call27 rfl (fun W s => of_big0 H _ _ _ (by omega) W s.agr)) rfl ?_
    refine Sx.cons ?_
    refine Sx.yl (.move rfl) rfl ?_
    refine Sx.cons ?_
    refine Sx.yl (.extract rfl rfl) rfl ?_
    refine Sx.cons ?_
    refine Sx.yl (.extract rfl rfl) rfl ?_
    refine Sx.cons ?_
    refine Sx.alloc Fx.zero26 rfl (fun b5 => ?_)
    refine Sx.cons ?_
    refine Sx.storeW rfl rfl Fx.size26 (ckL_one _) (.head) rfl ?_
    refine Sx.cons ?_
    refine Sx.yl (.assign rfl) rfl ?_
    refine Sx.nil ?_
    refine Sx.thenN ?_
    refine Sx.seq ?_
    refine Sx.region ?_
    refine Sx.cons ?_
    refine Sx.yl (.move rfl) rfl ?_
    refine Sx.cons ?_
    refine Sx.yl (.call Fx.call28 rfl (fun W s => rof_big0 H _ _ _ (by omega) W s.agr)) rfl ?_
    refine Sx.cons ?_
    refine Sx.yl (.move rfl) rfl ?_
    refine Sx.cons ?_
    refine Sx.yl (.extract rfl rfl) rfl ?_
    refine Sx.cons ?_
    refine Sx.yl (.extract rfl rfl) rfl ?_
    refine Sx.cons ?_
    refine Sx.alloc Fx.zero27 rfl (fun b7 => ?_)
    refine Sx.cons ?_
    first
      | refine Sx.storeW rfl rfl Fx.size27 (ckL_one _) (.head) rfl ?_
      | refine Sx.storeW rfl rfl Fx.size27 (ckL_one _) (.tail (.head)) rfl ?_
    refine Sx.cons ?_
    refine Sx.yl (.assign rfl) rfl ?_
    refine Sx.nil ?_
    refine Sx.thenN ?_
    refine Sx.seq ?_
    refine Sx.seq ?_
    refine Sx.region ?_
    refine Sx.cons ?_
    refine Sx.yl (.call Fx.call15 rfl (fun W s => awake_any W (G.ext s.ext))) rfl ?_
    refine Sx.cons ?_
    refine Sx.yl (.not rfl) rfl ?_
    refine Sx.cons ?_
    refine Sx.yl (.move rfl) rfl ?_
    refine Sx.cons ?_
    refine Sx.guardT rfl rfl ?_
    refine Sx.yl (.move rfl) rfl ?_
    refine Sx.cons ?_
    refine Sx.guardT rfl rfl ?_
    refine Sx.yl (.move rfl) rfl ?_
    refine Sx.cons ?_
    refine Sx.guardT rfl rfl ?_
    refine Sx.yl (.eql rfl rfl) rfl ?_
    refine Sx.cons ?_
    refine Sx.guardT rfl rfl ?_
    refine Sx.yl (.neqB Fx.bool4 rfl rfl) rfl ?_
    refine Sx.cons ?_
    refine Sx.yl (.pickF rfl rfl) rfl ?_
    refine Sx.cons ?_
    refine Sx.yl (.move rfl) rfl ?_
    refine Sx.cons ?_
    refine Sx.guardT rfl rfl ?_
    refine Sx.yl (.move rfl) rfl ?_
    refine Sx.cons ?_
    refine Sx.guardT rfl rfl ?_
    refine Sx.yl (.not rfl) rfl ?_
    refine Sx.cons ?_
    refine Sx.guardT rfl rfl ?_
    refine Sx.yl (.move rfl) rfl ?_
    refine Sx.cons ?_
    refine Sx.guardT rfl rfl ?_
    refine Sx.yl (.move rfl) rfl ?_
    refine Sx.cons ?_
    refine Sx.guardT rfl rfl ?_
    refine Sx.yl (.neq rfl rfl) rfl ?_
    refine Sx.cons ?_
    refine Sx.guardT rfl rfl ?_
    refine Sx.yl (.pickT rfl rfl) rfl ?_
    refine Sx.cons ?_
    refine Sx.yl (.pickF rfl rfl) rfl ?_
    refine Sx.nil ?_
    refine Sx.thenN ?_
    refine Sx.condF rfl ?_
    refine Sx.skip ?_
    refine Sx.thenN ?_
    refine Sx.seq ?_
    refine Sx.region ?_
    refine Sx.cons ?_
    first
      | refine Sx.yl (.loadW rfl Fx.agg26 (.head _) (ck_length _)) rfl ?_
      | refine Sx.yl (.loadW rfl Fx.agg26 (.tail _ (.head _)) (ck_length _)) rfl ?_
    refine Sx.cons ?_
    refine Sx.yl (.move rfl) rfl ?_
    refine Sx.cons ?_
    refine Sx.yl (.call Fx.call23 rfl (fun W s => tick_any zeroF zeroF_u i W)) rfl ?_
    refine Sx.cons ?_
    refine Sx.alloc Fx.zero26 rfl (fun b9 => ?_)
    refine Sx.cons ?_
    first
      | refine Sx.storeW rfl rfl Fx.size26 (ckL_one _) (.head) rfl ?_
      | refine Sx.storeW rfl rfl Fx.size26 (ckL_one _) (.tail (.head)) rfl ?_
      | refine Sx.storeW rfl rfl Fx.size26 (ckL_one _) (.tail (.tail (.head))) rfl ?_
    refine Sx.nil ?_
    refine Sx.thenN ?_
    refine Sx.seq ?_
    refine Sx.seq ?_
    refine Sx.region ?_
    refine Sx.cons ?_
    refine Sx.yl (.move rfl) rfl ?_
    refine Sx.cons ?_
    refine Sx.yl (.not rfl) rfl ?_
    refine Sx.nil ?_
    refine Sx.thenN ?_
    refine Sx.condT rfl ?_
    refine Sx.seq ?_
    refine Sx.region ?_
    refine Sx.cons ?_
    first
      | refine Sx.yl (.loadW rfl Fx.agg26 (.head _) (ck_length _)) rfl ?_
      | refine Sx.yl (.loadW rfl Fx.agg26 (.tail _ (.head _)) (ck_length _)) rfl ?_
      | refine Sx.yl (.loadW rfl Fx.agg26 (.tail _ (.tail _ (.head _))) (ck_length _)) rfl ?_
    refine Sx.cons ?_
    refine Sx.yl (.build rfl Fx.build27) rfl ?_
    refine Sx.cons ?_
    refine Sx.yl (.call Fx.call24 rfl (fun W s => is_any zeroF zeroF_u W)) rfl ?_
    refine Sx.cons ?_
    refine Sx.yl (.assign rfl) rfl ?_
    refine Sx.nil ?_
    refine Sx.thenN ?_
    refine Sx.ret ?_
    refine Sx.thenR ?_
    refine Sx.ret1 (.inl rfl) rfl (.tmp rfl) (fun W s => ⟨?_, s.ext⟩)
    rfl
theorem makes_any (H : Hp) (v0 : Value) (n0 : Nat) (xs0 : List Int) (h0 : SlAt H v0 n0 (u64L xs0)) (r0 : ∀ a ∈ xs0, 0 ≤ a ∧ a < 18446744073709551616) (i : Int) (w : World) (hA : Agr H w) (G : Globs w) :
    Calls Tryd.prog 10 #[v0, .int .i64 i] w fun e w' => e = .returned (.bool true) ∧ Ext w w' := by
  have h1 := h0
  obtain ⟨hn, p, c, rfl, hc, hcm, hs⟩ := h0
  rw [u64L_length] at hn
  by_cases hl : xs0.length ≤ 16
  · exact makes_small H p c n0 xs0 h1 r0 i hl w hA G
  · refine makes_big H p c n0 hc ?_ i (by omega) w hA G
    rcases hs with hs | ⟨b, off, arr, t, m, rfl, hb, ha⟩
    · have := congrArg List.length hs
      rw [u64L_length, List.length_nil] at this
      omega
    · intro q e; rw [← Option.some.inj e]
set_option maxHeartbeats 4000000 in
set_option maxRecDepth 100000 in
theorem parses_short_good (l : List UInt8) (hl : l.length ≤ 400) (hg : good l) (w : World) (G : Globs w) :
    Calls Tryd.prog 6 #[strV l] w fun e w' => e = .returned (.bool true) ∧ Ext w w' := by
  skip
  refine Sx.enter (H := (fun _ => none)) Tryd.func6 rfl Tryd.ntmps6 rfl (fun _ _ e => by cases e) ?_
  refine Sx.seq ?_
  refine Sx.region ?_
  refine Sx.cons ?_
  refine Sx.yl (.assign rfl) rfl ?_
  refine Sx.nil ?_
  refine Sx.thenN ?_
  refine Sx.seq ?_
  refine Sx.seq ?_
  refine Sx.region ?_
  refine Sx.cons ?_
  refine Sx.yl (.move rfl) rfl ?_
  refine Sx.cons ?_
  refine Sx.yl (.lenStr Fx.str9 rfl) rfl ?_
  refine Sx.cons ?_
  refine Sx.yl (.gtr rfl rfl) rfl ?_
  refine Sx.nil ?_
  refine Sx.thenN ?_
  refine Sx.cond rfl (fun h7 => ?_) (fun h7 => ?_)
  · exact absurd h7 (by rw [str_size]; simp; omega)
  · try simp only [decide_eq_false_iff_not] at h7
    refine Sx.skip ?_
    refine Sx.thenN ?_
    refine Sx.seq ?_
    refine Sx.region ?_
    refine Sx.cons ?_
    refine Sx.yl (.move rfl) rfl ?_
    refine Sx.cons ?_
    refine Sx.yl (.call Fx.call21 rfl (fun W s => parse_good l (by omega) hg W (G.ext s.ext))) rfl ?_
    refine Sx.cons ?_
    refine Sx.yl (.move rfl) rfl ?_
    refine Sx.cons ?_
    refine Sx.yl (.extract rfl rfl) rfl ?_
    refine Sx.cons ?_
    refine Sx.yl (.extract rfl rfl) rfl ?_
    refine Sx.cons ?_
    refine Sx.alloc Fx.zero26 rfl (fun b3 => ?_)
    refine Sx.cons ?_
    refine Sx.storeW rfl rfl Fx.size26 (ckL_one _) (.head) rfl ?_
    refine Sx.cons ?_
    refine Sx.yl (.assign rfl) rfl ?_
    refine Sx.nil ?_
    refine Sx.thenN ?_
    refine Sx.seq ?_
    refine Sx.seq ?_
    refine Sx.region ?_
    refine Sx.cons ?_
    refine Sx.yl (.move rfl) rfl ?_
    refine Sx.cons ?_
    refine Sx.yl (.neq rfl rfl) rfl ?_
    refine Sx.nil ?_
    refine Sx.thenN ?_
    refine Sx.condF rfl ?_
    refine Sx.skip ?_
    refine Sx.thenN ?_
    refine Sx.seq ?_
    refine Sx.region ?_
    refine Sx.cons ?_
    refine Sx.yl (.call Fx.call15 rfl (fun W s => awake_any W (G.ext s.ext))) rfl ?_
    refine Sx.cons ?_
    refine Sx.yl (.move rfl) rfl ?_
    refine Sx.cons ?_
    refine Sx.guardT rfl rfl ?_
    refine Sx.yl (.loadW rfl Fx.agg26 (.head _) (ck_length _)) rfl ?_
    refine Sx.cons ?_
    refine Sx.guardT rfl rfl ?_
    refine Sx.yl (.call Fx.call20 rfl (fun W s => text_any (ofF (parseX l)) (of_rng (parseX_rng l)) W (G.ext s.ext))) rfl ?_
    refine Sx.cons ?_
    refine Sx.guardT rfl rfl ?_
    refine Sx.yl (.move rfl) rfl ?_
    refine Sx.cons ?_
    refine Sx.guardT rfl rfl ?_
    refine Sx.yl (.eqlS rfl rfl) rfl ?_
    refine Sx.cons ?_
    refine Sx.yl (.pickT rfl rfl) rfl ?_
    refine Sx.cons ?_
    refine Sx.yl (.assign rfl) rfl ?_
    refine Sx.nil ?_
    refine Sx.thenN ?_
    refine Sx.ret ?_
    refine Sx.ret1 (.inl rfl) rfl (.tmp rfl) (fun W s => ⟨?_, s.ext⟩)
    rw [hg.2]; simp
set_option maxHeartbeats 4000000 in
set_option maxRecDepth 100000 in
theorem parses_short_bad (l : List UInt8) (hl : l.length ≤ 400) (hg : ¬ good l) (w : World) (G : Globs w) :
    Calls Tryd.prog 6 #[strV l] w fun e w' => e = .returned (.bool true) ∧ Ext w w' := by
  skip
  refine Sx.enter (H := (fun _ => none)) Tryd.func6 rfl Tryd.ntmps6 rfl (fun _ _ e => by cases e) ?_
  refine Sx.seq ?_
  refine Sx.region ?_
  refine Sx.cons ?_
  refine Sx.yl (.assign rfl) rfl ?_
  refine Sx.nil ?_
  refine Sx.thenN ?_
  refine Sx.seq ?_
  refine Sx.seq ?_
  refine Sx.region ?_
  refine Sx.cons ?_
  refine Sx.yl (.move rfl) rfl ?_
  refine Sx.cons ?_
  refine Sx.yl (.lenStr Fx.str9 rfl) rfl ?_
  refine Sx.cons ?_
  refine Sx.yl (.gtr rfl rfl) rfl ?_
  refine Sx.nil ?_
  refine Sx.thenN ?_
  refine Sx.cond rfl (fun h7 => ?_) (fun h7 => ?_)
  · exact absurd h7 (by rw [str_size]; simp; omega)
  · try simp only [decide_eq_false_iff_not] at h7
    refine Sx.skip ?_
    refine Sx.thenN ?_
    refine Sx.seq ?_
    refine Sx.region ?_
    refine Sx.cons ?_
    refine Sx.yl (.move rfl) rfl ?_
    refine Sx.cons ?_
    refine Sx.yl (.call Fx.call21 rfl (fun W s => parse_bad l (by omega) hg W (G.ext s.ext))) rfl ?_
    refine Sx.cons ?_
    refine Sx.yl (.move rfl) rfl ?_
    refine Sx.cons ?_
    refine Sx.yl (.extract rfl rfl) rfl ?_
    refine Sx.cons ?_
    refine Sx.yl (.extract rfl rfl) rfl ?_
    refine Sx.cons ?_
    refine Sx.alloc Fx.zero26 rfl (fun b3 => ?_)
    refine Sx.cons ?_
    refine Sx.storeW rfl rfl Fx.size26 (ckL_one _) (.head) rfl ?_
    refine Sx.cons ?_
    refine Sx.yl (.assign rfl) rfl ?_
    refine Sx.nil ?_
    refine Sx.thenN ?_
    refine Sx.seq ?_
    refine Sx.seq ?_
    refine Sx.region ?_
    refine Sx.cons ?_
    refine Sx.yl (.move rfl) rfl ?_
    refine Sx.cons ?_
    refine Sx.yl (.neq rfl rfl) rfl ?_
    refine Sx.nil ?_
    refine Sx.thenN ?_
    refine Sx.condT rfl ?_
    refine Sx.seq ?_
    refine Sx.region ?_
    refine Sx.cons ?_
    refine Sx.yl (.call Fx.call15 rfl (fun W s => awake_any W (G.ext s.ext))) rfl ?_
    refine Sx.cons ?_
    refine Sx.yl (.move rfl) rfl ?_
    refine Sx.cons ?_
    refine Sx.guardT rfl rfl ?_
    refine Sx.yl (.move rfl) rfl ?_
    refine Sx.cons ?_
    refine Sx.guardT rfl rfl ?_
    refine Sx.yl (.eql rfl rfl) rfl ?_
    refine Sx.cons ?_
    refine Sx.yl (.pickT rfl rfl) rfl ?_
    refine Sx.cons ?_
    refine Sx.yl (.move rfl) rfl ?_
    refine Sx.cons ?_
    refine Sx.guardT rfl rfl ?_
    refine Sx.yl (.loadW rfl Fx.agg26 (.head _) (ck_length _)) rfl ?_
    refine Sx.cons ?_
    refine Sx.guardT rfl rfl ?_
    refine Sx.callG Fx.call22 rfl (fun W s => entries_any zeroF _ W s.agr) rfl (fun v H1 hv up => ?_)
    obtain ⟨hn, p, c, rfl, hc, hcm, hs⟩ := hv
    refine Sx.cons ?_
    refine Sx.guardT rfl rfl ?_
    refine Sx.yl (.lenSl Fx.sl22 rfl) rfl ?_
    refine Sx.cons ?_
    refine Sx.guardT rfl rfl ?_
    refine Sx.yl (.eql rfl rfl) rfl ?_
    refine Sx.cons ?_
    refine Sx.yl (.pickT rfl rfl) rfl ?_
    refine Sx.cons ?_
    refine Sx.yl (.assign rfl) rfl ?_
    refine Sx.nil ?_
    refine Sx.thenN ?_
    refine Sx.ret ?_
    refine Sx.thenR ?_
    refine Sx.ret1 (.inl rfl) rfl (.tmp rfl) (fun W s => ⟨?_, s.ext⟩)
    rw [ent_zero]; rfl
set_option maxHeartbeats 4000000 in
set_option maxRecDepth 100000 in
theorem parses_long_good (l : List UInt8) (m : List UInt8) (hm : (l.take 400).drop 0 = m) (hl : 400 < l.length) (hg : good m) (w : World) (G : Globs w) :
    Calls Tryd.prog 6 #[strV l] w fun e w' => e = .returned (.bool true) ∧ Ext w w' := by
  have hml : m.length ≤ 400 := by rw [← hm]; simp; omega
  refine Sx.enter (H := (fun _ => none)) Tryd.func6 rfl Tryd.ntmps6 rfl (fun _ _ e => by cases e) ?_
  refine Sx.seq ?_
  refine Sx.region ?_
  refine Sx.cons ?_
  refine Sx.yl (.assign rfl) rfl ?_
  refine Sx.nil ?_
  refine Sx.thenN ?_
  refine Sx.seq ?_
  refine Sx.seq ?_
  refine Sx.region ?_
  refine Sx.cons ?_
  refine Sx.yl (.move rfl) rfl ?_
  refine Sx.cons ?_
  refine Sx.yl (.lenStr Fx.str9 rfl) rfl ?_
  refine Sx.cons ?_
  refine Sx.yl (.gtr rfl rfl) rfl ?_
  refine Sx.nil ?_
  refine Sx.thenN ?_
  refine Sx.cond rfl (fun h7 => ?_) (fun h7 => ?_)
  · try simp only [decide_eq_true_eq] at h7
    refine Sx.region ?_
    refine Sx.cons ?_
    refine Sx.yl (.move rfl) rfl ?_
    refine Sx.cons ?_
    refine Sx.yl (.cutStrHi Fx.str9 rfl rfl (hi := 400) rfl (by rw [str_size]; omega)) rfl ?_
    rw [extract_str, hm]
    change Sx.At _ ((9, strV m) :: _) _ _ _ _
    refine Sx.cons ?_
    refine Sx.yl (.assign rfl) rfl ?_
    refine Sx.nil ?_
    refine Sx.thenN ?_
    refine Sx.seq ?_
    refine Sx.region ?_
    refine Sx.cons ?_
    refine Sx.yl (.move rfl) rfl ?_
    refine Sx.cons ?_
    refine Sx.yl (.call Fx.call21 rfl (fun W s => parse_good m (by omega) hg W (G.ext s.ext))) rfl ?_
    refine Sx.cons ?_
    refine Sx.yl (.move rfl) rfl ?_
    refine Sx.cons ?_
    refine Sx.yl (.extract rfl rfl) rfl ?_
    refine Sx.cons ?_
    refine Sx.yl (.extract rfl rfl) rfl ?_
    refine Sx.cons ?_
    refine Sx.alloc Fx.zero26 rfl (fun b3 => ?_)
    refine Sx.cons ?_
    refine Sx.storeW rfl rfl Fx.size26 (ckL_one _) (.head) rfl ?_
    refine Sx.cons ?_
    refine Sx.yl (.assign rfl) rfl ?_
    refine Sx.nil ?_
    refine Sx.thenN ?_
    refine Sx.seq ?_
    refine Sx.seq ?_
    refine Sx.region ?_
    refine Sx.cons ?_
    refine Sx.yl (.move rfl) rfl ?_
    refine Sx.cons ?_
    refine Sx.yl (.neq rfl rfl) rfl ?_
    refine Sx.nil ?_
    refine Sx.thenN ?_
    refine Sx.condF rfl ?_
    refine Sx.skip ?_
    refine Sx.thenN ?_
    refine Sx.seq ?_
    refine Sx.region ?_
    refine Sx.cons ?_
    refine Sx.yl (.call Fx.call15 rfl (fun W s => awake_any W (G.ext s.ext))) rfl ?_
    refine Sx.cons ?_
    refine Sx.yl (.move rfl) rfl ?_
    refine Sx.cons ?_
    refine Sx.guardT rfl rfl ?_
    refine Sx.yl (.loadW rfl Fx.agg26 (.head _) (ck_length _)) rfl ?_
    refine Sx.cons ?_
    refine Sx.guardT rfl rfl ?_
    refine Sx.yl (.call Fx.call20 rfl (fun W s => text_any (ofF (parseX m)) (of_rng (parseX_rng m)) W (G.ext s.ext))) rfl ?_
    refine Sx.cons ?_
    refine Sx.guardT rfl rfl ?_
    refine Sx.yl (.move rfl) rfl ?_
    refine Sx.cons ?_
    refine Sx.guardT rfl rfl ?_
    refine Sx.yl (.eqlS rfl rfl) rfl ?_
    refine Sx.cons ?_
    refine Sx.yl (.pickT rfl rfl) rfl ?_
    refine Sx.cons ?_
    refine Sx.yl (.assign rfl) rfl ?_
    refine Sx.nil ?_
    refine Sx.thenN ?_
    refine Sx.ret ?_
    refine Sx.ret1 (.inl rfl) rfl (.tmp rfl) (fun W s => ⟨?_, s.ext⟩)
    rw [hg.2]; simp
  · exact absurd h7 (by rw [str_size]; simp; omega)
set_option maxHeartbeats 4000000 in
set_option maxRecDepth 100000 in
theorem parses_long_bad (l : List UInt8) (m : List UInt8) (hm : (l.take 400).drop 0 = m) (hl : 400 < l.length) (hg : ¬ good m) (w : World) (G : Globs w) :
    Calls Tryd.prog 6 #[strV l] w fun e w' => e = .returned (.bool true) ∧ Ext w w' := by
  have hml : m.length ≤ 400 := by rw [← hm]; simp; omega
  refine Sx.enter (H := (fun _ => none)) Tryd.func6 rfl Tryd.ntmps6 rfl (fun _ _ e => by cases e) ?_
  refine Sx.seq ?_
  refine Sx.region ?_
  refine Sx.cons ?_
  refine Sx.yl (.assign rfl) rfl ?_
  refine Sx.nil ?_
  refine Sx.thenN ?_
  refine Sx.seq ?_
  refine Sx.seq ?_
  refine Sx.region ?_
  refine Sx.cons ?_
  refine Sx.yl (.move rfl) rfl ?_
  refine Sx.cons ?_
  refine Sx.yl (.lenStr Fx.str9 rfl) rfl ?_
  refine Sx.cons ?_
  refine Sx.yl (.gtr rfl rfl) rfl ?_
  refine Sx.nil ?_
  refine Sx.thenN ?_
  refine Sx.cond rfl (fun h7 => ?_) (fun h7 => ?_)
  · try simp only [decide_eq_true_eq] at h7
    refine Sx.region ?_
    refine Sx.cons ?_
    refine Sx.yl (.move rfl) rfl ?_
    refine Sx.cons ?_
    refine Sx.yl (.cutStrHi Fx.str9 rfl rfl (hi := 400) rfl (by rw [str_size]; omega)) rfl ?_
    rw [extract_str, hm]
    change Sx.At _ ((9, strV m) :: _) _ _ _ _
    refine Sx.cons ?_
    refine Sx.yl (.assign rfl) rfl ?_
    refine Sx.nil ?_
    refine Sx.thenN ?_
    refine Sx.seq ?_
    refine Sx.region ?_
    refine Sx.cons ?_
    refine Sx.yl (.move rfl) rfl ?_
    refine Sx.cons ?_
    refine Sx.yl (.call Fx.call21 rfl (fun W s => parse_bad m (by omega) hg W (G.ext s.ext))) rfl ?_
    refine Sx.cons ?_
    refine Sx.yl (.move rfl) rfl ?_
    refine Sx.cons ?_
    refine Sx.yl (.extract rfl rfl) rfl ?_
    refine Sx.cons ?_
    refine Sx.yl (.extract rfl rfl) rfl ?_
    refine Sx.cons ?_
    refine Sx.alloc Fx.zero26 rfl (fun b3 => ?_)
    refine Sx.cons ?_
    refine Sx.storeW rfl rfl Fx.size26 (ckL_one _) (.head) rfl ?_
    refine Sx.cons ?_
    refine Sx.yl (.assign rfl) rfl ?_
    refine Sx.nil ?_
    refine Sx.thenN ?_
    refine Sx.seq ?_
    refine Sx.seq ?_
    refine Sx.region ?_
    refine Sx.cons ?_
    refine Sx.yl (.move rfl) rfl ?_
    refine Sx.cons ?_
    refine Sx.yl (.neq rfl rfl) rfl ?_
    refine Sx.nil ?_
    refine Sx.thenN ?_
    refine Sx.condT rfl ?_
    refine Sx.seq ?_
    refine Sx.region ?_
    refine Sx.cons ?_
    refine Sx.yl (.call Fx.call15 rfl (fun W s => awake_any W (G.ext s.ext))) rfl ?_
    refine Sx.cons ?_
    refine Sx.yl (.move rfl) rfl ?_
    refine Sx.cons ?_
    refine Sx.guardT rfl rfl ?_
    refine Sx.yl (.move rfl) rfl ?_
    refine Sx.cons ?_
    refine Sx.guardT rfl rfl ?_
    refine Sx.yl (.eql rfl rfl) rfl ?_
    refine Sx.cons ?_
    refine Sx.yl (.pickT rfl rfl) rfl ?_
    refine Sx.cons ?_
    refine Sx.yl (.move rfl) rfl ?_
    refine Sx.cons ?_
    refine Sx.guardT rfl rfl ?_
    refine Sx.yl (.loadW rfl Fx.agg26 (.head _) (ck_length _)) rfl ?_
    refine Sx.cons ?_
    refine Sx.guardT rfl rfl ?_
    refine Sx.callG Fx.call22 rfl (fun W s => entries_any zeroF _ W s.agr) rfl (fun v H1 hv up => ?_)
    obtain ⟨hn, p, c, rfl, hc, hcm, hs⟩ := hv
    refine Sx.cons ?_
    refine Sx.guardT rfl rfl ?_
    refine Sx.yl (.lenSl Fx.sl22 rfl) rfl ?_
    refine Sx.cons ?_
    refine Sx.guardT rfl rfl ?_
    refine Sx.yl (.eql rfl rfl) rfl ?_
    refine Sx.cons ?_
    refine Sx.yl (.pickT rfl rfl) rfl ?_
    refine Sx.cons ?_
    refine Sx.yl (.assign rfl) rfl ?_
    refine Sx.nil ?_
    refine Sx.thenN ?_
    refine Sx.ret ?_
    refine Sx.thenR ?_
    refine Sx.ret1 (.inl rfl) rfl (.tmp rfl) (fun W s => ⟨?_, s.ext⟩)
    rw [ent_zero]; rfl
  · exact absurd h7 (by rw [str_size]; simp; omega)
theorem parses_any (l : List UInt8) (w : World) (G : Globs w) : Calls Tryd.prog 6 #[strV l] w fun e w' => e = .returned (.bool true) ∧ Ext w w' := by
  by_cases hl : l.length ≤ 400
  · by_cases hg : good l
    · exact parses_short_good l hl hg w G
    · exact parses_short_bad l hl hg w G
  · by_cases hg : good ((l.take 400).drop 0)
    · exact parses_long_good l _ rfl (by omega) hg w G
    · exact parses_long_bad l _ rfl (by omega) hg w G
end Go.Proofs.YtnmickfdflinpaaDoor
