/- Contract of awake. -/
import Derived.Test.YtnmickfdflinpaaDoorFA
namespace Go.Proofs.YtnmickfdflinpaaDoor
open Go.RowKit Go.Par Go.Sx
theorem box_sl {H : Hp} {w0 W : World} {bs : List Res} {b c : Nat} {t : TypeId} {cs : List Value} (hm : Res.box b cs t ∈ bs) (s : St H w0 bs W) (hc : cs.length ≤ c) (hcm : c ≤ maxLen) : ∃ H2, SlAt H2 (.slice (some ⟨b, 0, none⟩) cs.length c) cs.length cs ∧ Agr H2 W := by
  have hW : W.heap[b]? = some (.cells cs.toArray t (0, 0)) := (s.own _ hm).1.2
  refine ⟨fun q => if q = b then some (.cells cs.toArray t (0, 0)) else none, ⟨rfl, _, _, rfl, hc, hcm, .inr ⟨b, 0, cs.toArray, t, (0, 0), rfl, if_pos rfl, fun j u h => by simpa using h⟩⟩, ?_⟩
  intro q o hq
  have hq : (if q = b then some (.cells cs.toArray t (0, 0)) else none) = some o := hq
  by_cases e : q = b
  · rw [if_pos e] at hq; rw [e, hW, ← Option.some.inj hq]
  · rw [if_neg e] at hq; cases hq
theorem of_box {H : Hp} {w0 W : World} {bs : List Res} {b c : Nat} {t : TypeId} (xs : List Int) (hl : xs.length ≤ 16) (hm : Res.box b (u64L xs) t ∈ bs) (s : St H w0 bs W) (hc : xs.length ≤ c) (hcm : c ≤ maxLen) :
    Calls Tryd.prog 27 #[.slice (some ⟨b, 0, none⟩) xs.length c] W fun e w' => e = .returned (.tuple #[ck (ofF xs), .int .i64 0]) ∧ Ext W w' := by
  obtain ⟨H2, h1, h2⟩ := box_sl (c := c) hm s (by rw [u64L_length]; exact hc) hcm
  rw [u64L_length] at h1
  exact of_any H2 _ _ xs h1 hl W h2
theorem aw_cmp : cmpF (ofF [1, 2]) (ofF [2, 1]) = 4 := by decide
theorem dec_small {u : Nat} (h : u < 10) : Lib.decDigits u = [UInt8.ofNat (48 + u)] := by unfold Lib.decDigits; rw [dif_pos h]
theorem aw_text : textL (mergeF (ofF [1, 2]) (ofF [2, 1])) = [91, 50, 44, 50, 93] := by
  have h : lenK (mergeF (ofF [1, 2]) (ofF [2, 1])) 16 = 2 := by decide
  have h0 : (mergeF (ofF [1, 2]) (ofF [2, 1]) 0).toNat = 2 := by decide
  have h1 : (mergeF (ofF [1, 2]) (ofF [2, 1]) 1).toNat = 2 := by decide
  unfold textL texts
  rw [h]
  simp only [show List.range 2 = [0, 1] from rfl, List.map_cons, List.map_nil, h0, h1, dec_small (u := 2) (by decide)]
  rfl
theorem aw_bytes : bytesL (ofF [3, 0, 1]) = [3, 3, 0, 1] := by
  have h : lenK (ofF [3, 0, 1]) 16 = 3 := by decide
  unfold bytesL encs
  rw [h]
  have h0 : (ofF [3, 0, 1] 0).toNat = 3 := by decide
  have h1 : (ofF [3, 0, 1] 1).toNat = 0 := by decide
  have h2 : (ofF [3, 0, 1] 2).toNat = 1 := by decide
  simp only [show List.range 3 = [0, 1, 2] from rfl, List.flatMap_cons, List.flatMap_nil, h0, h1, h2, encU_small (v := 3) (by decide), encU_small (v := 0) (by decide), encU_small (v := 1) (by decide)]
  rfl
theorem aw_text3 : textL (ofF [3, 0, 1]) = [91, 51, 44, 48, 44, 49, 93] := by
  have h : lenK (ofF [3, 0, 1]) 16 = 3 := by decide
  unfold textL texts
  rw [h]
  have h0 : (ofF [3, 0, 1] 0).toNat = 3 := by decide
  have h1 : (ofF [3, 0, 1] 1).toNat = 0 := by decide
  have h2 : (ofF [3, 0, 1] 2).toNat = 1 := by decide
  simp only [show List.range 3 = [0, 1, 2] from rfl, List.map_cons, List.map_nil, h0, h1, h2, dec_small (u := 3) (by decide), dec_small (u := 0) (by decide), dec_small (u := 1) (by decide)]
  rfl
def exL : List UInt8 := [91, 51, 44, 48, 44, 49, 93]
theorem aw_words : wordsL (inner exL) = [[51], [48], [49]] := by decide
theorem aw_parse : parseV exL = .tuple #[ck (ofF [3, 0, 1]), .int .i64 0] := by
  have hf : fits exL := by unfold fits; decide
  have h51 : Lib.parseUintB 64 [51] = .ok 3 := by decide
  have h48 : Lib.parseUintB 64 [48] = .ok 0 := by decide
  have h49 : Lib.parseUintB 64 [49] = .ok 1 := by decide
  have hx : parseX exL = [3, 0, 1] := by
    unfold parseX
    rw [if_pos hf, aw_words]
    simp [valW, h51, h48, h49]
  have hg : good exL := by
    refine ⟨fun _ m hm => ?_, by rw [hx, aw_text3]; rfl⟩
    rw [aw_words] at hm
    simp at hm
    rcases hm with rfl | rfl | rfl
    · exact ⟨3, h51⟩
    · exact ⟨0, h48⟩
    · exact ⟨1, h49⟩
  unfold parseV
  rw [if_pos hg, hx]
theorem parse_ex (w : World) (G : Globs w) : Calls Tryd.prog 21 #[strV exL] w fun e w' => e = .returned (.tuple #[ck (ofF [3, 0, 1]), .int .i64 0]) ∧ Ext w w' := by
  have h := parse_any exL (by decide) w G
  rwa [aw_parse] at h
theorem u12 : U64 (mergeF (ofF [1, 2]) (ofF [2, 1])) := fun k => by
  have h1 := rng_of (xs := [1, 2]) (by decide) k
  have h2 := rng_of (xs := [2, 1]) (by decide) k
  unfold mergeF mx ofF
  split <;> omega
theorem u301 : U64 (ofF [3, 0, 1]) := of_rng (by decide)
set_option maxRecDepth 100000 in
theorem awake_any (w : World) (G : Globs w) : Calls Tryd.prog 15 #[] w fun e w' => e = .returned (.bool true) ∧ Ext w w' := by
  refine Sx.enter (H := (fun _ => none)) Tryd.func15 rfl Tryd.ntmps15 rfl (fun _ _ e => by cases e) ?_
  refine Sx.seq ?_
  refine Sx.region ?_
  refine Sx.cons ?_
  refine Sx.yl (.assign rfl) rfl ?_
  refine Sx.nil ?_
  refine Sx.thenN ?_
  refine Sx.seq ?_
  refine Sx.region ?_
  refine Sx.cons ?_
  refine Sx.buildSlice (e := 23) (l := u64L [1, 2]) rfl (by kernel_rfl) rfl (fun b8 => ?_)
  refine Sx.cons ?_
  refine Sx.yl (.call Fx.call27 rfl (fun W s => of_box [1, 2] (by decide) (.head _) s (by decide) (by decide))) rfl ?_
  refine Sx.cons ?_
  refine Sx.yl (.move rfl) rfl ?_
  refine Sx.cons ?_
  refine Sx.yl (.extract rfl rfl) rfl ?_
  refine Sx.cons ?_
  refine Sx.yl (.extract rfl rfl) rfl ?_
  refine Sx.cons ?_
  refine Sx.alloc Fx.zero26 rfl (fun b1 => ?_)
  refine Sx.cons ?_
  first
    | refine Sx.storeW rfl rfl Fx.size26 (ckL_one _) (.head) rfl ?_
    | refine Sx.storeW rfl rfl Fx.size26 (ckL_one _) (.tail (.head)) rfl ?_
  refine Sx.cons ?_
  refine Sx.yl (.assign rfl) rfl ?_
  refine Sx.nil ?_
  refine Sx.thenN ?_
  refine Sx.seq ?_
  refine Sx.region ?_
  refine Sx.cons ?_
  refine Sx.buildSlice (e := 23) (l := u64L [2, 1]) rfl (by kernel_rfl) rfl (fun b13 => ?_)
  refine Sx.cons ?_
  refine Sx.yl (.call Fx.call27 rfl (fun W s => of_box [2, 1] (by decide) (.head _) s (by decide) (by decide))) rfl ?_
  refine Sx.cons ?_
  refine Sx.yl (.move rfl) rfl ?_
  refine Sx.cons ?_
  refine Sx.yl (.extract rfl rfl) rfl ?_
  refine Sx.cons ?_
  refine Sx.yl (.extract rfl rfl) rfl ?_
  refine Sx.cons ?_
  refine Sx.alloc Fx.zero26 rfl (fun b3 => ?_)
  refine Sx.cons ?_
  first
    | refine Sx.storeW rfl rfl Fx.size26 (ckL_one _) (.head) rfl ?_
    | refine Sx.storeW rfl rfl Fx.size26 (ckL_one _) (.tail (.head)) rfl ?_
    | refine Sx.storeW rfl rfl Fx.size26 (ckL_one _) (.tail (.tail (.head))) rfl ?_
    | refine Sx.storeW rfl rfl Fx.size26 (ckL_one _) (.tail (.tail (.tail (.head)))) rfl ?_
  refine Sx.cons ?_
  refine Sx.yl (.assign rfl) rfl ?_
  refine Sx.nil ?_
  refine Sx.thenN ?_
  refine Sx.seq ?_
  refine Sx.region ?_
  refine Sx.cons ?_
  refine Sx.yl (.call Fx.call21 rfl (fun W s => parse_ex W (G.ext s.ext))) rfl ?_
  refine Sx.cons ?_
  refine Sx.yl (.move rfl) rfl ?_
  refine Sx.cons ?_
  refine Sx.yl (.extract rfl rfl) rfl ?_
  refine Sx.cons ?_
  refine Sx.yl (.extract rfl rfl) rfl ?_
  refine Sx.cons ?_
  refine Sx.alloc Fx.zero26 rfl (fun b5 => ?_)
  refine Sx.cons ?_
  first
    | refine Sx.storeW rfl rfl Fx.size26 (ckL_one _) (.head) rfl ?_
    | refine Sx.storeW rfl rfl Fx.size26 (ckL_one _) (.tail (.head)) rfl ?_
    | refine Sx.storeW rfl rfl Fx.size26 (ckL_one _) (.tail (.tail (.head))) rfl ?_
    | refine Sx.storeW rfl rfl Fx.size26 (ckL_one _) (.tail (.tail (.tail (.head)))) rfl ?_
    | refine Sx.storeW rfl rfl Fx.size26 (ckL_one _) (.tail (.tail (.tail (.tail (.head))))) rfl ?_
  refine Sx.cons ?_
  refine Sx.yl (.assign rfl) rfl ?_
  refine Sx.nil ?_
  refine Sx.thenN ?_
  refine Sx.seq ?_
  refine Sx.region ?_
  refine Sx.cons ?_
  refine Sx.yl (.move rfl) rfl ?_
  refine Sx.cons ?_
  refine Sx.yl (.eql rfl rfl) rfl ?_
  refine Sx.cons ?_
  refine Sx.yl (.move rfl) rfl ?_
  refine Sx.bool (fun h23 => ?_) (fun h23 => ?_)
  · skip
    refine Sx.cons ?_
    refine Sx.guardT rfl rfl ?_
    refine Sx.yl (.move rfl) rfl ?_
    refine Sx.cons ?_
    refine Sx.guardT rfl rfl ?_
    refine Sx.yl (.eql rfl rfl) rfl ?_
    refine Sx.cons ?_
    refine Sx.yl (.pickT rfl rfl) rfl ?_
    refine Sx.cons ?_
    refine Sx.yl (.move rfl) rfl ?_
    refine Sx.bool (fun h27 => ?_) (fun h27 => ?_)
    · skip
      refine Sx.cons ?_
      refine Sx.guardT rfl rfl ?_
      refine Sx.yl (.move rfl) rfl ?_
      refine Sx.cons ?_
      refine Sx.guardT rfl rfl ?_
      refine Sx.yl (.eql rfl rfl) rfl ?_
      refine Sx.cons ?_
      refine Sx.yl (.pickT rfl rfl) rfl ?_
      refine Sx.cons ?_
      refine Sx.yl (.move rfl) rfl ?_
      refine Sx.bool (fun h31 => ?_) (fun h31 => ?_)
      · skip
        refine Sx.cons ?_
        refine Sx.guardT rfl rfl ?_
        first
          | refine Sx.yl (.loadW rfl Fx.agg26 (.head _) (ck_length _)) rfl ?_
          | refine Sx.yl (.loadW rfl Fx.agg26 (.tail _ (.head _)) (ck_length _)) rfl ?_
          | refine Sx.yl (.loadW rfl Fx.agg26 (.tail _ (.tail _ (.head _))) (ck_length _)) rfl ?_
          | refine Sx.yl (.loadW rfl Fx.agg26 (.tail _ (.tail _ (.tail _ (.head _)))) (ck_length _)) rfl ?_
          | refine Sx.yl (.loadW rfl Fx.agg26 (.tail _ (.tail _ (.tail _ (.tail _ (.head _))))) (ck_length _)) rfl ?_
        refine Sx.cons ?_
        refine Sx.guardT rfl rfl ?_
        first
          | refine Sx.yl (.loadW rfl Fx.agg26 (.head _) (ck_length _)) rfl ?_
          | refine Sx.yl (.loadW rfl Fx.agg26 (.tail _ (.head _)) (ck_length _)) rfl ?_
          | refine Sx.yl (.loadW rfl Fx.agg26 (.tail _ (.tail _ (.head _))) (ck_length _)) rfl ?_
          | refine Sx.yl (.loadW rfl Fx.agg26 (.tail _ (.tail _ (.tail _ (.head _)))) (ck_length _)) rfl ?_
          | refine Sx.yl (.loadW rfl Fx.agg26 (.tail _ (.tail _ (.tail _ (.tail _ (.head _))))) (ck_length _)) rfl ?_
        refine Sx.cons ?_
        refine Sx.guardT rfl rfl ?_
        refine Sx.yl (.call Fx.call18 rfl (fun W s => compare_any (ofF [1, 2]) (ofF [2, 1]) W)) rfl ?_
        refine Sx.cons ?_
        refine Sx.guardT rfl rfl ?_
        refine Sx.yl (.eql rfl rfl) rfl ?_
        refine Sx.cons ?_
        refine Sx.yl (.pickT rfl rfl) rfl ?_
        refine Sx.cons ?_
        refine Sx.yl (.move rfl) rfl ?_
        refine Sx.bool (fun h37 => ?_) (fun h37 => ?_)
        · skip
          refine Sx.cons ?_
          refine Sx.guardT rfl rfl ?_
          first
            | refine Sx.yl (.loadW rfl Fx.agg26 (.head _) (ck_length _)) rfl ?_
            | refine Sx.yl (.loadW rfl Fx.agg26 (.tail _ (.head _)) (ck_length _)) rfl ?_
            | refine Sx.yl (.loadW rfl Fx.agg26 (.tail _ (.tail _ (.head _))) (ck_length _)) rfl ?_
            | refine Sx.yl (.loadW rfl Fx.agg26 (.tail _ (.tail _ (.tail _ (.head _)))) (ck_length _)) rfl ?_
            | refine Sx.yl (.loadW rfl Fx.agg26 (.tail _ (.tail _ (.tail _ (.tail _ (.head _))))) (ck_length _)) rfl ?_
          refine Sx.cons ?_
          refine Sx.guardT rfl rfl ?_
          first
            | refine Sx.yl (.loadW rfl Fx.agg26 (.head _) (ck_length _)) rfl ?_
            | refine Sx.yl (.loadW rfl Fx.agg26 (.tail _ (.head _)) (ck_length _)) rfl ?_
            | refine Sx.yl (.loadW rfl Fx.agg26 (.tail _ (.tail _ (.head _))) (ck_length _)) rfl ?_
            | refine Sx.yl (.loadW rfl Fx.agg26 (.tail _ (.tail _ (.tail _ (.head _)))) (ck_length _)) rfl ?_
            | refine Sx.yl (.loadW rfl Fx.agg26 (.tail _ (.tail _ (.tail _ (.tail _ (.head _))))) (ck_length _)) rfl ?_
          refine Sx.cons ?_
          refine Sx.guardT rfl rfl ?_
          refine Sx.yl (.call Fx.call14 rfl (fun W s => merge_any (ofF [1, 2]) (ofF [2, 1]) W)) rfl ?_
          refine Sx.cons ?_
          refine Sx.guardT rfl rfl ?_
          refine Sx.yl (.call Fx.call20 rfl (fun W s => text_any (mergeF (ofF [1, 2]) (ofF [2, 1])) u12 W (G.ext s.ext))) rfl ?_
          refine Sx.cons ?_
          refine Sx.guardT rfl rfl ?_
          refine Sx.yl (.eqlS rfl rfl) rfl ?_
          refine Sx.cons ?_
          refine Sx.yl (.pickT rfl rfl) rfl ?_
          refine Sx.cons ?_
          refine Sx.yl (.move rfl) rfl ?_
          refine Sx.bool (fun h44 => ?_) (fun h44 => ?_)
          · skip
            refine Sx.cons ?_
            refine Sx.guardT rfl rfl ?_
            first
              | refine Sx.yl (.loadW rfl Fx.agg26 (.head _) (ck_length _)) rfl ?_
              | refine Sx.yl (.loadW rfl Fx.agg26 (.tail _ (.head _)) (ck_length _)) rfl ?_
              | refine Sx.yl (.loadW rfl Fx.agg26 (.tail _ (.tail _ (.head _))) (ck_length _)) rfl ?_
              | refine Sx.yl (.loadW rfl Fx.agg26 (.tail _ (.tail _ (.tail _ (.head _)))) (ck_length _)) rfl ?_
              | refine Sx.yl (.loadW rfl Fx.agg26 (.tail _ (.tail _ (.tail _ (.tail _ (.head _))))) (ck_length _)) rfl ?_
            refine Sx.cons ?_
            refine Sx.guardT rfl rfl ?_
            refine Sx.callG Fx.call31 rfl (fun W s => bytes_nil (ofF [3, 0, 1]) u301 _ W s.agr [] rfl) rfl (fun v H1 hv up => ?_)
            obtain ⟨hn, p, c, rfl, hc, hcm, hs⟩ := hv
            obtain ⟨b, off, arr, t, m, rfl, hb, ha⟩ := hs.resolve_left (by simp [bytesL])
            refine Sx.cons ?_
            refine Sx.guardT rfl rfl ?_
            refine Sx.yl (.bytesStr Fx.bytes62 Fx.str9 rfl (l := [] ++ bytesL (ofF [3, 0, 1])) rfl (.mem hb ha)) rfl ?_
            refine Sx.cons ?_
            refine Sx.guardT rfl rfl ?_
            refine Sx.yl (.eqlS rfl rfl) rfl ?_
            refine Sx.cons ?_
            refine Sx.yl (.pickT rfl rfl) rfl ?_
            refine Sx.cons ?_
            refine Sx.yl (.assign rfl) rfl ?_
            refine Sx.nil ?_
            refine Sx.thenN ?_
            refine Sx.ret ?_
            refine Sx.ret1 (.inl rfl) rfl (.tmp rfl) (fun W s => ⟨?_, s.ext⟩)
            rw [List.nil_append, aw_bytes]
            rfl
          · exact absurd h44 (by rw [aw_text]; decide)
        · exact absurd h37 (by rw [aw_cmp]; decide)
      · exact absurd h31 (by simp)
    · exact absurd h27 (by simp)
  · exact absurd h23 (by simp)
end Go.Proofs.YtnmickfdflinpaaDoor
