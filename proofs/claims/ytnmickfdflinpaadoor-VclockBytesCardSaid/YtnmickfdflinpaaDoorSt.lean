/- Boxes as rows; append with a source that the world tells. -/
import Derived.Test.YtnmickfdflinpaaDoorSu
namespace Go.Sx
open Go.RowKit Go.Par
section
variable {P : Program} {n : Nat} {L : Sl} {H : Hp} {w0 : World} {bs : List Res} {Q : Exit → Act → World → Prop} {ops : Array Oper} {K : Act → World → Prop}
variable {d : Option Tmp} {ty : TypeId} {pos : String} {aft : Array Edge} {g : Option (Nat × Bool)} {v : Value} {t : Tmp} {op : Op} {x y z : Operand} {T T' : TypeId}
/-- A box that is full is an own row. -/
theorem St.boxRow {b : Nat} {l : List Value} {e : TypeId} {W : World} (h : St H w0 (.box b l e :: bs) W) (hl : l.length ≤ maxLen) : St H w0 (.row e 1 (.slice (some ⟨b, 0, none⟩) l.length l.length) l.length l :: bs) W := by
  have hb := h.own _ (.head _)
  refine ⟨h.ext, h.agr, fun x hx => ?_, ?_⟩
  · rcases List.mem_cons.1 hx with rfl | hx
    · refine ⟨⟨by simp, .inr ⟨b, l.length, l.toArray, rfl, hb.1.1, hb.1.2, Nat.le_refl _, hl, by simp, by simp⟩⟩, fun c e => hb.2 c e⟩
    · exact h.own x (.tail _ hx)
  · have h1 := h.apart
    rw [List.pairwise_cons] at h1 ⊢
    exact ⟨fun z hz c e => h1.1 z hz c e, h1.2⟩
/-- append with a source whose cells are told by the world. -/
theorem appendA {e : TypeId} {size bytes m c k : Nat} {A : Addr} {r : Value} {xs news : List Value} {bs' : Value → List Res} (hT : rowN P T = some (e, size, bytes)) (hx : ev L x = some r) (hm : ∀ r', Upd bs (.row e size r k xs) (.row e size r' (k + m) (xs ++ news)) (bs' r'))
    (hy : ev L y = some (.slice (some A) m c)) (hs : ∀ W, St H w0 bs W → ∀ j u, news[j]? = some u → W.cell? (A.add j) = some u) (hl : news.length = m * size) (h1 : ∀ u ∈ news, u.oneCell' = true) (h63 : k + m ≤ maxLen) (hb : (k + m) * bytes ≤ 140737488355328) (ht : Nat.blt t n = true)
    (h : ∀ r', (r' = .slice none 0 0 ↔ r = .slice none 0 0 ∧ m = 0) → At n ((t, r') :: L) H w0 (bs' r') K) : At n L H w0 bs (one P ops Q ⟨some t, .call ⟨.builtin .append, #[x, y], #[T, T]⟩, ty, pos, aft, none⟩ K) := by
  obtain ⟨hu, i, z, hi, hz, hsz, hby, hzs, h0⟩ := rowN_spec hT
  intro a W f s
  have hown : W.ownsRow w0.heap.size e size r k xs := (s.own _ (hm r).mem).1
  obtain ⟨v', W', hr, ho, hg, hnil⟩ := run_append_own (P := P) W w0.heap.size T ty e i z size bytes hu hi hz hsz hby hzs h0 r k xs hown A m c news hl (hs W s) h1 h63 hb s.ext.size
  have hblk : ∀ q, v'.ownBlock = some q → r.ownBlock = some q ∨ W.heap.size ≤ q := by
    subst hsz hby
    have h64 : k + m ≤ 9223372036854775807 := by simp only [maxLen] at h63; omega
    rcases hown.2 with ⟨rfl, rfl⟩ | ⟨g, cap, cur, rfl, hbg, hgc, hnc, hcm, hcs, htake⟩
    · intro q hq
      by_cases hm0 : m = 0
      · rw [hnil.2 ⟨rfl, hm0⟩] at hq; cases hq
      · have h2 := run_append_nil (P := P) W T ty e i z hu hi hz A m c news hl (hs W s) (by omega) (by omega) (by rw [Nat.zero_add] at hb; omega)
        rw [h2] at hr
        injection hr with e1 e2
        rw [← e1] at hq
        right
        have := Option.some.inj hq
        simp at this
        omega
    · intro q hq
      by_cases hroom : k + m ≤ cap
      · have hfit : k * i.size + news.length ≤ cur.size := by rw [hl, hcs, ← Nat.add_mul]; exact Nat.mul_le_mul_right _ hroom
        have h2 := run_append_room (P := P) W T ty e i hu hi g k cap cur hgc A m c news hl (hs W s) h1 hroom hfit
        rw [h2] at hr
        injection hr with e1 e2
        rw [← e1] at hq
        exact .inl hq
      · have h2 := run_append_grow (P := P) W T ty e i z hu hi hz ⟨g, 0, none⟩ k cap xs hown.1 (World.ownsRow.cells hown (g := g) rfl) A m c news hl (hs W s) (by omega) (by omega) (growslice_fits (by omega) hb)
        rw [h2] at hr
        injection hr with e1 e2
        rw [← e1] at hq
        right
        have := Option.some.inj hq
        simp at this
        omega
  refine one_plain rfl ?_
  unfold Oper.wp execOp
  simp only [resolve, invoke, builtin, Sem.run_bind, Sem.run_pure, Result.andThen_ok, List.map_toArray, List.map_cons, List.map_nil, f.ev hx, f.ev hy, hr]
  refine h v' hnil _ _ (f.put ht _) ?_
  have hlt : ∀ q, r.ownBlock = some q → w0.heap.size ≤ q := fun q hq => (World.ownsRow.lt hown q hq).1
  refine s.upd (hm v') ?_ hg.size (fun q hq hn => hg.block q hq (fun e => hn e.symm)) ho hblk
  refine Ext.of_below ⟨hg.os.trans s.ext.below.os, hg.tape.trans s.ext.below.tape, hg.output.trans s.ext.below.output, Nat.le_trans s.ext.below.size hg.size, fun q hq => ?_⟩
  rw [hg.block q (Nat.lt_of_lt_of_le hq s.ext.size) (fun e => by have := hlt q e.symm; omega)]
  exact s.ext.below.block q hq
end
end Go.Sx
