/- Regions that draw their order, walked by rules. -/
import Derived.Test.YtnmickfdflinpaaDoorSy
namespace Go.Sx
open Go.RowKit Go.Par
section
variable {P : Program} {n : Nat} {L : Sl} {H : Hp} {w0 : World} {bs : List Res} {Q : Exit → Act → World → Prop} {ops : Array Oper}
variable {d : Option Tmp} {ty : TypeId} {pos : String} {aft : Array Edge} {g : Option (Nat × Bool)} {v : Value} {t : Tmp} {op : Op}

/-! ### Every order -/
theorem anyRegion {id : Nat} {l : List Oper} (m : Nat) (l0 : Array Bool) (hm : P.follows .mixedOrders = true) (hn : l.toArray.size = m) (h0 : Array.replicate m false = l0)
    (h : At n L H w0 bs (wpAny P .any l.toArray Q m l0)) : At n L H w0 bs ((Code.region id l.toArray true).wp P Q) := by
  subst hn h0
  exact fun a W f s => wp_region_any hm (h a _ f (s.more ((Ext.refl W).drew)))
def AllIn (G : Nat → Prop) : List Nat → Prop
  | [] => True
  | i :: r => G i ∧ AllIn G r
theorem AllIn.at {G : Nat → Prop} : ∀ {l : List Nat}, AllIn G l → ∀ i ∈ l, G i
  | _ :: _, h, i, hi => by
    rcases List.mem_cons.1 hi with rfl | hi
    · exact h.1
    · exact h.2.at i hi
theorem anyStep {fuel : Nat} {listed : Array Bool} (x : Nat) (rs : List Nat) (hr : Region.ready .any ops listed = x :: rs)
    (h : AllIn (fun i => At n L H w0 bs (wpOp P ops Q i (wpAny P .any ops Q fuel (listed.setIfInBounds i true)))) (x :: rs)) : At n L H w0 bs (wpAny P .any ops Q (fuel + 1) listed) := by
  intro a W f s
  refine ⟨fun e => (by rw [hr] at e; cases e), fun i hi => ?_⟩
  rw [hr] at hi
  exact h.at i hi a W f s
theorem anyOp {fuel i : Nat} {listed : Array Bool} {o : Oper} (l' : Array Bool) (ho : ops[i]? = some o) (hl : listed.setIfInBounds i true = l') (h : At n L H w0 bs (one P ops Q o (wpAny P .any ops Q fuel l'))) :
    At n L H w0 bs (wpOp P ops Q i (wpAny P .any ops Q fuel (listed.setIfInBounds i true))) := by
  subst hl
  intro a W f s
  unfold wpOp
  rw [ho]
  exact h a W f s
theorem anyEnd {listed : Array Bool} (hr : Region.ready .any ops listed = []) (h : At n L H w0 bs (Q .normal)) : At n L H w0 bs (wpAny P .any ops Q 0 listed) :=
  fun a W f s => ⟨hr, h a W f s⟩

/-! ### The head in whatever order, the tail behind it -/
def AtR (n : Nat) (L : Sl) (H : Hp) (w0 : World) (bs : List Res) (P : Program) (ops : Array Oper) (nn : Nat) (fl : List Nat) (Q : Exit → Act → World → Prop) (k : Nat) (l : List Oper) : Prop :=
  ∀ a W, Fr n L a → St H w0 bs W → wpPar P ops W nn fl (Fin P ops W nn Q) k l [] a
variable {nn k : Nat} {fl : List Nat} {rest : List Oper}
theorem par {id : Nat} {l hd : List Oper} (nn : Nat) (fl : List Nat) (hm : P.follows .mixedOrders = true) (hB : parB l.toArray nn fl = true) (hh : l.take nn = hd)
    (hQ : ∀ c (a : Act) (t : Tmp) v w, Q (.panic c) (a.put (some t) v) w → Q (.panic c) a w) (h : AtR n L H w0 bs P l.toArray nn fl Q 0 hd) : At n L H w0 bs ((Code.region id l.toArray true).wp P Q) := by
  subst hh
  exact fun a W f s => Go.Par.region nn fl hm hB hQ (h a W f s)
theorem yield_of {a : Act} {j : Nat} {b : Bool} {u : Tmp} (f : Fr n L a) (hd : (ops[j]?).bind (·.dst) = some u) (hs : look L u = some (.bool b)) : yielded ops a.tmps j = some b := by
  have := f.slot u _ hs
  unfold yielded
  rw [hd]
  simp only [Option.bind_some]
  rw [Array.getD_eq_getD_getElem?] at this
  cases e : a.tmps[u]? with
  | none => rw [e] at this; simp [undef] at this
  | some x => rw [e] at this; simp at this; subst this; rfl
theorem rYl (hf : fl.contains k = false) (hy : Yl P L H w0 bs ⟨some t, op, ty, pos, aft, none⟩ v) (ht : Nat.blt t n = true) (h : AtR n ((t, v) :: L) H w0 bs P ops nn fl Q (k + 1) rest) :
    AtR n L H w0 bs P ops nn fl Q k (⟨some t, op, ty, pos, aft, none⟩ :: rest) := fun a W f s =>
  Go.Par.step_val v hf (by simp [Region.wanted]) (fun w' hx _ => hy a w' (fun x u e => f.ev e) (s.more hx)) (fun K hK => hK _ (h _ W (f.put ht _) s))
theorem rYlG {j : Nat} {b : Bool} {u : Tmp} (hd : (ops[j]?).bind (·.dst) = some u) (hs : look L u = some (.bool b)) (hf : fl.contains k = false) (hy : Yl P L H w0 bs ⟨some t, op, ty, pos, aft, some (j, b)⟩ v) (ht : Nat.blt t n = true) (h : AtR n ((t, v) :: L) H w0 bs P ops nn fl Q (k + 1) rest) :
    AtR n L H w0 bs P ops nn fl Q k (⟨some t, op, ty, pos, aft, some (j, b)⟩ :: rest) := fun a W f s =>
  Go.Par.step_val v hf (by simp [Region.wanted, yield_of f hd hs]) (fun w' hx _ => hy a w' (fun x u e => f.ev e) (s.more hx)) (fun K hK => hK _ (h _ W (f.put ht _) s))
theorem rSkip {j : Nat} {b c : Bool} {u : Tmp} (hd : (ops[j]?).bind (·.dst) = some u) (hs : look L u = some (.bool c)) (hne : (c == b) = false) (ht : Nat.blt t n = true) (h : AtR n ((t, undef) :: L) H w0 bs P ops nn fl Q (k + 1) rest) :
    AtR n L H w0 bs P ops nn fl Q k (⟨some t, op, ty, pos, aft, some (j, b)⟩ :: rest) := fun a W f s =>
  Go.Par.step_skip (by simp only [Region.wanted, yield_of f hd hs]; simp; intro e; subst e; simp at hne) (fun K hK => hK _ (h _ W (f.put ht _) s))
/-- A move hangs on no memory: it may float. -/
theorem rMove {x : Operand} (hx : ev L x = some v) (ht : Nat.blt t n = true) (h : AtR n ((t, v) :: L) H w0 bs P ops nn fl Q (k + 1) rest) :
    AtR n L H w0 bs P ops nn fl Q k (⟨some t, .move x, ty, pos, aft, none⟩ :: rest) := fun a W f s =>
  Go.Par.step_pure v (by simp [Region.wanted]) (fun w' => by unfold execOp; simp [f.ev hx]) (fun K hK => hK _ (h _ W (f.put ht _) s))
theorem rBool {p : Bool} (h1 : p = true → AtR n ((t, .bool true) :: L) H w0 bs P ops nn fl Q k rest) (h2 : p = false → AtR n ((t, .bool false) :: L) H w0 bs P ops nn fl Q k rest) : AtR n ((t, .bool p) :: L) H w0 bs P ops nn fl Q k rest := by
  cases p
  · exact h2 rfl
  · exact h1 rfl
theorem rFin {tl : List Oper} (ht : ops.toList.drop nn = tl) (h : At n L H w0 bs (wpList P ops Q tl)) : AtR n L H w0 bs P ops nn fl Q k [] := by
  subst ht
  exact fun a W f s => Go.Par.fin_none (fun w' hx => h a w' f (s.more hx))
/-- The end of a round. -/
theorem again {X : Type} {L' : X → Sl} {H' : X → Hp} {bs' : X → List Res} {C : X → Prop} {μ : X → Nat} {x : X} (y : X) (hC : C y ∧ μ y < μ x) (hL : Sub L (L' y)) (hB : ∀ W, St H w0 bs W → St (H' y) w0 (bs' y) W) :
    At n L H w0 bs (fun a W => ∃ y, (C y ∧ μ y < μ x) ∧ Fr n (L' y) a ∧ St (H' y) w0 (bs' y) W) := fun _ W f s => ⟨y, hC, f.sub hL, hB W s⟩
theorem St.drop {x : Res} {W : World} (h : St H w0 (x :: bs) W) : St H w0 bs W :=
  ⟨h.ext, h.agr, fun y hy => h.own y (.tail _ hy), (List.pairwise_cons.1 h.apart).2⟩
/-- A described state, forgotten down to what is needed behind. -/
theorem cutS {X : Type} {x y : Code} (L' : X → Sl) (H' : X → Hp) (bs' : X → List Res) (C : X → Prop) (h : At n L H w0 bs (x.wp P (Exit.then (fun a W => ∃ z, C z ∧ Fr n (L' z) a ∧ St (H' z) w0 (bs' z) W) Q)))
    (k : ∀ z, C z → At n (L' z) (H' z) w0 (bs' z) (y.wp P Q)) : At n L H w0 bs ((Code.seq x y).wp P Q) :=
  cut _ h fun a W ⟨z, hz, f, s⟩ => k z hz a W f s
theorem meet {X : Type} {L' : X → Sl} {H' : X → Hp} {bs' : X → List Res} {C : X → Prop} (z : X) (hC : C z) (hL : Sub L (L' z)) (hB : ∀ W, St H w0 bs W → St (H' z) w0 (bs' z) W) :
    At n L H w0 bs (fun a W => ∃ z, C z ∧ Fr n (L' z) a ∧ St (H' z) w0 (bs' z) W) := fun _ W f s => ⟨z, hC, f.sub hL, hB W s⟩
end
end Go.Sx
