/- Regions of every order, walked once for each set of operations that are done. -/
import Derived.Test.YtnmickfdflinpaaDoorSt
namespace Go.Sx
open Go.RowKit Go.Par
section
variable {P : Program} {n : Nat} {L : Sl} {H : Hp} {w0 : World} {bs : List Res} {Q : Exit → Act → World → Prop} {ops : Array Oper} {K : Act → World → Prop}
theorem dagIn {fuel : Nat} {listed : Array Bool} (h : ∀ ops' Q', ops' = ops → Q' = Q → At n L H w0 bs (wpAny P .any ops' Q' fuel listed)) : At n L H w0 bs (wpAny P .any ops Q fuel listed) := h _ _ rfl rfl
theorem opAt {ops' : Array Oper} {i : Nat} {o : Oper} (e : ops' = ops) (h : ops[i]? = some o) : ops'[i]? = some o := e ▸ h
theorem dstAt {ops' : Array Oper} {i : Nat} {u : Tmp} (e : ops' = ops) (h : (ops[i]?).bind (·.dst) = some u) : (ops'[i]?).bind (·.dst) = some u := e ▸ h
theorem readyAt {ops' : Array Oper} {listed : Array Bool} {l : List Nat} (e : ops' = ops) (h : Region.ready .any ops listed = l) : Region.ready .any ops' listed = l := e ▸ h
theorem reSl {L' : Sl} (h : At n L' H w0 bs K) (hs : Sub L L') : At n L H w0 bs K := fun a W f s => h a W (f.sub hs) s
theorem Upd.same {bs bs' : List Res} {x y : Res} (h : Upd bs x y bs') : x = y → bs' = bs := by
  induction h with
  | head => intro e; rw [e]
  | tail _ ih => intro e; rw [ih e]
end
end Go.Sx
