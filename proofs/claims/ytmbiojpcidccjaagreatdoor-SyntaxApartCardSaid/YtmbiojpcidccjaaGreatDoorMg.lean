/- Texts of the proof, one behind the other. -/
import Derived.Test.YtmbiojpcidccjaaGreatDoorMf
import Derived.Test.YtmbiojpcidccjaaGreatDoorTie
import Derived.ProofKit
import Derived.OpenShut
import Derived.ShutString
import Derived.Lay
import Derived.Stop.LaidErr
import Derived.Stop.Joined
import Derived.Shelf.Vars
import Derived.Lib.LaidTab
import Derived.Lib.SmallJoins
import Derived.SevenTiedAt
set_option linter.all false
namespace Go.Proofs.YtmbiojpcidccjaaGreatDoor
abbrev Pz (α : Type) := List Tk → Rs α
section
variable {α β : Type}
def gPure (a : α) : Pz α := fun r => .ok a r
def gBind (p : Pz α) (f : α → Pz β) : Pz β := fun r => (p r).bind f
def gNd (w : Str) : Pz Unit := fun r => if isT w r then .ok () r.tail else .er r 8
def gNm : Pz Str := fun r => match r with | [] => .er r 8 | t :: q => if t.k = 1 then .ok t.t q else .er r 8
def gNu : Pz Int64 := fun r => match r with | [] => .er r 8 | t :: q => if t.k = 3 then (if numV t.t ≤ 9223372036854775807 then .ok (Int64.ofNat (numV t.t)) q else .er r 2) else .er r 8
def isN (w : Str) : List Tk → Bool
 | [] => false
 | t :: _ => t.k == 3 && decide (t.t = w)
def gNn (w : Str) : Pz Unit := fun r => if isN w r then .ok () r.tail else .er r 8
def gAlt (w : Str) (p q : Pz α) : Pz α := fun r => if isT w r then p r.tail else q r
def gManyF (w : Str) (p : Pz α) : Nat → Pz (List α)
 | 0 => fun r => .er r 99
 | f + 1 => gAlt w (gBind p fun a => gBind (gManyF w p f) fun l => gPure (a :: l)) (gPure [])
def gMany (w : Str) (p : Pz α) : Pz (List α) := fun r => gManyF w p (r.length + 1) r
end
def gEx : Pz Ex := pX 0
def gBlk (b : Pz (List Sm)) : Pz (List Sm) := gBind (gNd [123]) fun _ => gBind b fun l => gBind (gNd [125]) fun _ => gPure l
def gEls (b : Pz (List Sm)) : Pz (List Sm) := gAlt [101,108,115,101] (gBlk b) (gPure [])
def gOth (b : Pz (List Sm)) : Pz (List Sm) := gAlt [101,108,115,101] (gBlk b) (gBind (gNd [59]) fun _ => gPure [])
def gList {α : Type} (p : Pz α) : Pz (List α) := gBind (gNd [40]) fun _ => gAlt [41] (gPure []) (gBind p fun a => gBind (gMany [44] p) fun l => gBind (gNd [41]) fun _ => gPure (a :: l))
def gSt (b : Pz (List Sm)) : Pz Sm :=
 gAlt [105,102] (gBind gEx fun e => gBind (gBlk b) fun t => gBind (gEls b) fun l => gPure (.mk 4 [] [] [e] t l))<|gAlt [119,104,105,108,101] (gBind gEx fun e => gBind (gBlk b) fun t => gPure (.mk 5 [] [] [e] t []))<|gAlt [115,116,111,114,101] (gBind gEx fun e => gBind (gNd [61]) fun _ => gBind gEx fun e2 => gBind (gOth b) fun l => gPure (.mk 8 [] [] [e,e2] [] l))<|gAlt [102,101,116,99,104] (gBind gNm fun n => gBind (gNd [61]) fun _ => gBind gEx fun e => gBind (gOth b) fun l => gPure (.mk 9 n [] [e] [] l))<|gAlt [115,101,110,100] (gBind gNm fun n => gBind (gNd [46]) fun _ => gBind gNm fun h => gBind (gList gEx) fun l => gBind (gNd [59]) fun _ => gPure (.mk 6 n h l [] []))<|gAlt [97,102,116,101,114] (gBind gEx fun e => gBind (gNd [100,111]) fun _ => gBind gNm fun h => gBind (gList gEx) fun l => gBind (gNd [59]) fun _ => gPure (.mk 7 [] h (e :: l) [] []))<|gAlt [115,116,111,112] (gBind (gNd [59]) fun _ => gPure (.mk 10 [] [] [] [] []))<|gAlt [100,101,108,101,116,101] (gBind gNm fun n => gBind (gNd [91]) fun _ => gBind gEx fun e => gBind (gNd [93]) fun _ => gBind (gNd [59]) fun _ => gPure (.mk 3 n [] [e] [] []))<|gBind gNm fun n => gAlt [91] (gBind gEx fun e => gBind (gNd [93]) fun _ => gBind (gNd [61]) fun _ => gBind gEx fun e2 => gBind (gNd [59]) fun _ => gPure (.mk 2 n [] [e,e2] [] []))
  (gBind (gNd [61]) fun _ => gBind gEx fun e => gBind (gNd [59]) fun _ => gPure (.mk 1 n [] [e] [] []))
def gBF : Nat → Pz (List Sm)
 | 0 => fun r => .er r 99
 | f + 1 => fun r => if isT [125] r then .ok [] r else (gSt (gBF f) r).bind fun s r1 => (gBF f r1).bind fun l r2 => .ok (s :: l) r2
def gB : Pz (List Sm) := fun r => gBF (r.length + 1) r
def gTr : Pz Bool := gAlt [116,114,117,101] (gPure true) (gBind (gNd [102,97,108,115,101]) fun _ => gPure false)
def gFg : Pz Fg := gBind gNm fun n => gBind (gNd [61]) fun _ => gBind gTr fun b => gBind (gNd [59]) fun _ => gPure ⟨n,b⟩
def gLk : Pz Lk := gBind gNm fun n => gBind (gNd [45,62]) fun _ => gBind gNm fun m => gBind (gNd [108,97,116,101,110,99,121]) fun _ => gBind gNu fun v => gBind (gNd [59]) fun _ => gPure ⟨n,m,v⟩
def gInt : Pz Int64 := gAlt [45] (gBind gNu fun v => gPure (-v)) gNu
def gVr : Pz Vr := gBind gNm fun n => gBind (gNd [58]) fun _ =>
 gAlt [105,110,116] (gBind (gNd [61]) fun _ => gBind gInt fun v => gBind (gNd [59]) fun _ => gPure ⟨n,1,v⟩)<|gAlt [98,111,111,108] (gBind (gNd [61]) fun _ => gBind gTr fun b => gBind (gNd [59]) fun _ => gPure ⟨n,2,if b then 1 else 0⟩)<|gBind (gNd [116,97,98,108,101]) fun _ => gBind (gNd [59]) fun _ => gPure ⟨n,3,0⟩
def gHd : Pz Hd := gBind gNm fun n => gBind (gList gNm) fun l => gBind (gBlk gB) fun b => gPure ⟨n,l,b⟩
def gVs : Pz (List Hd) := gMany [111,110] gHd
def gVn (n : Str) : Pz (List Hd) := gBind (gNn n) fun _ => gBind (gNd [123]) fun _ => gBind gVs fun v => gBind (gNd [125]) fun _ => gPure v
def gVm : Pz (List (List Hd)) := gAlt [118,101,114,115,105,111,110] (gBind (gVn [50]) fun v => gAlt [118,101,114,115,105,111,110] (gBind (gVn [51]) fun w => gPure [v,w]) (gPure [v])) (gPure [])
def gCp : Pz Cp := gBind gNm fun n => gBind (gNd [123]) fun _ => gBind (gMany [118,97,114] gVr) fun vs => gBind gVs fun v => gBind gVm fun l => gBind (gNd [125]) fun _ => gPure ⟨n,vs,v :: l⟩
def gFt : Pz Ft := gBind (gNd [102,108,101,101,116]) fun _ => gBind gNm fun n => gBind (gNd [123]) fun _ => gBind (gMany [102,108,97,103] gFg) fun fs => gBind (gMany [108,105,110,107] gLk) fun ls => gBind (gMany [99,111,109,112,111,110,101,110,116] gCp) fun cs => gBind (gNd [125]) fun _ => gPure ⟨n,fs,ls,cs⟩
/-! ### Rules that consume -/
section
variable {α β : Type}
def Shr (p : Pz α) : Prop := ∀ r a r',p r = .ok a r' → r'.length ≤ r.length
def Shs (p : Pz α) : Prop := ∀ r a r',p r = .ok a r' → r'.length < r.length
theorem Shs.le {p : Pz α} (h : Shs p) : Shr p := fun r a r' e => Nat.le_of_lt (h r a r' e)
theorem Shr.pure (a : α) : Shr (gPure a) := fun r a r' e => by injection e with _ e;subst e;exact Nat.le_refl _
theorem Shr.bind {p : Pz α} {f : α → Pz β} (h : Shr p) (k : ∀ a,Shr (f a)) : Shr (gBind p f) := fun r b r' e => by
 obtain ⟨a,q,h1,h2⟩ := Rs.bind_ok e
 have := h _ _ _ h1
 have := k _ _ _ _ h2
 omega
theorem Shs.bind {p : Pz α} {f : α → Pz β} (h : Shs p) (k : ∀ a,Shr (f a)) : Shs (gBind p f) := fun r b r' e => by
 obtain ⟨a,q,h1,h2⟩ := Rs.bind_ok e
 have := h _ _ _ h1
 have := k _ _ _ _ h2
 omega
theorem Shs.nd (w : Str) : Shs (gNd w) := fun r a r' e => by
 unfold gNd at e
 split at e
 ·rename_i h;injection e with _ e;subst e;have := isT_ne h;omega
 ·cases e
theorem isN_ne {w : Str} {r : List Tk} (h : isN w r = true) : r.length = r.tail.length + 1 := by cases r with | nil => cases h | cons t q => rfl
theorem Shs.nn (w : Str) : Shs (gNn w) := fun r a r' e => by
 unfold gNn at e
 split at e
 ·rename_i h;injection e with _ e;subst e;have := isN_ne h;omega
 ·cases e
theorem Shs.nm : Shs gNm := fun r a r' e => by
 unfold gNm at e
 split at e
 ·cases e
 ·split at e
  ·injection e with _ e;subst e;simp
  ·cases e
theorem Shs.nu : Shs gNu := fun r a r' e => by
 unfold gNu at e
 split at e
 ·cases e
 ·split at e
  ·split at e
   ·injection e with _ e;subst e;simp
   ·cases e
  ·cases e
theorem Shs.ex : Shs gEx := fun r a r' e => (pE_len _).1 _ _ _ _ e
theorem Shr.alt {w : Str} {p q : Pz α} (h : Shr p) (k : Shr q) : Shr (gAlt w p q) := fun r a r' e => by
 unfold gAlt at e
 split at e
 ·rename_i h2;have := isT_ne h2;have := h _ _ _ e;omega
 ·exact k _ _ _ e
theorem Shs.alt {w : Str} {p q : Pz α} (h : Shr p) (k : Shs q) : Shs (gAlt w p q) := fun r a r' e => by
 unfold gAlt at e
 split at e
 ·rename_i h2;have := isT_ne h2;have := h _ _ _ e;omega
 ·exact k _ _ _ e
theorem Shr.many {w : Str} {p : Pz α} (h : Shr p) : Shr (gMany w p) := by
 have key : ∀ f,Shr (gManyF w p f) := fun f => by
  induction f with
  | zero => intro r a r' e;cases e
  | succ f ih => exact .alt (.bind h fun a => .bind ih fun l => .pure _) (.pure _)
 exact fun r a r' e => key _ _ _ _ e
theorem gManyF_more {w : Str} {p : Pz α} (h : Shr p) : ∀ (f g : Nat) (r : List Tk),r.length < f → r.length < g → gManyF w p f r = gManyF w p g r
 | 0,_,_,k,_ => by omega
 | _,0,_,_,k => by omega
 | f + 1,g + 1,r,k1,k2 => by
  unfold gManyF gAlt
  split
  ·rename_i e
   have := isT_ne e
   refine Rs.bind_congr rfl fun a q e2 => ?_
   have := h _ _ _ e2
   exact Rs.bind_congr (gManyF_more h f g q (by omega) (by omega)) fun _ _ _ => rfl
  ·rfl
theorem gMany_eq {w : Str} {p : Pz α} (h : Shr p) : gMany w p = gAlt w (gBind p fun a => gBind (gMany w p) fun l => gPure (a :: l)) (gPure []) := funext fun r => by
 unfold gMany
 conv => lhs;unfold gManyF
 unfold gAlt
 split
 ·rename_i e
  have := isT_ne e
  refine Rs.bind_congr rfl fun a q e2 => ?_
  have := h _ _ _ e2
  exact Rs.bind_congr (gManyF_more h _ _ q (by omega) (by omega)) fun _ _ _ => rfl
 ·rfl
theorem Shs.list {p : Pz α} (h : Shr p) : Shs (gList p) := .bind (.nd _) fun _ => .alt (.pure _) (.bind h fun _ => .bind (.many h) fun _ => .bind (Shs.nd _).le fun _ => .pure _)
/-! ### Rules that agree on short lists of tokens -/
def Agz (n : Nat) (p q : Pz α) : Prop := ∀ r,r.length ≤ n → p r = q r
theorem Agz.rfl' {n : Nat} {p : Pz α} : Agz n p p := fun _ _ => rfl
theorem Agz.bind {n : Nat} {p q : Pz α} {f g : α → Pz β} (hp : Shr p) (h : Agz n p q) (k : ∀ a,Agz n (f a) (g a)) : Agz n (gBind p f) (gBind q g) := fun r hr =>
 Rs.bind_congr (h r hr) fun a r' e => k a r' (Nat.le_trans (hp _ _ _ e) hr)
theorem Agz.alt {n : Nat} {w : Str} {p q p' q' : Pz α} (h : Agz (n - 1) p p') (k : Agz n q q') : Agz n (gAlt w p q) (gAlt w p' q') := fun r hr => by
 unfold gAlt
 split
 ·rename_i e;have := isT_ne e;exact h _ (by omega)
 ·exact k r hr
theorem Agz.altr {n : Nat} {w : Str} {p q p' q' : Pz α} (h : Agz n p p') (k : Agz n q q') : Agz n (gAlt w p q) (gAlt w p' q') := .alt (fun r hr => h r (by omega)) k
end
theorem Shs.blk {b : Pz (List Sm)} (h : Shr b) : Shs (gBlk b) := .bind (.nd _) fun _ => .bind h fun _ => .bind (Shs.nd _).le fun _ => .pure _
theorem Shr.els {b : Pz (List Sm)} (h : Shr b) : Shr (gEls b) := .alt (Shs.blk h).le (.pure _)
theorem Shr.oth {b : Pz (List Sm)} (h : Shr b) : Shr (gOth b) := .alt (Shs.blk h).le (.bind (Shs.nd _).le fun _ => .pure _)
theorem Shs.st {b : Pz (List Sm)} (h : Shr b) : Shs (gSt b) :=
 .alt (.bind Shs.ex.le fun _ => .bind (Shs.blk h).le fun _ => .bind (.els h) fun _ => .pure _)<|.alt (.bind Shs.ex.le fun _ => .bind (Shs.blk h).le fun _ => .pure _)<|.alt (.bind Shs.ex.le fun _ => .bind (Shs.nd _).le fun _ => .bind Shs.ex.le fun _ => .bind (.oth h) fun _ => .pure _)<|.alt (.bind Shs.nm.le fun _ => .bind (Shs.nd _).le fun _ => .bind Shs.ex.le fun _ => .bind (.oth h) fun _ => .pure _)<|.alt (.bind Shs.nm.le fun _ => .bind (Shs.nd _).le fun _ => .bind Shs.nm.le fun _ => .bind (Shs.list Shs.ex.le).le fun _ => .bind (Shs.nd _).le fun _ => .pure _)<|.alt (.bind Shs.ex.le fun _ => .bind (Shs.nd _).le fun _ => .bind Shs.nm.le fun _ => .bind (Shs.list Shs.ex.le).le fun _ => .bind (Shs.nd _).le fun _ => .pure _)<|.alt (.bind (Shs.nd _).le fun _ => .pure _)<|.alt (.bind Shs.nm.le fun _ => .bind (Shs.nd _).le fun _ => .bind Shs.ex.le fun _ => .bind (Shs.nd _).le fun _ => .bind (Shs.nd _).le fun _ => .pure _)<|.bind .nm fun _ => .alt (.bind Shs.ex.le fun _ => .bind (Shs.nd _).le fun _ => .bind (Shs.nd _).le fun _ => .bind Shs.ex.le fun _ => .bind (Shs.nd _).le fun _ => .pure _) (.bind (Shs.nd _).le fun _ => .bind Shs.ex.le fun _ => .bind (Shs.nd _).le fun _ => .pure _)
theorem Agz.blk {n : Nat} {b c : Pz (List Sm)} (h : Agz n b c) (hb : Shr b) : Agz n (gBlk b) (gBlk c) := .bind (Shs.nd _).le .rfl' fun _ => .bind hb h fun _ => .rfl'
theorem Agz.els {n : Nat} {b c : Pz (List Sm)} (h : Agz n b c) (hb : Shr b) : Agz n (gEls b) (gEls c) := .altr (.blk h hb) .rfl'
theorem Agz.oth {n : Nat} {b c : Pz (List Sm)} (h : Agz n b c) (hb : Shr b) : Agz n (gOth b) (gOth c) := .altr (.blk h hb) .rfl'
theorem Agz.st {n : Nat} {b c : Pz (List Sm)} (h : Agz (n - 1) b c) (hb : Shr b) : Agz n (gSt b) (gSt c) :=
 .alt (.bind Shs.ex.le .rfl' fun _ => .bind (Shs.blk hb).le (.blk h hb) fun _ => .bind (.els hb) (.els h hb) fun _ => .rfl')<|.alt (.bind Shs.ex.le .rfl' fun _ => .bind (Shs.blk hb).le (.blk h hb) fun _ => .rfl')<|.alt (.bind Shs.ex.le .rfl' fun _ => .bind (Shs.nd _).le .rfl' fun _ => .bind Shs.ex.le .rfl' fun _ => .bind (.oth hb) (.oth h hb) fun _ => .rfl')<|.alt (.bind Shs.nm.le .rfl' fun _ => .bind (Shs.nd _).le .rfl' fun _ => .bind Shs.ex.le .rfl' fun _ => .bind (.oth hb) (.oth h hb) fun _ => .rfl') .rfl'
theorem gBF_shr : ∀ f,Shr (gBF f)
 | 0 => fun _ _ _ e => by cases e
 | f + 1 => fun r a r' e => by
  unfold gBF at e
  split at e
  ·injection e with _ e;subst e;exact Nat.le_refl _
  ·obtain ⟨s,q,h1,h2⟩ := Rs.bind_ok e
   obtain ⟨l,q2,h3,h4⟩ := Rs.bind_ok h2
   injection h4 with _ h4;subst h4
   have := (Shs.st (gBF_shr f)) _ _ _ h1
   have := gBF_shr f _ _ _ h3
   omega
theorem Shr.b : Shr gB := fun _ _ _ e => gBF_shr _ _ _ _ e
theorem gBF_more : ∀ (f g : Nat) (r : List Tk),r.length < f → r.length < g → gBF f r = gBF g r
 | 0,_,_,k,_ => by omega
 | _,0,_,_,k => by omega
 | f + 1,g + 1,[],_,_ => rfl
 | f + 1,g + 1,t :: r,k1,k2 => by
  unfold gBF
  simp only [List.length_cons] at k1 k2
  refine ifC rfl (Rs.bind_congr (Agz.st (n := (t :: r).length) (fun q hq => ?_) (gBF_shr f) _ (Nat.le_refl _)) fun s q e => ?_)
  ·simp only [List.length_cons] at hq
   exact gBF_more f g q (by omega) (by omega)
  ·have := (Shs.st (gBF_shr f)) _ _ _ e
   simp only [List.length_cons] at this
   exact Rs.bind_congr (gBF_more f g q (by omega) (by omega)) fun _ _ _ => rfl
theorem gB_eq (r : List Tk) : gB r = if isT [125] r then .ok [] r else (gSt gB r).bind fun s r1 => (gB r1).bind fun l r2 => .ok (s :: l) r2 := by
 match r with
 | [] => rfl
 | t :: r =>
  conv => lhs;unfold gB;unfold gBF
  refine ifC rfl (Rs.bind_congr (Agz.st (n := (t :: r).length) (fun q hq => ?_) (gBF_shr _) _ (Nat.le_refl _)) fun s q e => ?_)
  ·simp only [List.length_cons] at hq
   exact gBF_more _ _ q (by simp only [List.length_cons];omega) (by omega)
  ·have := (Shs.st (gBF_shr _)) _ _ _ e
   exact Rs.bind_congr (gBF_more _ _ q (by omega) (by omega)) fun _ _ _ => rfl
def hdO (r : List Tk) : Option Kt := r.head?.map kt
def hdC (k : List Kt) (o : Option Kt) : Option Kt := match k with | [] => o | x :: _ => some x
theorem hdO_app {l r : List Tk} {k : List Kt} (h : l.map kt = k) : hdO (l ++ r) = hdC k (hdO r) := by
 subst h
 cases l <;> rfl
def anyO (_ : Option Kt) : Prop := True
def notW (w : Str) : Option Kt → Prop
 | none => True
 | some x => isK w x = false
def stpO : Option Kt → Prop
 | none => True
 | some x => (∀ i ∈ List.range 5,opK i x = none) ∧ isK [91] x = false
theorem isT_hdO (w : Str) (r : List Tk) : isT w r = match hdO r with | none => false | some x => isK w x := by cases r <;> rfl
theorem notW_isT {w : Str} {r : List Tk} (h : notW w (hdO r)) : isT w r = false := by
 rw [isT_hdO]
 cases e : hdO r with
 | none => rfl
 | some x => rw [e] at h;exact h
section
variable {α β : Type}
def Rdc (p : Pz α) (ks : List Kt) (v : α) (C : Option Kt → Prop) : Prop := ∀ le r,le.map kt = ks → C (hdO r) → p (le ++ r) = .ok v r
variable {k k1 k2 : List Kt} {v a : α} {C C1 C2 : Option Kt → Prop} {w : Str} {x : Kt}
theorem Rdc.pure : Rdc (gPure v) [] v C := fun le r e _ => by
 obtain rfl := List.map_eq_nil_iff.1 e;rfl
theorem Rdc.seq {p : Pz α} {f : α → Pz β} {b : β} (h1 : Rdc p k1 a C1) (hc : ∀ o,C2 o → C1 (hdC k2 o)) (h2 : Rdc (f a) k2 b C2) : Rdc (gBind p f) (k1 ++ k2) b C2 := fun le r e c => by
 obtain ⟨l1,l2,rfl,e1,e2⟩ := List.map_eq_append_iff.1 e
 unfold gBind
 rw [List.append_assoc,h1 l1 (l2 ++ r) e1 (by rw [hdO_app e2];exact hc _ c)]
 exact h2 l2 r e2 c
theorem Rdc.nd {f : Unit → Pz β} {b : β} (hx : isK w x = true) (h : Rdc (f ()) k b C) : Rdc (gBind (gNd w) f) (x :: k) b C := fun le r e c => by
 obtain ⟨t,l,rfl,ht,hl⟩ := List.map_eq_cons_iff.1 e
 unfold gBind gNd
 rw [List.cons_append,isT_cons,ht,hx]
 exact h l r hl c
theorem Rdc.nn {f : Unit → Pz β} {b : β} (h : Rdc (f ()) k b C) : Rdc (gBind (gNn w) f) ((3,w) :: k) b C := fun le r e c => by
 obtain ⟨t,l,rfl,ht,hl⟩ := List.map_eq_cons_iff.1 e
 have h1 : t.k = 3 := congrArg Prod.fst ht
 have h2 : t.t = w := congrArg Prod.snd ht
 have hN : isN w (t :: (l ++ r)) = true := by simp [isN,h1,h2]
 unfold gBind gNn
 rw [List.cons_append,hN]
 exact h l r hl c
theorem Rdc.nm {f : Str → Pz β} {b : β} (h : Rdc (f w) k b C) : Rdc (gBind gNm f) ((1,w) :: k) b C := fun le r e c => by
 obtain ⟨t,l,rfl,ht,hl⟩ := List.map_eq_cons_iff.1 e
 have h1 : t.k = 1 := congrArg Prod.fst ht
 have h2 : t.t = w := congrArg Prod.snd ht
 unfold gBind gNm
 rw [List.cons_append]
 simp only [h1,h2,if_true]
 exact h l r hl c
theorem Rdc.nm1 : Rdc gNm [(1,w)] w C := fun le r e c => by
 obtain ⟨t,l,rfl,ht,hl⟩ := List.map_eq_cons_iff.1 e
 obtain rfl := List.map_eq_nil_iff.1 hl
 have h1 : t.k = 1 := congrArg Prod.fst ht
 have h2 : t.t = w := congrArg Prod.snd ht
 unfold gNm
 rw [List.cons_append]
 simp only [h1,h2,if_true]
 rfl
theorem Rdc.nu {u : Nat} (h : u ≤ 9223372036854775807) : Rdc gNu [(3,Lib.decDigits u)] (Int64.ofNat u) C := fun le r e c => by
 obtain ⟨t,l,rfl,ht,hl⟩ := List.map_eq_cons_iff.1 e
 obtain rfl := List.map_eq_nil_iff.1 hl
 have h1 : t.k = 3 := congrArg Prod.fst ht
 have h2 : t.t = Lib.decDigits u := congrArg Prod.snd ht
 unfold gNu
 rw [List.cons_append]
 simp only [h1,h2,if_true,numV_digits,h]
 rfl
theorem Rdc.altT {p q : Pz α} (hx : isK w x = true) (h : Rdc p k v C) : Rdc (gAlt w p q) (x :: k) v C := fun le r e c => by
 obtain ⟨t,l,rfl,ht,hl⟩ := List.map_eq_cons_iff.1 e
 unfold gAlt
 rw [List.cons_append,isT_cons,ht,hx]
 exact h l r hl c
theorem Rdc.altF {p q : Pz α} (hx : isK w x = false) (h : Rdc q (x :: k) v C) : Rdc (gAlt w p q) (x :: k) v C := fun le r e c => by
 have h2 := h le r e c
 obtain ⟨t,l,rfl,ht,hl⟩ := List.map_eq_cons_iff.1 e
 unfold gAlt
 rw [List.cons_append,isT_cons,ht,hx]
 exact h2
theorem Rdc.altE {p q : Pz α} (hc : ∀ o,C o → notW w o) (h : Rdc q [] v C) : Rdc (gAlt w p q) [] v C := fun le r e c => by
 have h2 := h le r e c
 obtain rfl := List.map_eq_nil_iff.1 e
 unfold gAlt
 rw [List.nil_append,notW_isT (hc _ c),if_neg (by decide)]
 exact h2
theorem Rdc.many {p : Pz α} (hp : Shr p) (hx : isK w x = true) {g : α → List Kt} {Cp : Option Kt → Prop} (h1 : Cp (some x)) (hc : ∀ o,C o → Cp o ∧ notW w o) : ∀ l : List α,(∀ a ∈ l,Rdc p (g a) a Cp) → Rdc (gMany w p) ((l.map fun a => x :: g a).flatten) l C
 | [],_ => by
  rw [gMany_eq hp]
  exact .altE (fun o c => (hc o c).2) .pure
 | a :: l,h => by
  have ih := Rdc.many hp hx h1 hc l fun b hb => h b (List.mem_cons_of_mem _ hb)
  rw [gMany_eq hp]
  simp only [List.map_cons,List.flatten_cons,List.cons_append]
  refine .altT hx (.seq (h a (List.mem_cons_self ..)) (fun o c => ?_) ?_)
  ·cases l with
   | nil => exact (hc o c).1
   | cons b l => exact h1
  ·have := Rdc.seq (f := fun l => gPure (a :: l)) (k2 := []) ih (fun o c => c) .pure
   rwa [List.append_nil] at this
def comK (l : List (List Kt)) : List Kt := (l.map fun k => (4,[44]) :: k).flatten
def sepK : List (List Kt) → List Kt
 | [] => []
 | k :: l => k ++ comK l
def lstK (l : List (List Kt)) : List Kt := (4,[40]) :: (sepK l ++ [(4,[41])])
theorem Rdc.list {p : Pz α} (hp : Shr p) {g : α → List Kt} {Cp : Option Kt → Prop} (h1 : Cp (some (4,[44]))) (h2 : Cp (some (4,[41]))) {l : List α} (h : ∀ a ∈ l,Rdc p (g a) a Cp) (hg : ∀ a ∈ l,∃ x k,g a = x :: k ∧ isK [41] x = false) : Rdc (gList p) (lstK (l.map g)) l C := by
 refine .nd Z ?_
 cases l with
 | nil => exact .altT rfl .pure
 | cons a l =>
  obtain ⟨x,k,e,hk⟩ := hg a (List.mem_cons_self ..)
  have ha := h a (List.mem_cons_self ..)
  have hm : Rdc (gMany [44] p) (comK (l.map g)) l (fun o => o = some (4,[41])) := by
   have := Rdc.many (C := fun o => o = some (4,[41])) hp (w := [44]) (x := (4,[44])) rfl (g := g) h1 (fun o c => by subst c;exact ⟨h2,rfl⟩) l fun b hb => h b (List.mem_cons_of_mem _ hb)
   unfold comK
   rwa [List.map_map]
  have key : Rdc (gBind p fun a => gBind (gMany [44] p) fun l => gBind (gNd [41]) fun _ => gPure (a :: l)) (g a ++ (comK (l.map g) ++ [(4,[41])])) (a :: l) C := by
   refine .seq ha (fun o c => ?_) (.seq hm (fun o c => rfl) (.nd Z .pure))
   cases l with
   | nil => exact h2
   | cons b l => exact h1
  simp only [List.map_cons,sepK,List.append_assoc]
  rw [e] at key ⊢
  exact .altF hk key
end
def stK (kd : UInt8) (nm hd : Str) (es : List (List Kt)) (T : List Kt) (noE : Bool) (E : List Kt) : List Kt :=
 if kd = 1 then (1,nm) :: (4,[61]) :: (es.getD 0 [] ++ [(4,[59])])
 else if kd = 2 then (1,nm) :: (4,[91]) :: (es.getD 0 [] ++ (4,[93]) :: (4,[61]) :: (es.getD 1 [] ++ [(4,[59])]))
 else if kd = 3 then (2,[100,101,108,101,116,101]) :: (1,nm) :: (4,[91]) :: (es.getD 0 [] ++ [(4,[93]),(4,[59])])
 else if kd = 4 then (2,[105,102]) :: (es.getD 0 [] ++ ((4,[123]) :: (T ++ [(4,[125])]) ++ if noE then [] else (2,[101,108,115,101]) :: (4,[123]) :: (E ++ [(4,[125])])))
 else if kd = 5 then (2,[119,104,105,108,101]) :: (es.getD 0 [] ++ (4,[123]) :: (T ++ [(4,[125])]))
 else if kd = 6 then (2,[115,101,110,100]) :: (1,nm) :: (4,[46]) :: (1,hd) :: (lstK es ++ [(4,[59])])
 else if kd = 7 then (2,[97,102,116,101,114]) :: (es.getD 0 [] ++ (2,[100,111]) :: (1,hd) :: (lstK (es.drop 1) ++ [(4,[59])]))
 else if kd = 8 then (2,[115,116,111,114,101]) :: (es.getD 0 [] ++ (4,[61]) :: (es.getD 1 [] ++ if noE then [(4,[59])] else (2,[101,108,115,101]) :: (4,[123]) :: (E ++ [(4,[125])])))
 else if kd = 9 then (2,[102,101,116,99,104]) :: (1,nm) :: (4,[61]) :: (es.getD 0 [] ++ if noE then [(4,[59])] else (2,[101,108,115,101]) :: (4,[123]) :: (E ++ [(4,[125])]))
 else [(2,[115,116,111,112]),(4,[59])]
mutual
def ktS : Sm → List Kt
 | .mk kd nm hd ex th el => stK kd nm hd (ex.map ktE) (ktSs th) (decide (el.length = 0)) (ktSs el)
def ktSs : List Sm → List Kt
 | [] => []
 | s :: r => ktS s ++ ktSs r
end
theorem ktS_mk (kd : UInt8) (nm hd : Str) (ex : List Ex) (th el : List Sm) : ktS (.mk kd nm hd ex th el) = stK kd nm hd (ex.map ktE) (ktSs th) (decide (el.length = 0)) (ktSs el) := by rw [ktS]
theorem Rdc.ex {e : Ex} (h : Ex.all frmE e = true) : Rdc gEx (ktE e) e stpO := fun le r hk c => by
 obtain ⟨h1,h2⟩ := rd_all e h
 refine h1.full hk (by omega) h2 ⟨fun i _ h4 => ?_,?_⟩
 ·cases r with
  | nil => unfold opAt isT;simp
  | cons t r => exact c.1 i (List.mem_range.2 (by omega))
 ·cases r with
  | nil => rfl
  | cons t r => exact c.2
theorem ktE_hd (e : Ex) : Ex.all frmE e = true → ∃ x k,ktE e = x :: k ∧ isK [41] x = false := by
 induction e using Ex.ind with
 | _ op nm n args ih =>
  intro h
  rw [all_mk,Bool.and_eq_true] at h
  obtain ⟨hf,hr⟩ := h
  have ha : ∀ a ∈ args,∃ x k,ktE a = x :: k ∧ isK [41] x = false := fun a m => ih a m (alls_mem m hr)
  simp only [frmE,Bool.and_eq_true,Bool.or_eq_true,decide_eq_true_eq] at hf
  obtain ⟨⟨⟨hop,hl⟩,_⟩,_⟩ := hf
  by_cases h1 : op = 1
  ·subst h1;exact ⟨_,_,rfl,by simp [isK]⟩
  by_cases hb : op ∈ ([11,12,13,14,15,16,17,18,19,20,21,22,23] : List UInt8)
  ·obtain ⟨b1,_⟩ := bin_facts op hb
   obtain ⟨a,b,rfl⟩ := args2 (l := args) (by omega)
   rw [ktE_bin hb]
   unfold parK
   split
   ·exact ⟨_,_,rfl,rfl⟩
   ·obtain ⟨x,k,e,hx⟩ := ha a (by simp)
    rw [e]
    exact ⟨_,_,rfl,hx⟩
  have hs : op = 2 ∨ op = 3 ∨ op = 4 ∨ op = 5 ∨ op = 6 ∨ op = 7 ∨ op = 8 ∨ op = 9 ∨ op = 10 := ((ok_split hop).resolve_left h1).resolve_left hb
  rcases hs with rfl | rfl | rfl | rfl | rfl | rfl | rfl | rfl | rfl
  all_goals first | exact ⟨_,_,rfl,rfl⟩ | exact ⟨_,_,rfl,by decide⟩
theorem Rdc.exs {C : Option Kt → Prop} {l : List Ex} (h : ∀ a ∈ l,Ex.all frmE a = true) : Rdc (gList gEx) (lstK (l.map ktE)) l C :=
 .list Shs.ex.le ⟨by decide,by decide⟩ ⟨by decide,by decide⟩ (fun a ha => .ex (h a ha)) fun a ha => ktE_hd a (h a ha)
def endB (o : Option Kt) : Prop := o = some (4,[125])
theorem Rdc.blk {C : Option Kt → Prop} {l : List Sm} (h : Rdc gB (ktSs l) l endB) : Rdc (gBlk gB) ((4,[123]) :: (ktSs l ++ [(4,[125])])) l C :=
 .nd rfl (.seq h (fun _ _ => rfl) (.nd rfl .pure))
theorem okKd_cases {kd : UInt8} (h : okKd kd = true) : kd = 1 ∨ kd = 2 ∨ kd = 3 ∨ kd = 4 ∨ kd = 5 ∨ kd = 6 ∨ kd = 7 ∨ kd = 8 ∨ kd = 9 ∨ kd = 10 := by
 simp only [okKd,Bool.and_eq_true,decide_eq_true_eq] at h
 have key : ∀ i ∈ List.range 11,1 ≤ i → (UInt8.ofNat i = 1 ∨ UInt8.ofNat i = 2 ∨ UInt8.ofNat i = 3 ∨ UInt8.ofNat i = 4 ∨ UInt8.ofNat i = 5 ∨ UInt8.ofNat i = 6 ∨ UInt8.ofNat i = 7 ∨ UInt8.ofNat i = 8 ∨ UInt8.ofNat i = 9 ∨ UInt8.ofNat i = 10) := by decide
 have := key kd.toNat (List.mem_range.2 (by omega)) h.1
 rwa [UInt8.ofNat_toNat] at this
theorem exs1 {l : List Ex} (h : l.length = 1) (hf : Ex.alls frmE l = true) : ∃ a,l = [a] ∧ Ex.all frmE a = true := by
 obtain ⟨a,rfl⟩ := args1 h
 exact ⟨a,rfl,alls_mem (by simp) hf⟩
theorem exs2 {l : List Ex} (h : l.length = 2) (hf : Ex.alls frmE l = true) : ∃ a b,l = [a,b] ∧ Ex.all frmE a = true ∧ Ex.all frmE b = true := by
 obtain ⟨a,b,rfl⟩ := args2 h
 exact ⟨a,b,rfl,alls_mem (by simp) hf,alls_mem (by simp) hf⟩
inductive FmS : Sm → Prop where
 | k1 {nm : Str} {a : Ex} (ha : Ex.all frmE a = true) : FmS (.mk 1 nm [] [a] [] [])
 | k2 {nm : Str} {a b : Ex} (ha : Ex.all frmE a = true) (hb : Ex.all frmE b = true) : FmS (.mk 2 nm [] [a,b] [] [])
 | k3 {nm : Str} {a : Ex} (ha : Ex.all frmE a = true) : FmS (.mk 3 nm [] [a] [] [])
 | k4 {a : Ex} {th el : List Sm} (ha : Ex.all frmE a = true) : FmS (.mk 4 [] [] [a] th el)
 | k5 {a : Ex} {th : List Sm} (ha : Ex.all frmE a = true) : FmS (.mk 5 [] [] [a] th [])
 | k6 {nm hd : Str} {l : List Ex} (hl : ∀ a ∈ l,Ex.all frmE a = true) : FmS (.mk 6 nm hd l [] [])
 | k7 {hd : Str} {a : Ex} {l : List Ex} (ha : Ex.all frmE a = true) (hl : ∀ a ∈ l,Ex.all frmE a = true) : FmS (.mk 7 [] hd (a :: l) [] [])
 | k8 {a b : Ex} {el : List Sm} (ha : Ex.all frmE a = true) (hb : Ex.all frmE b = true) : FmS (.mk 8 [] [] [a,b] [] el)
 | k9 {nm : Str} {a : Ex} {el : List Sm} (ha : Ex.all frmE a = true) : FmS (.mk 9 nm [] [a] [] el)
 | k10 : FmS (.mk 10 [] [] [] [] [])
theorem frmS_form {s : Sm} (h : frmS s = true) : FmS s := by
 obtain ⟨kd,nm,hd,ex,th,el⟩ := s
 simp only [frmS,Bool.and_eq_true,Bool.or_eq_true,decide_eq_true_eq] at h
 obtain ⟨⟨⟨⟨⟨⟨⟨hk,h1⟩,h2⟩,h3⟩,h4⟩,h5⟩,h6⟩,h7⟩ := h
 have z : ∀ {l : List Sm},l.length = 0 → l = [] := List.eq_nil_of_length_eq_zero
 rcases okKd_cases hk with rfl | rfl | rfl | rfl | rfl | rfl | rfl | rfl | rfl | rfl
 ·obtain rfl := h4.resolve_left (by decide);obtain rfl := z (h5.resolve_left (by decide));obtain rfl := z (h6.resolve_left (by decide))
  obtain ⟨a,rfl,ha⟩ := exs1 (Nat.le_antisymm h2 h1) h7
  exact .k1 ha
 ·obtain rfl := h4.resolve_left (by decide);obtain rfl := z (h5.resolve_left (by decide));obtain rfl := z (h6.resolve_left (by decide))
  obtain ⟨a,b,rfl,ha,hb⟩ := exs2 (Nat.le_antisymm h2 h1) h7
  exact .k2 ha hb
 ·obtain rfl := h4.resolve_left (by decide);obtain rfl := z (h5.resolve_left (by decide));obtain rfl := z (h6.resolve_left (by decide))
  obtain ⟨a,rfl,ha⟩ := exs1 (Nat.le_antisymm h2 h1) h7
  exact .k3 ha
 ·obtain rfl := h3.resolve_left (by decide);obtain rfl := h4.resolve_left (by decide)
  obtain ⟨a,rfl,ha⟩ := exs1 (Nat.le_antisymm h2 h1) h7
  exact .k4 ha
 ·obtain rfl := h3.resolve_left (by decide);obtain rfl := h4.resolve_left (by decide);obtain rfl := z (h6.resolve_left (by decide))
  obtain ⟨a,rfl,ha⟩ := exs1 (Nat.le_antisymm h2 h1) h7
  exact .k5 ha
 ·obtain rfl := z (h5.resolve_left (by decide));obtain rfl := z (h6.resolve_left (by decide))
  exact .k6 fun a ha => alls_mem ha h7
 ·obtain rfl := h3.resolve_left (by decide);obtain rfl := z (h5.resolve_left (by decide));obtain rfl := z (h6.resolve_left (by decide))
  cases ex with
  | nil => exact absurd h1 (by decide)
  | cons a l => exact .k7 (alls_mem (by simp) h7) fun b hb => alls_mem (by simp [hb]) h7
 ·obtain rfl := h3.resolve_left (by decide);obtain rfl := h4.resolve_left (by decide);obtain rfl := z (h5.resolve_left (by decide))
  obtain ⟨a,b,rfl,ha,hb⟩ := exs2 (Nat.le_antisymm h2 h1) h7
  exact .k8 ha hb
 ·obtain rfl := h4.resolve_left (by decide);obtain rfl := z (h5.resolve_left (by decide))
  obtain ⟨a,rfl,ha⟩ := exs1 (Nat.le_antisymm h2 h1) h7
  exact .k9 ha
 ·obtain rfl := h3.resolve_left (by decide);obtain rfl := h4.resolve_left (by decide);obtain rfl := z (h5.resolve_left (by decide));obtain rfl := z (h6.resolve_left (by decide))
  obtain rfl := args0 (Nat.le_zero.1 h2)
  exact .k10
theorem ktS_hd {s : Sm} (h : FmS s) : ∃ x k,ktS s = x :: k ∧ isK [125] x = false ∧ isK [101,108,115,101] x = false := by
 cases h <;> rw [ktS_mk] <;> exact ⟨_,_,rfl,rfl,rfl⟩
def RdS (s : Sm) : Prop := Rdc (gSt gB) (ktS s) s (notW [101,108,115,101])
theorem stp_ {x : Kt} (h1 : (List.range 5).all (fun i => (opK i x).isNone) = true) (h2 : isK [91] x = false) : stpO (some x) := ⟨fun i hi => by simpa using List.all_eq_true.1 h1 i hi,h2⟩
theorem Rdc.oth {C : Option Kt → Prop} {el : List Sm} (h : Rdc gB (ktSs el) el endB) : Rdc (gOth gB) (if decide (el.length = 0) = true then [(4,[59])] else (2,[101,108,115,101]) :: (4,[123]) :: (ktSs el ++ [(4,[125])])) el C := by
 split
 ·rename_i e
  obtain rfl := List.eq_nil_of_length_eq_zero (of_decide_eq_true e)
  exact .altF Z (.nd Z .pure)
 ·exact .altT Z (.blk h)
theorem oth_stp (el : List Sm) (o : Option Kt) : stpO (hdC (if decide (el.length = 0) = true then [(4,[59])] else (2,[101,108,115,101]) :: (4,[123]) :: (ktSs el ++ [(4,[125])])) o) := by
 split <;> exact stp_ rfl rfl
theorem Rdc.st {s : Sm} (h : FmS s) (ht : ∀ nm hd kd ex th el,s = .mk kd nm hd ex th el → Rdc gB (ktSs th) th endB ∧ Rdc gB (ktSs el) el endB) : RdS s := by
 unfold RdS
 cases h with
 | k1 ha => exact .altF rfl<|.altF rfl<|.altF rfl<|.altF rfl<|.altF rfl<|.altF rfl<|.altF rfl<|.altF rfl<|.nm<|.altF rfl<|.nd rfl<|.seq (.ex ha) (fun _ _ => stp_ rfl rfl)<|.nd rfl .pure
 | k2 ha hb => exact .altF rfl<|.altF rfl<|.altF rfl<|.altF rfl<|.altF rfl<|.altF rfl<|.altF rfl<|.altF rfl<|.nm<|.altT rfl<|.seq (.ex ha) (fun _ _ => stp_ rfl rfl)<|.nd rfl<|.nd rfl<|.seq (.ex hb) (fun _ _ => stp_ rfl rfl)<|.nd rfl .pure
 | k3 ha => exact .altF rfl<|.altF rfl<|.altF rfl<|.altF rfl<|.altF rfl<|.altF rfl<|.altF rfl<|.altT rfl<|.nm<|.nd rfl<|.seq (.ex ha) (fun _ _ => stp_ rfl rfl)<|.nd rfl<|.nd rfl .pure
 | @k4 a th el ha =>
  obtain ⟨h1,h2⟩ := ht _ _ _ _ _ _ rfl
  refine .altT Z<|.seq (.ex ha) (fun _ _ => stp_ Z Z)<|.seq (C1 := anyO) (.blk h1) (fun _ _ => trivial) ?_
  split
  ·rename_i e
   obtain rfl := List.eq_nil_of_length_eq_zero (of_decide_eq_true e)
   exact Rdc.seq (k1 := []) (k2 := []) (C1 := notW [101,108,115,101]) (.altE (fun o c => c) .pure) (fun o c => c) .pure
  ·have := Rdc.seq (C2 := notW [101,108,115,101]) (f := fun l => gPure (Sm.mk 4 [] [] [a] th l)) (k2 := []) (C1 := anyO) (.altT (w := [101,108,115,101]) (q := gPure []) (x := (2,[101,108,115,101])) rfl (.blk h2)) (fun o c => trivial) .pure
   rwa [List.append_nil] at this
 | @k5 a th ha =>
  obtain ⟨h1,_⟩ := ht _ _ _ _ _ _ rfl
  have := Rdc.seq (C2 := notW [101,108,115,101]) (f := fun t => gPure (Sm.mk 5 [] [] [a] t [])) (k2 := []) (C1 := anyO) (.blk h1) (fun o c => trivial) .pure
  rw [List.append_nil] at this
  exact .altF Z<|.altT Z<|.seq (.ex ha) (fun _ _ => stp_ Z Z) this
 | k6 hl => exact .altF rfl<|.altF rfl<|.altF rfl<|.altF rfl<|.altT rfl<|.nm<|.nd rfl<|.nm<|.seq (C1 := anyO) (.exs hl) (fun _ _ => trivial)<|.nd rfl .pure
 | k7 ha hl => exact .altF rfl<|.altF rfl<|.altF rfl<|.altF rfl<|.altF rfl<|.altT rfl<|.seq (.ex ha) (fun _ _ => stp_ rfl rfl)<|.nd rfl<|.nm<|.seq (C1 := anyO) (.exs hl) (fun _ _ => trivial)<|.nd rfl .pure
 | @k8 a b el ha hb =>
  obtain ⟨_,h2⟩ := ht _ _ _ _ _ _ rfl
  have := Rdc.seq (C2 := notW [101,108,115,101]) (f := fun l => gPure (Sm.mk 8 [] [] [a,b] [] l)) (k2 := []) (C1 := anyO) (.oth h2) (fun o c => trivial) .pure
  rw [List.append_nil] at this
  exact .altF Z<|.altF Z<|.altT Z<|.seq (.ex ha) (fun _ _ => stp_ Z Z)<|.nd Z<|.seq (.ex hb) (fun o _ => oth_stp el o) this
 | @k9 nm a el ha =>
  obtain ⟨_,h2⟩ := ht _ _ _ _ _ _ rfl
  have := Rdc.seq (C2 := notW [101,108,115,101]) (f := fun l => gPure (Sm.mk 9 nm [] [a] [] l)) (k2 := []) (C1 := anyO) (.oth h2) (fun o c => trivial) .pure
  rw [List.append_nil] at this
  exact .altF Z<|.altF Z<|.altF Z<|.altT Z<|.nm<|.nd Z<|.seq (.ex ha) (fun o _ => oth_stp el o) this
 | k10 => exact .altF rfl<|.altF rfl<|.altF rfl<|.altF rfl<|.altF rfl<|.altF rfl<|.altT rfl<|.nd rfl .pure
theorem Rdc.b : ∀ (l : List Sm),(∀ s ∈ l,FmS s ∧ RdS s) → Rdc gB (ktSs l) l endB
 | [],_ => fun le r e c => by
  obtain rfl := List.map_eq_nil_iff.1 (by rw [ktSs] at e;exact e)
  rw [gB_eq,List.nil_append,isT_hdO]
  have c : hdO r = some (4,[125]) := c
  rw [c]
  rfl
 | s :: l,h => fun le r e c => by
  rw [ktSs] at e
  obtain ⟨l1,l2,rfl,e1,e2⟩ := List.map_eq_append_iff.1 e
  obtain ⟨hf,hs⟩ := h s (List.mem_cons_self ..)
  obtain ⟨x,k,hx,hx1,_⟩ := ktS_hd hf
  have ih := Rdc.b l (fun a ha => h a (List.mem_cons_of_mem _ ha)) l2 r e2 c
  have h2 := hs l1 (l2 ++ r) e1 (by
   rw [hdO_app e2]
   cases l with
   | nil => rw [show hdC (ktSs []) (hdO r) = hdO r from rfl,show hdO r = some (4,[125]) from c];rfl
   | cons b l =>
    obtain ⟨y,k2,hy,_,hy2⟩ := ktS_hd (h b (by simp)).1
    rw [ktSs,hy];exact hy2)
  rw [gB_eq,List.append_assoc,isT_hdO,hdO_app e1,hx]
  show (if isK [125] x = true then _ else _) = _
  rw [hx1,if_neg (by decide),h2]
  show (gB (l2 ++ r)).bind _ = _
  rw [ih]
  rfl
theorem salls_mem {q : Sm → Bool} : ∀ {l : List Sm} {a : Sm},a ∈ l → Sm.alls q l = true → Sm.all q a = true
 | b :: l,a,h,k => by
  rw [Sm.alls,Bool.and_eq_true] at k
  rcases List.mem_cons.1 h with rfl | h
  ·exact k.1
  ·exact salls_mem h k.2
theorem rdS_all (s : Sm) : Sm.all frmS s = true → FmS s ∧ RdS s := by
 induction s using Sm.ind with
 | _ kd nm hd ex th el ih1 ih2 =>
  intro h
  rw [sall_mk,Bool.and_eq_true,Bool.and_eq_true] at h
  obtain ⟨⟨h1,h2⟩,h3⟩ := h
  have hf := frmS_form h1
  exact ⟨hf,.st hf fun nm' hd' kd' ex' th' el' e => by
   injection e with _ _ _ _ e1 e2
   subst e1 e2
   exact ⟨.b _ fun s hs => ih1 s hs (salls_mem hs h2),.b _ fun s hs => ih2 s hs (salls_mem hs h3)⟩⟩
theorem Rdc.body {l : List Sm} (h : Sm.alls frmS l = true) : Rdc gB (ktSs l) l endB := .b l fun s hs => rdS_all s (salls_mem hs h)
/-! ### Fleets -/
def truK (b : Bool) : Kt := (2,if b then [116,114,117,101] else [102,97,108,115,101])
def fgK (f : Fg) : List Kt := [(1,f.nm),(4,[61]),truK f.init,(4,[59])]
def lkK (l : Lk) : List Kt := [(1,l.fr),(4,[45,62]),(1,l.to),(2,[108,97,116,101,110,99,121]),(3,Lib.decDigits l.lat.toInt.toNat),(4,[59])]
def intK (n : Int64) : List Kt := if n.toInt < 0 then [(4,[45]),(3,Lib.decDigits (-n.toInt).toNat)] else [(3,Lib.decDigits n.toInt.toNat)]
def vrK (v : Vr) : List Kt := (1,v.nm) :: (4,[58]) :: (if v.ty = 1 then (2,[105,110,116]) :: (4,[61]) :: (intK v.init ++ [(4,[59])]) else if v.ty = 2 then [(2,[98,111,111,108]),(4,[61]),truK (decide (v.init.toInt = 1)),(4,[59])] else [(2,[116,97,98,108,101]),(4,[59])])
def hdK (h : Hd) : List Kt := (1,h.nm) :: (lstK (h.ps.map fun p => [(1,p)]) ++ (4,[123]) :: (ktSs h.body ++ [(4,[125])]))
def vsK (v : List Hd) : List Kt := (v.map fun h => (2,[111,110]) :: hdK h).flatten
def vnK (n : Str) (v : List Hd) : List Kt := (2,[118,101,114,115,105,111,110]) :: (3,n) :: (4,[123]) :: (vsK v ++ [(4,[125])])
def vmK : List (List Hd) → List Kt
 | [v] => vnK [50] v
 | v :: w :: _ => vnK [50] v ++ vnK [51] w
 | [] => []
def cpK (c : Cp) : List Kt := (1,c.nm) :: (4,[123]) :: ((c.vars.map fun v => (2,[118,97,114]) :: vrK v).flatten ++ (vsK (c.vers.headD []) ++ (vmK c.vers.tail ++ [(4,[125])])))
def ftK (f : Ft) : List Kt := (2,[102,108,101,101,116]) :: (1,f.nm) :: (4,[123]) :: ((f.flags.map fun x => (2,[102,108,97,103]) :: fgK x).flatten ++ ((f.links.map fun x => (2,[108,105,110,107]) :: lkK x).flatten ++ ((f.comps.map fun x => (2,[99,111,109,112,111,110,101,110,116]) :: cpK x).flatten ++ [(4,[125])])))
section
variable {C : Option Kt → Prop}
theorem Rdc.tru {β : Type} {f : Bool → Pz β} {b : Bool} {k : List Kt} {v : β} (h : Rdc (f b) k v C) : Rdc (gBind gTr f) (truK b :: k) v C := by
 have : Rdc gTr [truK b] b anyO := by
  cases b
  ·exact .altF Z (.nd Z .pure)
  ·exact .altT Z .pure
 exact Rdc.seq (k1 := [truK b]) this (fun _ _ => trivial) h
theorem Rdc.fg (f : Fg) : Rdc gFg (fgK f) f C := .nm<|.nd rfl<|.tru<|.nd rfl .pure
theorem i64_nat {n : Int64} (h : 0 ≤ n.toInt) : n.toInt.toNat ≤ 9223372036854775807 ∧ Int64.ofNat n.toInt.toNat = n := by
 have hlt := n.toInt_lt
 refine ⟨by omega,Int64.toInt_inj.1 ?_⟩
 rw [Int64.toInt_ofNat_of_lt (by omega)];omega
theorem Rdc.lk {l : Lk} (h : lkB l = true) : Rdc gLk (lkK l) l C := by
 simp only [lkB,Bool.and_eq_true,decide_eq_true_eq] at h
 obtain ⟨h1,h2⟩ := i64_nat (n := l.lat) (by omega)
 have h3 : Rdc gNu [(3,Lib.decDigits l.lat.toInt.toNat)] l.lat anyO := by
  have := Rdc.nu (C := anyO) h1
  rwa [h2] at this
 exact .nm<|.nd Z<|.nm<|.nd Z<|Rdc.seq (k1 := [_]) h3 (fun _ _ => trivial)<|.nd Z .pure
theorem Rdc.int {n : Int64} (h : n.toInt ≠ -9223372036854775808) : Rdc gInt (intK n) n C := by
 unfold intK
 split
 ·rename_i hn
  have hlt := n.le_toInt
  have h1 : (-n.toInt).toNat ≤ 9223372036854775807 := by omega
  have e : -Int64.ofNat (-n.toInt).toNat = n := by
   apply Int64.toInt_inj.1
   rw [Int64.toInt_neg,Int64.toInt_ofNat_of_lt (by omega)]
   rw [Int.toNat_of_nonneg (by omega),Int.neg_neg]
   exact Int.bmod_eq_of_le (by omega) (by have := n.toInt_lt;omega)
  have := Rdc.seq (C1 := anyO) (C2 := C) (f := fun v => gPure (-v)) (k2 := []) (.nu h1) (fun _ _ => trivial) .pure
  rw [e] at this
  exact .altT Z this
 ·obtain ⟨h1,h2⟩ := i64_nat (n := n) (by omega)
  have h3 := Rdc.nu (C := C) h1
  rw [h2] at h3
  exact .altF (by simp [isK]) h3
theorem Rdc.vr {v : Vr} (h : frmV v = true) : Rdc gVr (vrK v) v C := by
 obtain ⟨nm,ty,init⟩ := v
 unfold frmV at h
 simp only at h
 refine .nm<|.nd Z ?_
 simp only
 by_cases h1 : ty = 1
 ·subst h1
  rw [if_pos rfl,decide_eq_true_eq] at h
  rw [if_pos rfl]
  exact .altT Z<|.nd Z<|.seq (C1 := anyO) (.int h) (fun _ _ => trivial)<|.nd Z .pure
 rw [if_neg h1] at h ⊢
 by_cases h2 : ty = 2
 ·subst h2
  rw [if_pos rfl,decide_eq_true_eq] at h
  rw [if_pos rfl]
  have e : (if decide (init.toInt = 1) = true then (1 : Int64) else 0) = init := by
   apply Int64.toInt_inj.1
   rcases h with h | h <;> simp [h]
  refine .altF Z<|.altT Z<|.nd Z<|.tru<|.nd Z ?_
  rw [e]
  exact .pure
 rw [if_neg h2] at h ⊢
 split at h
 ·rename_i h3
  subst h3
  obtain rfl := i64_zero (of_decide_eq_true h)
  exact .altF Z<|.altF Z<|.nd Z<|.nd Z .pure
 ·cases h
theorem Rdc.hd {h : Hd} (hf : frmH h = true) : Rdc gHd (hdK h) h C := by
 have h1 : Rdc (gList gNm) (lstK (h.ps.map fun p => [(1,p)])) h.ps anyO := .list Shs.nm.le (Cp := anyO) trivial trivial (fun a _ => .nm1) fun a _ => ⟨_,_,rfl,by simp [isK]⟩
 have h2 := Rdc.seq (C1 := anyO) (C2 := C) (f := fun b => gPure (Hd.mk h.nm h.ps b)) (k2 := []) (.blk (.body hf)) (fun _ _ => trivial) .pure
 rw [List.append_nil] at h2
 exact .nm<|.seq h1 (fun _ _ => trivial) h2
theorem Shs.hd : Shs gHd := .bind .nm fun _ => .bind (Shs.list Shs.nm.le).le fun _ => .bind (Shs.blk Shr.b).le fun _ => .pure _
theorem Rdc.vs {v : List Hd} (h : v.all frmH = true) (hc : ∀ o,C o → notW [111,110] o) : Rdc gVs (vsK v) v C :=
 .many Shs.hd.le rfl (Cp := anyO) trivial (fun o c => ⟨trivial,hc o c⟩) v fun a ha => .hd (List.all_eq_true.1 h a ha)
theorem Rdc.vn {n : Str} {v : List Hd} (h : v.all frmH = true) : Rdc (gVn n) ((3,n) :: (4,[123]) :: (vsK v ++ [(4,[125])])) v C :=
 .nn<|.nd rfl<|.seq (C1 := endB) (.vs h fun o c => by rw [show o = some (4,[125]) from c];rfl) (fun _ _ => rfl)<|.nd rfl .pure
theorem Rdc.vm {l : List (List Hd)} (h : ∀ v ∈ l,v.all frmH = true) (hl : l.length ≤ 2) : Rdc gVm (vmK l) l endB := by
 have hE : ∀ o,endB o → notW [118,101,114,115,105,111,110] o := fun o c => by rw [show o = some (4,[125]) from c];rfl
 match l,hl with
 | [],_ => exact .altE hE .pure
 | [v],_ =>
  have := Rdc.seq (C1 := anyO) (C2 := endB) (f := fun v => gAlt [118,101,114,115,105,111,110] (gBind (gVn [51]) fun w => gPure [v,w]) (gPure [v])) (k2 := []) (.vn (n := [50]) (h v (by simp))) (fun _ _ => trivial) (.altE hE .pure)
  rw [List.append_nil] at this
  exact .altT Z this
 | [v,w],_ =>
  have h2 := Rdc.seq (C1 := anyO) (C2 := endB) (f := fun w => gPure [v,w]) (k2 := []) (.vn (n := [51]) (h w (by simp))) (fun _ _ => trivial) .pure
  rw [List.append_nil] at h2
  exact .altT Z (.seq (C1 := anyO) (.vn (n := [50]) (h v (by simp))) (fun _ _ => trivial) (.altT Z h2))
theorem Shs.tr : Shs gTr := .alt (.pure _) (.bind (.nd _) fun _ => .pure _)
theorem Shs.fg : Shs gFg := .bind .nm fun _ => .bind (Shs.nd _).le fun _ => .bind Shs.tr.le fun _ => .bind (Shs.nd _).le fun _ => .pure _
theorem Shs.lk : Shs gLk := .bind .nm fun _ => .bind (Shs.nd _).le fun _ => .bind Shs.nm.le fun _ => .bind (Shs.nd _).le fun _ => .bind Shs.nu.le fun _ => .bind (Shs.nd _).le fun _ => .pure _
theorem Shs.int : Shs gInt := .alt (.bind Shs.nu.le fun _ => .pure _) .nu
theorem Shs.vr : Shs gVr := .bind .nm fun _ => .bind (Shs.nd _).le fun _ => .alt (.bind (Shs.nd _).le fun _ => .bind Shs.int.le fun _ => .bind (Shs.nd _).le fun _ => .pure _) (.alt (.bind (Shs.nd _).le fun _ => .bind Shs.tr.le fun _ => .bind (Shs.nd _).le fun _ => .pure _) (.bind (Shs.nd _).le fun _ => .bind (Shs.nd _).le fun _ => .pure _))
theorem Shr.vs : Shr gVs := .many Shs.hd.le
theorem Shs.vn (n : Str) : Shs (gVn n) := .bind (.nn _) fun _ => .bind (Shs.nd _).le fun _ => .bind .vs fun _ => .bind (Shs.nd _).le fun _ => .pure _
theorem Shr.vm : Shr gVm := .alt (.bind (Shs.vn _).le fun _ => .alt (.bind (Shs.vn _).le fun _ => .pure _) (.pure _)) (.pure _)
theorem Shs.cp : Shs gCp := .bind .nm fun _ => .bind (Shs.nd _).le fun _ => .bind (.many Shs.vr.le) fun _ => .bind .vs fun _ => .bind .vm fun _ => .bind (Shs.nd _).le fun _ => .pure _
theorem hdC_app (k1 k2 : List Kt) (o : Option Kt) : hdC (k1 ++ k2) o = hdC k1 (hdC k2 o) := by cases k1 <;> rfl
theorem hd_many {α : Type} {w : Str} {x : Kt} (hw : isK w x = false) (g : α → List Kt) (l : List α) {o : Option Kt} (h : notW w o) : notW w (hdC ((l.map fun a => x :: g a).flatten) o) := by
 cases l with
 | nil => exact h
 | cons a l => exact hw
theorem hd_vm {w : Str} (hw : isK w (2,[118,101,114,115,105,111,110]) = false) (l : List (List Hd)) {o : Option Kt} (h : notW w o) : notW w (hdC (vmK l) o) := by
 match l with
 | [] => exact h
 | [v] => exact hw
 | v :: u :: _ => exact hw
theorem Rdc.cp {c : Cp} (h1 : c.vars.all frmV = true) (h2 : cpAll frmH c = true) (h3 : 1 ≤ c.vers.length) (h4 : c.vers.length ≤ 3) : Rdc gCp (cpK c) c C := by
 obtain ⟨nm,vars,vers⟩ := c
 simp only at h1 h3 h4
 match vers,h3 with
 | v :: l,_ =>
  have hv : ∀ u ∈ v :: l,u.all frmH = true := List.all_eq_true.1 h2
  simp only [List.length_cons] at h4
  refine .nm<|.nd Z<|.seq (C1 := notW [118,97,114]) (.many Shs.vr.le Z (Cp := anyO) trivial (fun o c => ⟨trivial,c⟩) vars fun a ha => .vr (List.all_eq_true.1 h1 a ha)) (fun o c => ?_)<|.seq (C1 := notW [111,110]) (.vs (hv v (by simp)) fun o c => c) (fun o c => ?_)<|.seq (C1 := endB) (.vm (fun u hu => hv u (by simp only [List.tail_cons] at hu;simp [hu])) (by simp only [List.tail_cons];omega)) (fun o c => rfl)<|.nd Z .pure
  ·rw [hdC_app,hdC_app]
   exact hd_many rfl _ _ (hd_vm rfl _ rfl)
  ·rw [hdC_app]
   exact hd_vm rfl _ rfl
theorem Rdc.ft {f : Ft} (h : checkF f = 0) : Rdc gFt (ftK f) f C := by
 unfold checkF at h
 split at h
 ·cases h
 rename_i h1
 split at h
 ·cases h
 split at h
 ·cases h
 rename_i h2
 rw [Bool.not_eq_false] at h1 h2
 simp only [smlF,Bool.and_eq_true] at h1
 simp only [frmF,Bool.and_eq_true] at h2
 obtain ⟨_,hs,_⟩ := h1
 obtain ⟨⟨hl,hv⟩,hb⟩ := h2
 rw [evH_eq] at hb
 refine .nd Z<|.nm<|.nd Z<|.seq (C1 := notW [102,108,97,103]) (.many Shs.fg.le Z (Cp := anyO) trivial (fun o c => ⟨trivial,c⟩) f.flags fun a _ => .fg a) (fun o c => ?_)<|.seq (C1 := notW [108,105,110,107]) (.many Shs.lk.le Z (Cp := anyO) trivial (fun o c => ⟨trivial,c⟩) f.links fun a ha => .lk (List.all_eq_true.1 hl a ha)) (fun o c => ?_)<|.seq (C1 := notW [99,111,109,112,111,110,101,110,116]) (.many Shs.cp.le Z (Cp := anyO) trivial (fun o c => ⟨trivial,c⟩) f.comps fun a ha => ?_) (fun o c => rfl)<|.nd Z .pure
 ·rw [hdC_app,hdC_app]
  exact hd_many rfl _ _ (hd_many rfl _ _ rfl)
 ·rw [hdC_app]
  exact hd_many rfl _ _ rfl
 ·have h3 := List.all_eq_true.1 hs a ha
  simp only [smlC,Bool.and_eq_true,decide_eq_true_eq] at h3
  exact .cp (List.all_eq_true.1 hv a ha) (List.all_eq_true.1 hb a ha) h3.1.1.2 h3.1.2
end
theorem ftK_inj {a b : Ft} (ha : checkF a = 0) (hb : checkF b = 0) (h : ftK a = ftK b) : a = b := by
 obtain ⟨l,hl⟩ : ∃ l : List Tk,l.map kt = ftK a := ⟨(ftK a).map fun x => ⟨x.1,x.2,0⟩,by rw [List.map_map];simp [kt,Function.comp_def]⟩
 have h1 := Rdc.ft (C := anyO) ha l [] hl trivial
 have h2 := Rdc.ft (C := anyO) hb l [] (hl.trans h) trivial
 rw [h1] at h2
 injection h2
structure Tok (x : Kt) (r : Str) : Prop where
 ne : x.2 ≠ []
 read : readK (x.2 ++ r) = (x.1,x.2.length)
 skip : skipS false (x.2 ++ r) = x.2 ++ r
inductive Lx : Str → List Kt → Prop where
 | nil : Lx [] []
 | blk {c : UInt8} {s : Str} {k : List Kt} (h : blkB c = true) (l : Lx s k) : Lx (c :: s) k
 | tok {x : Kt} {s : Str} {k : List Kt} (h : Tok x s) (l : Lx s k) : Lx (x.2 ++ s) (x :: k)
theorem Lx.toks {s : Str} {k : List Kt} (h : Lx s k) : ∀ (f o : Nat),(skipS false s).length < f → (tokF f o (skipS false s)).map kt = k := by
 induction h with
 | nil => intro f o _;rw [skipS_nil,tokF_nil];rfl
 | blk h _ ih => intro f o hf;rw [skipS_blk h] at hf ⊢;exact ih f o hf
 | @tok x s k h _ ih =>
  intro f o hf
  rw [h.skip] at hf ⊢
  match f,hf with
  | f + 1,hf =>
   have hne : x.2 ++ s ≠ [] := by intro e;exact h.ne (List.append_eq_nil_iff.1 e).1
   rw [tokF_step hne,h.read]
   simp only [List.take_left,List.drop_left,List.map_cons]
   have hl := skipS_len false s
   have h1 : 1 ≤ x.2.length := List.length_pos_iff.2 h.ne
   rw [ih f _ (by rw [List.length_append] at hf;omega)]
   rfl
theorem Lx.lex {s : Str} {k : List Kt} (h : Lx s k) : (lexR s).map kt = k := by
 unfold lexR
 have := skipS_len false s
 exact h.toks _ _ (by omega)
def sepB (r : Str) : Prop := ∀ c,r.head? = some c → insB c = false ∧ c ≠ 46 ∧ c ≠ 61 ∧ c ≠ 62 ∧ c ≠ 47
def hdB (r : Str) : Prop := ∀ c,r.head? = some c → c ≠ 46 ∧ c ≠ 61 ∧ c ≠ 62 ∧ c ≠ 47
theorem sepB.hd {r : Str} (h : sepB r) : hdB r := fun c e => (h c e).2
theorem sepB_cons {c : UInt8} {r : Str} (h : insB c = false ∧ c ≠ 46 ∧ c ≠ 61 ∧ c ≠ 62 ∧ c ≠ 47) : sepB (c :: r) := fun d e => by cases e;exact h
theorem hdB_cons {c : UInt8} {r : Str} (h : c ≠ 46 ∧ c ≠ 61 ∧ c ≠ 62 ∧ c ≠ 47) : hdB (c :: r) := fun d e => by cases e;exact h
theorem pre_app {q : UInt8 → Bool} : ∀ {w r : Str},w.all q = true → (∀ c,r.head? = some c → q c = false) → pre q (w ++ r) = w.length
 | [],[],_,_ => rfl
 | [],c :: r,_,h => by unfold pre;rw [List.nil_append,List.takeWhile_cons,h c rfl];rfl
 | a :: w,r,hw,h => by
  rw [List.all_cons,Bool.and_eq_true] at hw
  have := pre_app hw.2 h
  unfold pre at this ⊢
  rw [List.cons_append,List.takeWhile_cons,hw.1]
  simp [this]
theorem pre_all {q : UInt8 → Bool} : ∀ {w : Str},pre q w = w.length → w.all q = true
 | [],_ => rfl
 | a :: w,h => by
  unfold pre at h
  rw [List.takeWhile_cons] at h
  cases ha : q a with
  | false => rw [ha] at h;simp at h
  | true =>
   rw [ha] at h
   have := pre_all (q := q) (w := w) (by unfold pre;simpa using h)
   rw [List.all_cons,ha,this];rfl
theorem byte_key {Q : UInt8 → Prop} (h : ∀ i ∈ List.range 256,Q (UInt8.ofNat i)) (c : UInt8) : Q c := by
 have := h c.toNat (List.mem_range.2 c.toNat_lt)
 rwa [UInt8.ofNat_toNat] at this
theorem let_blk (c : UInt8) (h : letB c = true) : blkB c = false ∧ c ≠ 47 ∧ c ≠ 46 ∧ c ≠ 61 ∧ c ≠ 62 ∧ insB c = true ∧ digB c = false := by
 revert h
 exact byte_key (Q := fun c => letB c = true → blkB c = false ∧ c ≠ 47 ∧ c ≠ 46 ∧ c ≠ 61 ∧ c ≠ 62 ∧ insB c = true ∧ digB c = false) (by decide +kernel) c
theorem dig_blk (c : UInt8) (h : digB c = true) : blkB c = false ∧ c ≠ 47 ∧ c ≠ 46 ∧ c ≠ 61 ∧ c ≠ 62 ∧ letB c = false := by
 revert h
 exact byte_key (Q := fun c => digB c = true → blkB c = false ∧ c ≠ 47 ∧ c ≠ 46 ∧ c ≠ 61 ∧ c ≠ 62 ∧ letB c = false) (by decide +kernel) c
theorem ins_dig (c : UInt8) (h : insB c = false) : digB c = false := by
 revert h
 exact byte_key (Q := fun c => insB c = false → digB c = false) (by decide +kernel) c
theorem tok_word {k : UInt8} {w r : Str} (h0 : w ≠ []) (hl : letB (w.headD 0) = true) (hw : w.all insB = true) (hk : (if words.contains w then (2 : UInt8) else if w.length ≤ 12 then 1 else 5) = k) (h5 : k ≠ 5) (hr : sepB r) : Tok (k,w) r := by
 match w,h0 with
 | c :: t,h0 =>
  have hlb := let_blk c hl
  have hp : pre insB ((c :: t) ++ r) = (c :: t).length := pre_app hw fun d hd => (hr d hd).1
  refine ⟨h0,?_,?_⟩
  ·show readK ((c :: t) ++ r) = (k,(c :: t).length)
   unfold readK
   simp only
   rw [show ((c :: t) ++ r).headD 0 = c from rfl,show letB c = true from hl,if_pos rfl,hp,List.take_left]
   split at hk
   ·rename_i e;rw [if_pos e,← hk]
   ·rename_i e
    rw [if_neg e]
    split at hk
    ·rename_i e2;rw [if_pos e2,← hk]
    ·exact absurd hk.symm h5
  ·exact skipS_stop hlb.1 (fun e => hlb.2.1 e.1)
theorem kw_facts : ∀ w ∈ words,w ≠ [] ∧ letB (w.headD 0) = true ∧ w.all insB = true := by decide +kernel
theorem tok_kw {w r : Str} (hw : w ∈ words) (hr : sepB r) : Tok (2,w) r := by
 obtain ⟨h1,h2,h3⟩ := kw_facts w hw
 exact tok_word h1 h2 h3 (by rw [if_pos (List.contains_iff_mem.2 hw)]) (by decide) hr
theorem nameB_facts {w : Str} (h : nameB w = true) : w ≠ [] ∧ letB (w.headD 0) = true ∧ w.all insB = true ∧ words.contains w = false ∧ w.length ≤ 12 := by
 have hlen := name_len h
 simp only [nameB,Bool.and_eq_true,decide_eq_true_eq,beq_iff_eq] at h
 obtain ⟨⟨h0,h1⟩,h2⟩ := h
 match w,h0 with
 | c :: t,h0 =>
  have hl := readK_one h1
  have h3 : words.contains ((c :: t).take (pre insB (c :: t))) = false ∧ pre insB (c :: t) = (c :: t).length := by
   unfold readK at h1 h2
   simp only [List.headD_cons,hl,if_true] at h1 h2
   split at h1
   ·simp at h1
   ·rename_i e
    rw [if_neg e] at h2
    split at h1
    ·rename_i e2
     rw [if_pos e2] at h2
     exact ⟨by simpa using e,h2⟩
    ·simp at h1
  obtain ⟨h4,h5⟩ := h3
  rw [h5,List.take_length] at h4
  exact ⟨h0,hl,pre_all h5,h4,hlen⟩
theorem tok_name {w r : Str} (hw : nameB w = true) (hr : sepB r) : Tok (1,w) r := by
 obtain ⟨h1,h2,h3,h4,h5⟩ := nameB_facts hw
 exact tok_word h1 h2 h3 (by rw [h4,if_neg (by decide),if_pos h5]) (by decide) hr
theorem name_hd {w r : Str} (hw : nameB w = true) : hdB (w ++ r) := by
 obtain ⟨h1,h2,_⟩ := nameB_facts hw
 match w,h1 with
 | c :: t,_ => have := let_blk c h2;exact hdB_cons ⟨this.2.2.1,this.2.2.2.1,this.2.2.2.2.1,this.2.1⟩
theorem kw_hd {w r : Str} (hw : w ∈ words) : hdB (w ++ r) := by
 obtain ⟨h1,h2,_⟩ := kw_facts w hw
 match w,h1 with
 | c :: t,_ => have := let_blk c h2;exact hdB_cons ⟨this.2.2.1,this.2.2.2.1,this.2.2.2.2.1,this.2.1⟩
theorem digits_hd : ∀ (u : Nat),∃ c t,Lib.decDigits u = c :: t ∧ (t = [] ∨ c ≠ 48) ∧ (u ≠ 0 → c ≠ 48) := by
 intro u
 induction u using Nat.strongRecOn with
 | _ u ih =>
  by_cases h : u < 10
  ·rw [Lib.decDigits_one h]
   refine ⟨_,[],rfl,.inl rfl,fun hu e => ?_⟩
   have := congrArg UInt8.toNat e
   rw [Plain.digit_nat u h] at this
   have h48 : (48 : UInt8).toNat = 48 := rfl
   omega
  ·rw [Plain.digits_more u h]
   obtain ⟨c,t,e,_,h2⟩ := ih (u / 10) (by omega)
   rw [e]
   exact ⟨c,_,rfl,.inr (h2 (by omega)),fun _ => h2 (by omega)⟩
theorem tok_num {u : Nat} {r : Str} (hr : sepB r) : Tok (3,Lib.decDigits u) r := by
 obtain ⟨c,t,e,h2,_⟩ := digits_hd u
 have hall : (Lib.decDigits u).all digB = true := List.all_eq_true.2 fun d hd => by
  have := Plain.digits_are u d hd
  simp only [digB,Bool.and_eq_true,decide_eq_true_eq];exact this
 have hp : pre digB (Lib.decDigits u ++ r) = (Lib.decDigits u).length := pre_app hall fun d hd => ins_dig d (hr d hd).1
 rw [e] at hall hp ⊢
 rw [List.all_cons,Bool.and_eq_true] at hall
 have hb := dig_blk c hall.1
 refine ⟨by simp,?_,skipS_stop hb.1 (fun e => hb.2.1 e.1)⟩
 show readK ((c :: t) ++ r) = (3,(c :: t).length)
 unfold readK
 simp only
 rw [show ((c :: t) ++ r).headD 0 = c from rfl,hb.2.2.2.2.2,if_neg (by decide),hall.1,if_pos rfl,hp]
 refine if_pos ?_
 rcases h2 with rfl | h2
 ·exact .inl Z
 ·exact .inr h2
theorem num_hd {u : Nat} {r : Str} : hdB (Lib.decDigits u ++ r) := by
 obtain ⟨c,t,e,_⟩ := digits_hd u
 have := Plain.digits_are u c (by rw [e];simp)
 have hd : digB c = true := by simp only [digB,Bool.and_eq_true,decide_eq_true_eq];exact this
 have hb := dig_blk c hd
 rw [e]
 exact hdB_cons ⟨hb.2.2.1,hb.2.2.2.1,hb.2.2.2.2.1,hb.2.1⟩
def sym1 : Str := [123,125,40,41,91,93,44,59,58,46,61,60,62,43,45,42,47,37]
theorem tok_sym {c : UInt8} {r : Str} (hc : c ∈ sym1) (hr : hdB r) : Tok (4,[c]) r := by
 have hx : ∀ d,r.head? = some d → d ≠ 46 ∧ d ≠ 61 ∧ d ≠ 62 ∧ d ≠ 47 := hr
 refine ⟨by simp,?_,?_⟩
 ·show readK (c :: r) = (4,1)
  have hl : letB c = false ∧ digB c = false := by revert c;decide
  have hf : symbols.find? (fun x => x.isPrefixOf (c :: r)) = some [c] := by
   cases r with
   | nil => revert c;decide
   | cons d t =>
    obtain ⟨e1,e2,e3,e4⟩ := hx d rfl
    have b1 : ((46 : UInt8) == d) = false := beq_false_of_ne (Ne.symm e1)
    have b2 : ((61 : UInt8) == d) = false := beq_false_of_ne (Ne.symm e2)
    have b3 : ((62 : UInt8) == d) = false := beq_false_of_ne (Ne.symm e3)
    simp only [sym1,List.mem_cons,List.not_mem_nil,or_false] at hc
    rcases hc with rfl | rfl | rfl | rfl | rfl | rfl | rfl | rfl | rfl | rfl | rfl | rfl | rfl | rfl | rfl | rfl | rfl | rfl <;>
     simp [symbols,List.find?,List.isPrefixOf,b1,b2,b3]
  unfold readK
  simp only [List.headD_cons,hl.1,hl.2,hf,Bool.false_eq_true,if_false,List.length_singleton]
 ·refine skipS_stop (by revert c;decide) ?_
  rintro ⟨_,h⟩
  exact (hx 47 h).2.2.2 rfl
def sym2 : List Str := [[61,61],[33,61],[60,61],[62,61],[45,62]]
theorem tok_two {w : Str} {r : Str} (hw : w ∈ sym2) : Tok (4,w) r := by
 simp only [sym2,List.mem_cons,List.not_mem_nil,or_false] at hw
 rcases hw with rfl | rfl | rfl | rfl | rfl <;> refine ⟨by simp,?_,?_⟩ <;> simp [readK,letB,digB,symbols,List.find?,List.isPrefixOf,skipS,blkB]
theorem sp_sep {r : Str} : sepB (32 :: r) := sepB_cons (by decide)
theorem cl_sep {r : Str} : sepB (41 :: r) := sepB_cons (by decide)
theorem br_sep {r : Str} : sepB (91 :: r) := sepB_cons (by decide)
theorem bk_sep {r : Str} : sepB (93 :: r) := sepB_cons (by decide)
theorem Lx.sp {r : Str} {k : List Kt} (h : Lx r k) : Lx (32 :: r) k := .blk (by decide) h
theorem Lx.sy {c : UInt8} {r : Str} {k : List Kt} (hc : c ∈ sym1) (hr : hdB r) (h : Lx r k) : Lx (c :: r) ((4,[c]) :: k) := .tok (x := (4,[c])) (tok_sym hc hr) h
theorem Lx.kw {w r : Str} {k : List Kt} (hw : w ∈ words) (hr : sepB r) (h : Lx r k) : Lx (w ++ r) ((2,w) :: k) := .tok (x := (2,w)) (tok_kw hw hr) h
theorem Lx.nm {w r : Str} {k : List Kt} (hw : nameB w = true) (hr : sepB r) (h : Lx r k) : Lx (w ++ r) ((1,w) :: k) := .tok (x := (1,w)) (tok_name hw hr) h
theorem Lx.nu {u : Nat} {r : Str} {k : List Kt} (hr : sepB r) (h : Lx r k) : Lx (Lib.decDigits u ++ r) ((3,Lib.decDigits u) :: k) := .tok (x := (3,Lib.decDigits u)) (tok_num hr) h
def LxE (e : Ex) : Prop := ∀ r ks,sepB r → Lx r ks → Lx (e.text ++ r) (ktE e ++ ks) ∧ hdB (e.text ++ r)
theorem LxE.opnd {e : Ex} (h : LxE e) (n : Nat) {r : Str} {ks : List Kt} (hr : sepB r) (hk : Lx r ks) : Lx (opT n (e.lv,e.text) ++ r) (parK n e.lv (ktE e) ++ ks) ∧ hdB (opT n (e.lv,e.text) ++ r) := by
 unfold opT parK
 simp only
 split
 ·simp only [List.cons_append,List.nil_append,List.append_assoc]
  obtain ⟨h1,h2⟩ := h (41 :: r) ((4,[41]) :: ks) cl_sep (.sy (by decide) hr.hd hk)
  exact ⟨.sy (by decide) h2 h1,hdB_cons (by decide)⟩
 ·exact h r ks hr hk
theorem bin_tx : ∀ op ∈ ([11,12,13,14,15,16,17,18,19,20,21,22,23] : List UInt8),(shapeOf op).tx = 32 :: ((symK op).2 ++ [32]) ∧ (((symK op).1 = 2 ∧ (symK op).2 ∈ words) ∨ ((symK op).1 = 4 ∧ ((symK op).2 ∈ sym2 ∨ ∃ c ∈ sym1,(symK op).2 = [c]))) := by decide +kernel
theorem Lx.bin {op : UInt8} (h : op ∈ ([11,12,13,14,15,16,17,18,19,20,21,22,23] : List UInt8)) {r : Str} {k : List Kt} (hk : Lx r k) : Lx ((shapeOf op).tx ++ r) (symK op :: k) := by
 obtain ⟨h1,h2⟩ := bin_tx op h
 rw [h1]
 simp only [List.cons_append,List.append_assoc,List.nil_append]
 refine .sp ?_
 have hs := hk.sp
 refine .tok (x := symK op) ?_ hs
 generalize symK op = x at h2
 obtain ⟨k,w⟩ := x
 rcases h2 with ⟨e,hw⟩ | ⟨e,hw | ⟨c,hc,hw⟩⟩
 ·obtain rfl : k = 2 := e
  exact tok_kw hw sp_sep
 ·obtain rfl : k = 4 := e
  exact tok_two hw
 ·obtain rfl : k = 4 := e
  obtain rfl : w = [c] := hw
  exact tok_sym hc sp_sep.hd
theorem lx_all (e : Ex) : Ex.all frmE e = true → Ex.all namE e = true → LxE e := by
 induction e using Ex.ind with
 | _ op nm n args ih =>
  intro h hq
  rw [all_mk,Bool.and_eq_true] at h hq
  obtain ⟨hf,hr⟩ := h
  obtain ⟨hg,hq⟩ := hq
  have ha : ∀ a ∈ args,LxE a := fun a m => ih a m (alls_mem m hr) (alls_mem m hq)
  simp only [frmE,Bool.and_eq_true,Bool.or_eq_true,decide_eq_true_eq] at hf
  simp only [namE,Bool.or_eq_true,Bool.not_eq_true'] at hg
  obtain ⟨⟨⟨hop,hl⟩,hnm⟩,hn⟩ := hf
  have hm := ok_cases hop
  intro r ks hs hk
  by_cases h1 : op = 1
  ·subst h1
   rw [if_pos rfl,decide_eq_true_eq] at hn
   have e1 : Ex.text (.mk 1 nm n args) = Lib.decDigits n.toInt.toNat := by
    rw [Ex.text,txt,if_pos rfl,Lib.itoa,if_neg (by omega)]
   have e2 : ktE (.mk 1 nm n args) = [(3,Lib.decDigits n.toInt.toNat)] := by
    rw [ktE,ktx,if_pos rfl,Lib.itoa,if_neg (by omega)]
   rw [e1,e2]
   exact ⟨.nu hs hk,num_hd⟩
  rw [if_neg h1,decide_eq_true_eq] at hn
  obtain rfl := i64_zero hn
  by_cases hb : op ∈ ([11,12,13,14,15,16,17,18,19,20,21,22,23] : List UInt8)
  ·obtain ⟨b1,_,_,_,_,_,_,g1,g2,g3,g4,g5,g6,g7⟩ := bin_facts op hb
   obtain ⟨a,b,rfl⟩ := args2 (l := args) (by omega)
   have e1 : Ex.text (.mk op nm 0 [a,b]) = opT (lftT (shapeOf op).lv) (a.lv,a.text) ++ (shapeOf op).tx ++ opT ((shapeOf op).lv + 1) (b.lv,b.text) := by
    rw [Ex.text,txt,if_neg g1,if_neg (by simp [g2,g3]),if_neg (by simp [g4,g5]),if_neg (by simp [g6,g7]),if_neg (by omega)]
    rfl
   rw [e1,ktE_bin hb]
   simp only [List.append_assoc,List.cons_append]
   obtain ⟨k1,_⟩ := (ha b (by simp)).opnd ((shapeOf op).lv + 1) hs hk
   have k2 := Lx.bin hb k1
   refine (ha a (by simp)).opnd (lftT (shapeOf op).lv) ?_ k2
   rw [(bin_tx op hb).1]
   exact sp_sep
  have hs9 : op = 2 ∨ op = 3 ∨ op = 4 ∨ op = 5 ∨ op = 6 ∨ op = 7 ∨ op = 8 ∨ op = 9 ∨ op = 10 := ((ok_split hop).resolve_left h1).resolve_left hb
  have key : ∀ a,LxE a → Lx (91 :: (a.text ++ 93 :: r)) ((4,[91]) :: (ktE a ++ (4,[93]) :: ks)) := by
   intro a hA
   obtain ⟨k1,k2⟩ := hA (93 :: r) ((4,[93]) :: ks) bk_sep (.sy (by decide) hs.hd hk)
   exact .sy (by decide) k2 k1
  have hn5 : (shapeOf op).nm = true → nameB nm = true := fun e => hg.resolve_left (by rw [e];decide)
  rcases hs9 with rfl | rfl | rfl | rfl | rfl | rfl | rfl | rfl | rfl
  ·exact ⟨Lx.kw (w := [116,114,117,101]) (by decide) hs hk,kw_hd (w := [116,114,117,101]) (by decide)⟩
  ·exact ⟨Lx.kw (w := [102,97,108,115,101]) (by decide) hs hk,kw_hd (w := [102,97,108,115,101]) (by decide)⟩
  ·exact ⟨Lx.kw (w := [110,111,119]) (by decide) hs hk,kw_hd (w := [110,111,119]) (by decide)⟩
  ·exact ⟨Lx.nm (hn5 rfl) hs hk,name_hd (hn5 rfl)⟩
  ·obtain ⟨a,rfl⟩ := args1 hl
   have e1 : Ex.text (.mk 6 nm 0 [a]) ++ r = nm ++ 91 :: (a.text ++ 93 :: r) := by rw [text_mk];simp [txt,shapeOf,okOp,shapes]
   have e2 : ktE (.mk 6 nm 0 [a]) ++ ks = (1,nm) :: (4,[91]) :: (ktE a ++ (4,[93]) :: ks) := by
    rw [show ktE (.mk 6 nm 0 [a]) = (1,nm) :: (4,[91]) :: (ktE a ++ [(4,[93])]) from rfl];simp
   rw [e1,e2]
   exact ⟨.nm (hn5 rfl) br_sep (key a (ha a (by simp))),name_hd (hn5 rfl)⟩
  ·obtain ⟨a,rfl⟩ := args1 hl
   have e1 : Ex.text (.mk 7 nm 0 [a]) ++ r = [104,97,115] ++ 32 :: (nm ++ 91 :: (a.text ++ 93 :: r)) := by rw [text_mk];simp [txt,shapeOf,okOp,shapes]
   have e2 : ktE (.mk 7 nm 0 [a]) ++ ks = (2,[104,97,115]) :: (1,nm) :: (4,[91]) :: (ktE a ++ (4,[93]) :: ks) := by
    rw [show ktE (.mk 7 nm 0 [a]) = (2,[104,97,115]) :: (1,nm) :: (4,[91]) :: (ktE a ++ [(4,[93])]) from rfl];simp
   rw [e1,e2]
   exact ⟨.kw (by decide) sp_sep (.sp (.nm (hn5 rfl) br_sep (key a (ha a (by simp))))),kw_hd (by decide)⟩
  ·obtain rfl := args0 hl
   have e1 : Ex.text (.mk 8 nm 0 []) ++ r = [115,105,122,101] ++ 32 :: (nm ++ r) := by rw [text_mk];simp [txt,shapeOf,okOp,shapes]
   rw [e1]
   exact ⟨.kw (by decide) sp_sep (.sp (.nm (hn5 rfl) hs hk)),kw_hd (by decide)⟩
  ·obtain ⟨a,rfl⟩ := args1 hl
   obtain ⟨k1,k2⟩ := (ha a (by simp)).opnd 6 hs hk
   have e1 : Ex.text (.mk 9 nm 0 [a]) ++ r = 45 :: (opT 6 (a.lv,a.text) ++ r) := by rw [text_mk];rfl
   rw [e1]
   exact ⟨.sy (by decide) k2 k1,hdB_cons (by decide)⟩
  ·obtain ⟨a,rfl⟩ := args1 hl
   obtain ⟨k1,k2⟩ := (ha a (by simp)).opnd 6 hs hk
   have e1 : Ex.text (.mk 10 nm 0 [a]) ++ r = [110,111,116] ++ 32 :: (opT 6 (a.lv,a.text) ++ r) := by rw [text_mk];rfl
   rw [e1]
   exact ⟨.kw (by decide) sp_sep (.sp k1),kw_hd (by decide)⟩
theorem Lx.nl {r : Str} {k : List Kt} (h : Lx r k) : Lx (10 :: r) k := .blk (by decide) h
theorem Lx.spT {r : Str} {k : List Kt} : ∀ (n : Nat),Lx r k → Lx (spT n ++ r) k
 | 0,h => h
 | n + 1,h => by
  rw [Go.Proofs.YtmbiojpcidccjaaGreatDoor.spT,List.append_assoc]
  exact Lx.spT n (.sp (.sp h))
theorem Lx.line {n : Nat} {parts : List Str} {r : Str} {k : List Kt} (h : Lx (parts.flatten ++ 10 :: r) k) : Lx (lineT n parts ++ r) k := by
 unfold lineT
 rw [List.append_assoc,List.append_assoc]
 exact .spT n h
theorem Lx.to {r : Str} {k : List Kt} (h : Lx r k) : Lx (45 :: 62 :: r) ((4,[45,62]) :: k) := .tok (x := (4,[45,62])) (tok_two (by decide)) h
theorem tok_name2 {w r : Str} (hw : nameB w = true) (hr : ∀ d,r.head? = some d → insB d = false) : Tok (1,w) r := by
 obtain ⟨h1,h2,h3,h4,h5⟩ := nameB_facts hw
 match w,h1 with
 | c :: t,h1 =>
  have hlb := let_blk c h2
  have hp : pre insB ((c :: t) ++ r) = (c :: t).length := pre_app h3 hr
  refine ⟨h1,?_,skipS_stop hlb.1 (fun e => hlb.2.1 e.1)⟩
  show readK ((c :: t) ++ r) = (1,(c :: t).length)
  unfold readK
  simp only
  rw [show ((c :: t) ++ r).headD 0 = c from rfl,show letB c = true from h2,if_pos rfl,hp,List.take_left,h4,if_neg (by decide),if_pos h5]
theorem Lx.nm2 {w r : Str} {k : List Kt} (hw : nameB w = true) (hr : ∀ d,r.head? = some d → insB d = false) (h : Lx r k) : Lx (w ++ r) ((1,w) :: k) := .tok (x := (1,w)) (tok_name2 hw hr) h
def LxI (t : Str) (k : List Kt) : Prop := ∀ r ks,sepB r → Lx r ks → Lx (t ++ r) (k ++ ks) ∧ hdB (t ++ r)
theorem LxI.one {t r : Str} {k ks : List Kt} (h : LxI t k) (hr : sepB r) (l : Lx r ks) : Lx (t ++ r) (k ++ ks) := (h r ks hr l).1
theorem LxI.nm {w : Str} (h : nameB w = true) : LxI w [(1,w)] := fun r ks hr l => ⟨.nm h hr l,name_hd h⟩
theorem LxI.ex {e : Ex} (h : Ex.all frmE e = true) (hq : Ex.all namE e = true) : LxI e.text (ktE e) := lx_all e h hq
theorem lx_tail {α : Type} {tx : α → Str} {g : α → List Kt} : ∀ (l : List α) (r : Str) (ks : List Kt),(∀ a ∈ l,LxI (tx a) (g a)) → sepB r → Lx r ks → Lx (Lib.joinTail [44,32] (l.map tx) ++ r) (comK (l.map g) ++ ks) ∧ sepB (Lib.joinTail [44,32] (l.map tx) ++ r)
 | [],r,ks,_,hr,h => ⟨h,hr⟩
 | a :: l,r,ks,hl,hr,h => by
  obtain ⟨h1,h2⟩ := lx_tail l r ks (fun b hb => hl b (List.mem_cons_of_mem _ hb)) hr h
  have h3 := hl a (List.mem_cons_self ..) _ _ h2 h1
  unfold Lib.joinTail comK at *
  simp only [List.map_cons,List.flatten_cons,List.cons_append,List.append_assoc,List.nil_append]
  exact ⟨.sy (by decide) (hdB_cons (by decide)) (.sp h3.1),sepB_cons (by decide)⟩
theorem lx_list {α : Type} {tx : α → Str} {g : α → List Kt} {l : List α} (hl : ∀ a ∈ l,LxI (tx a) (g a)) {r : Str} {ks : List Kt} (hr : hdB r) (h : Lx r ks) : Lx (40 :: (joinT (l.map tx) ++ 41 :: r)) (lstK (l.map g) ++ ks) := by
 have h0 : Lx (41 :: r) ((4,[41]) :: ks) := .sy (by decide) hr h
 unfold lstK joinT
 cases l with
 | nil => exact .sy (by decide) (hdB_cons (by decide)) h0
 | cons a l =>
  simp only [List.map_cons,Lib.join_cons,sepK,List.cons_append,List.append_assoc,List.nil_append]
  obtain ⟨h1,h2⟩ := lx_tail l (41 :: r) _ (fun b hb => hl b (List.mem_cons_of_mem _ hb)) cl_sep h0
  obtain ⟨h3,h4⟩ := hl a (List.mem_cons_self ..) _ _ h2 h1
  exact .sy (by decide) h4 h3
def LxS (s : Sm) : Prop := ∀ n r ks,Lx r ks → Lx (Sm.text n s ++ r) (ktS s ++ ks)
def LxB (l : List Sm) : Prop := ∀ n r ks,Lx r ks → Lx (Sm.texts n l ++ r) (ktSs l ++ ks)
theorem LxB.of : ∀ {l : List Sm},(∀ s ∈ l,LxS s) → LxB l
 | [],_ => fun n r ks h => by rw [Sm.texts,ktSs];exact h
 | s :: l,hs => fun n r ks h => by
  rw [Sm.texts,ktSs,List.append_assoc,List.append_assoc]
  exact hs s (List.mem_cons_self ..) n _ _ (LxB.of (fun a ha => hs a (List.mem_cons_of_mem _ ha)) n r ks h)
theorem lx_kw {w r : Str} {k : List Kt} (hw : w ∈ words) (h : Lx r k) : Lx (w ++ 32 :: r) ((2,w) :: k) := .kw hw sp_sep (.sp h)
theorem lx_end {n : Nat} {r : Str} {ks : List Kt} (h : Lx r ks) : Lx (lineT n [[125]] ++ r) ((4,[125]) :: ks) := .line (.sy (by decide) (hdB_cons (by decide)) (.nl h))
theorem lx_oth {el : List Sm} (hb : LxB el) {n : Nat} {first : Str} {k : List Kt} (hf : LxI first k) {r : Str} {ks : List Kt} (h : Lx r ks) :
 Lx (diskT n first (decide (el.length = 0)) (Sm.texts (n + 1) el) ++ r) (k ++ ((if decide (el.length = 0) = true then [(4,[59])] else (2,[101,108,115,101]) :: (4,[123]) :: (ktSs el ++ [(4,[125])])) ++ ks)) := by
 unfold diskT
 split
 ·refine .line ?_
  simp only [List.flatten_cons,List.flatten_nil,List.append_nil,List.append_assoc,List.cons_append,List.nil_append]
  exact hf.one (sepB_cons (by decide)) (.sy (by decide) (hdB_cons (by decide)) (.nl h))
 ·simp only [List.append_assoc]
  refine .line ?_
  simp only [List.flatten_cons,List.flatten_nil,List.append_nil,List.append_assoc,List.cons_append,List.nil_append]
  exact hf.one sp_sep (.sp (lx_kw (w := [101,108,115,101]) (by decide) (.sy (by decide) (hdB_cons (by decide)) (.nl (hb _ _ _ (lx_end h))))))
theorem LxI.app {t t2 : Str} {k k2 : List Kt} (h : LxI t k) (h2 : ∀ r ks,sepB r → Lx r ks → Lx (t2 ++ r) (k2 ++ ks) ∧ sepB (t2 ++ r)) : LxI (t ++ t2) (k ++ k2) := fun r ks hr l => by
 rw [List.append_assoc,List.append_assoc]
 obtain ⟨h3,h4⟩ := h2 r ks hr l
 exact h _ _ h4 h3
theorem LxI.kw {w : Str} (hw : w ∈ words) {t : Str} {k : List Kt} (h : LxI t k) : LxI (w ++ 32 :: t) ((2,w) :: k) := fun r ks hr l => by
 rw [List.append_assoc]
 exact ⟨lx_kw hw (h r ks hr l).1,kw_hd hw⟩
theorem LxI.eq {t t2 : Str} {k k2 : List Kt} (h : LxI t k) (h2 : LxI t2 k2) : LxI (t ++ ([32,32,61,32].drop 1 ++ t2)) (k ++ (4,[61]) :: k2) := h.app fun r ks hr l =>
 ⟨.sp (.sy (by decide) (hdB_cons (by decide)) (.sp (h2.one hr l))),sp_sep⟩
theorem lxS_of {s : Sm} (h : FmS s) (hn : namS s = true) (hb : ∀ nm hd kd ex th el,s = .mk kd nm hd ex th el → LxB th ∧ LxB el) : LxS s := by
 intro n r ks hk
 cases h with
 | @k1 nm a ha =>
  simp only [namS,Bool.and_eq_true] at hn
  have h1 : nameB nm = true := by simpa [formOf,okKd,forms] using hn.1.1
  have h2 := LxI.ex ha (alls_mem (List.mem_cons_self ..) hn.2)
  refine .line ?_
  rw [ktS_mk]
  simp [stK]
  exact .nm h1 sp_sep<|.sp<|.sy (by decide) (hdB_cons (by decide))<|.sp<|h2.one (sepB_cons (by decide))<|.sy (by decide) (hdB_cons (by decide)) (.nl hk)
 | @k2 nm a b ha hb2 =>
  simp only [namS,Bool.and_eq_true] at hn
  have h1 : nameB nm = true := by simpa [formOf,okKd,forms] using hn.1.1
  have h2 := LxI.ex ha (alls_mem (by simp) hn.2)
  have h3 := LxI.ex hb2 (alls_mem (by simp) hn.2)
  refine .line ?_
  rw [ktS_mk]
  simp [stK]
  have h4 := h3.one (sepB_cons (by decide))<|Lx.sy (c := 59) (by decide) (hdB_cons (by decide)) (.nl hk)
  obtain ⟨h5,h6⟩ := h2 _ _ bk_sep<|Lx.sy (c := 93) (by decide) (hdB_cons (by decide))<|.sp<|.sy (c := 61) (by decide) (hdB_cons (by decide))<|.sp h4
  exact .nm h1 br_sep<|.sy (by decide) h6 h5
 | @k3 nm a ha =>
  simp only [namS,Bool.and_eq_true] at hn
  have h1 : nameB nm = true := by simpa [formOf,okKd,forms] using hn.1.1
  have h2 := LxI.ex ha (alls_mem (by simp) hn.2)
  refine .line ?_
  rw [ktS_mk]
  simp [stK]
  obtain ⟨h5,h6⟩ := h2 _ _ bk_sep<|Lx.sy (c := 93) (by decide) (hdB_cons (by decide))<|.sy (c := 59) (by decide) (hdB_cons (by decide)) (.nl hk)
  exact lx_kw (w := [100,101,108,101,116,101]) (by decide)<|.nm h1 br_sep<|.sy (by decide) h6 h5
 | @k4 a th el ha =>
  obtain ⟨b1,b2⟩ := hb _ _ _ _ _ _ rfl
  simp only [namS,Bool.and_eq_true] at hn
  have h2 := LxI.ex ha (alls_mem (by simp) hn.2)
  rw [stext_mk,ktS_mk]
  by_cases he : el.length = 0
  ·simp [stT,stK,he]
   refine .line ?_
   simp
   exact lx_kw (w := [105,102]) (by decide)<|h2.one sp_sep<|.sp<|.sy (by decide) (hdB_cons (by decide))<|.nl<|b1 _ _ _<|lx_end hk
  ·have he2 : ¬ el = [] := fun e => he (by rw [e];rfl)
   simp [stT,stK,he2]
   refine .line ?_
   simp
   exact lx_kw (w := [105,102]) (by decide)<|h2.one sp_sep<|.sp<|.sy (by decide) (hdB_cons (by decide))<|.nl<|b1 _ _ _<|.line<|.sy (by decide) (hdB_cons (by decide))<|.sp<|lx_kw (w := [101,108,115,101]) (by decide)<|.sy (by decide) (hdB_cons (by decide))<|.nl<|b2 _ _ _<|lx_end hk
 | @k5 a th ha =>
  obtain ⟨b1,b2⟩ := hb _ _ _ _ _ _ rfl
  simp only [namS,Bool.and_eq_true] at hn
  have h2 := LxI.ex ha (alls_mem (by simp) hn.2)
  rw [stext_mk,ktS_mk]
  simp [stT,stK]
  refine .line ?_
  simp
  exact lx_kw (w := [119,104,105,108,101]) (by decide)<|h2.one sp_sep<|.sp<|.sy (by decide) (hdB_cons (by decide))<|.nl<|b1 _ _ _<|lx_end hk
 | @k6 nm hd l hl =>
  simp only [namS,Bool.and_eq_true] at hn
  have h1 : nameB nm = true := by simpa [formOf,okKd,forms] using hn.1.1
  have h2 : nameB hd = true := by simpa [formOf,okKd,forms] using hn.1.2
  refine .line ?_
  rw [ktS_mk]
  simp [stK]
  exact lx_kw (w := [115,101,110,100]) (by decide)<|.nm2 h1 (fun d e => by cases e;rfl)<|.sy (by decide) (name_hd h2)<|.nm h2 (sepB_cons (by decide))<|lx_list (fun a ha => .ex (hl a ha) (alls_mem ha hn.2)) (hdB_cons (by decide))<|.sy (by decide) (hdB_cons (by decide)) (.nl hk)
 | @k7 hd a l ha hl =>
  simp only [namS,Bool.and_eq_true] at hn
  have h2 : nameB hd = true := by simpa [formOf,okKd,forms] using hn.1.2
  have h3 := LxI.ex ha (alls_mem (by simp) hn.2)
  refine .line ?_
  rw [ktS_mk]
  simp [stK]
  exact lx_kw (w := [97,102,116,101,114]) (by decide)<|h3.one sp_sep<|.sp<|lx_kw (w := [100,111]) (by decide)<|.nm h2 (sepB_cons (by decide))<|lx_list (fun b hb => .ex (hl b hb) (alls_mem (by simp [hb]) hn.2)) (hdB_cons (by decide))<|.sy (by decide) (hdB_cons (by decide)) (.nl hk)
 | @k8 a b el ha hb2 =>
  obtain ⟨_,b2⟩ := hb _ _ _ _ _ _ rfl
  simp only [namS,Bool.and_eq_true] at hn
  have h2 := LxI.ex ha (alls_mem (by simp) hn.2)
  have h3 := LxI.ex hb2 (alls_mem (by simp) hn.2)
  have h4 := lx_oth b2 (n := n) (LxI.kw (w := [115,116,111,114,101]) (by decide) (h2.eq h3)) hk
  rw [stext_mk,ktS_mk]
  simp [stT,stK] at h4 ⊢
  exact h4
 | @k9 nm a el ha =>
  obtain ⟨_,b2⟩ := hb _ _ _ _ _ _ rfl
  simp only [namS,Bool.and_eq_true] at hn
  have h1 : nameB nm = true := by simpa [formOf,okKd,forms] using hn.1.1
  have h2 := LxI.ex ha (alls_mem (by simp) hn.2)
  have h4 := lx_oth b2 (n := n) (LxI.kw (w := [102,101,116,99,104]) (by decide) ((LxI.nm h1).eq h2)) hk
  rw [stext_mk,ktS_mk]
  simp [stT,stK] at h4 ⊢
  exact h4
 | k10 =>
  refine .line ?_
  rw [ktS_mk]
  simp [stK]
  exact .kw (w := [115,116,111,112]) (by decide) (sepB_cons (by decide))<|.sy (by decide) (hdB_cons (by decide)) (.nl hk)
theorem lxS_all (s : Sm) : Sm.all frmS s = true → Sm.all namS s = true → LxS s := by
 induction s using Sm.ind with
 | _ kd nm hd ex th el ih1 ih2 =>
  intro h k
  rw [sall_mk,Bool.and_eq_true,Bool.and_eq_true] at h k
  obtain ⟨⟨h1,h2⟩,h3⟩ := h
  obtain ⟨⟨k1,k2⟩,k3⟩ := k
  refine lxS_of (frmS_form h1) k1 fun nm' hd' kd' ex' th' el' e => ?_
  injection e with _ _ _ _ e1 e2
  subst e1 e2
  exact ⟨.of fun s hs => ih1 s hs (salls_mem hs h2) (salls_mem hs k2),.of fun s hs => ih2 s hs (salls_mem hs h3) (salls_mem hs k3)⟩
theorem LxB.all {l : List Sm} (h : Sm.alls frmS l = true) (k : Sm.alls namS l = true) : LxB l := .of fun s hs => lxS_all s (salls_mem hs h) (salls_mem hs k)
/-! ### Fleets -/
theorem lx_flat {α : Type} {tx : α → Str} {g : α → List Kt} : ∀ (l : List α) (r : Str) (ks : List Kt),(∀ a ∈ l,∀ r ks,Lx r ks → Lx (tx a ++ r) (g a ++ ks)) → Lx r ks → Lx ((l.map tx).flatten ++ r) ((l.map g).flatten ++ ks)
 | [],r,ks,_,h => h
 | a :: l,r,ks,hl,h => by
  simp only [List.map_cons,List.flatten_cons,List.append_assoc]
  exact hl a (List.mem_cons_self ..) _ _ (lx_flat l r ks (fun b hb => hl b (List.mem_cons_of_mem _ hb)) h)
theorem lx_tru {b : Bool} {r : Str} {ks : List Kt} (hr : sepB r) (h : Lx r ks) : Lx (boolT b ++ r) (truK b :: ks) := by
 cases b
 ·exact .kw (w := [102,97,108,115,101]) (by decide) hr h
 ·exact .kw (w := [116,114,117,101]) (by decide) hr h
theorem lx_fg {f : Fg} (h : nameB f.nm = true) {r : Str} {ks : List Kt} (hk : Lx r ks) : Lx (fgT f ++ r) ((2,[102,108,97,103]) :: fgK f ++ ks) := by
 refine .line ?_
 simp [fgK]
 exact lx_kw (w := [102,108,97,103]) (by decide)<|.nm h sp_sep<|.sp<|.sy (by decide) (hdB_cons (by decide))<|.sp<|lx_tru (sepB_cons (by decide))<|.sy (by decide) (hdB_cons (by decide)) (.nl hk)
theorem itoa_nat {n : Int64} (h : 0 ≤ n.toInt) : Lib.itoa n.toInt = Lib.decDigits n.toInt.toNat := by rw [Lib.itoa,if_neg (by omega)]
theorem lx_lk {l : Lk} (h : lkB l = true) (h1 : nameB l.fr = true) (h2 : nameB l.to = true) {r : Str} {ks : List Kt} (hk : Lx r ks) : Lx (lkT l ++ r) ((2,[108,105,110,107]) :: lkK l ++ ks) := by
 simp only [lkB,Bool.and_eq_true,decide_eq_true_eq] at h
 refine .line ?_
 rw [itoa_nat (by omega)]
 simp [lkK]
 exact lx_kw (w := [108,105,110,107]) (by decide)<|.nm h1 sp_sep<|.sp<|.to<|.sp<|.nm h2 sp_sep<|.sp<|lx_kw (w := [108,97,116,101,110,99,121]) (by decide)<|.nu (sepB_cons (by decide))<|.sy (by decide) (hdB_cons (by decide)) (.nl hk)
theorem lx_int {n : Int64} {r : Str} {ks : List Kt} (hr : sepB r) (h : Lx r ks) : Lx (Lib.itoa n.toInt ++ r) (intK n ++ ks) := by
 unfold intK
 split
 ·rename_i hn
  rw [Lib.itoa,if_pos hn,show n.toInt.natAbs = (-n.toInt).toNat by omega]
  exact .sy (by decide) num_hd (.nu hr h)
 ·rw [itoa_nat (by omega)]
  exact .nu hr h
theorem lx_vr {n : Nat} {v : Vr} (h : nameB v.nm = true) (hf : frmV v = true) {r : Str} {ks : List Kt} (hk : Lx r ks) : Lx (vrT n v ++ r) ((2,[118,97,114]) :: vrK v ++ ks) := by
 unfold vrT vrK
 unfold frmV at hf
 split
 ·refine .line ?_
  simp
  exact lx_kw (w := [118,97,114]) (by decide)<|.nm h (sepB_cons (by decide))<|.sy (by decide) (hdB_cons (by decide))<|.sp<|lx_kw (w := [105,110,116]) (by decide)<|.sy (by decide) (hdB_cons (by decide))<|.sp<|lx_int (sepB_cons (by decide))<|.sy (by decide) (hdB_cons (by decide)) (.nl hk)
 rename_i h1
 rw [if_neg h1] at hf
 split
 ·refine .line ?_
  simp
  exact lx_kw (w := [118,97,114]) (by decide)<|.nm h (sepB_cons (by decide))<|.sy (by decide) (hdB_cons (by decide))<|.sp<|lx_kw (w := [98,111,111,108]) (by decide)<|.sy (by decide) (hdB_cons (by decide))<|.sp<|lx_tru (sepB_cons (by decide))<|.sy (by decide) (hdB_cons (by decide)) (.nl hk)
 rename_i h2
 rw [if_neg h2] at hf
 split
 ·refine .line ?_
  simp
  exact lx_kw (w := [118,97,114]) (by decide)<|.nm h (sepB_cons (by decide))<|.sy (by decide) (hdB_cons (by decide))<|.sp<|.kw (w := [116,97,98,108,101]) (by decide) (sepB_cons (by decide))<|.sy (by decide) (hdB_cons (by decide)) (.nl hk)
 ·rename_i h3
  rw [if_neg h3] at hf
  cases hf
theorem lx_hd {n : Nat} {h : Hd} (hn : namH h = true) (hf : frmH h = true) {r : Str} {ks : List Kt} (hk : Lx r ks) : Lx (hdT n h ++ r) ((2,[111,110]) :: hdK h ++ ks) := by
 simp only [namH,Bool.and_eq_true] at hn
 obtain ⟨⟨h1,h2⟩,h3⟩ := hn
 have hb := LxB.all hf h3
 unfold hdT hdK
 simp only [List.append_assoc]
 refine .line ?_
 simp
 refine lx_kw (w := [111,110]) (by decide)<|.nm h1 (sepB_cons (by decide)) ?_
 have h4 := lx_list (tx := fun x => x) (g := fun p => [((1,p) : Kt)]) (l := h.ps) (fun a ha => .nm (List.all_eq_true.1 h2 a ha)) (r := 32 :: 123 :: 10 :: (Sm.texts (n + 1) h.body ++ (lineT n [[125]] ++ r))) (hdB_cons (by decide))<|.sp<|.sy (by decide) (hdB_cons (by decide))<|.nl<|hb _ _ _<|lx_end hk
 simpa using h4
theorem lx_hds {n : Nat} {v : List Hd} (hn : v.all namH = true) (hf : v.all frmH = true) {r : Str} {ks : List Kt} (hk : Lx r ks) : Lx (hdsT n v ++ r) (vsK v ++ ks) :=
 lx_flat v r ks (fun a ha r ks h => lx_hd (List.all_eq_true.1 hn a ha) (List.all_eq_true.1 hf a ha) h) hk
theorem lx_ver {n : Nat} {i : Nat} (w : Str) (hi : Lib.itoa ((i + 1 : Nat) : Int) = w) (hw : w = Lib.decDigits (i + 1)) (h0 : i ≠ 0) {v : List Hd} (hn : v.all namH = true) (hf : v.all frmH = true) {r : Str} {ks : List Kt} (hk : Lx r ks) : Lx (vsT n i v ++ r) (vnK w v ++ ks) := by
 unfold vsT vnK
 rw [if_neg h0,hi]
 simp only [List.append_assoc]
 refine .line ?_
 simp
 have h2 := Lx.nu (u := i + 1) (r := 32 :: 123 :: 10 :: (hdsT (n + 1) v ++ (lineT n [[125]] ++ r))) sp_sep<|.sp<|.sy (by decide) (hdB_cons (by decide))<|.nl<|lx_hds hn hf<|lx_end hk
 rw [← hw] at h2
 exact lx_kw (w := [118,101,114,115,105,111,110]) (by decide) (by simpa using h2)
theorem lx_vers {n : Nat} {l : List (List Hd)} (hn : ∀ v ∈ l,v.all namH = true) (hf : ∀ v ∈ l,v.all frmH = true) (h1 : 1 ≤ l.length) (h3 : l.length ≤ 3) {r : Str} {ks : List Kt} (hk : Lx r ks) : Lx (vssT n 0 l ++ r) (vsK (l.headD []) ++ (vmK l.tail ++ ks)) := by
 have e2 : Lib.itoa ((1 + 1 : Nat) : Int) = [50] := by decide +kernel
 have e3 : Lib.itoa ((2 + 1 : Nat) : Int) = [51] := by decide +kernel
 have d2 : [50] = Lib.decDigits (1 + 1) := by decide +kernel
 have d3 : [51] = Lib.decDigits (2 + 1) := by decide +kernel
 match l,h1,h3 with
 | [v],_,_ =>
  simp only [vssT,List.append_nil,vsT,if_true]
  exact lx_hds (hn v (by simp)) (hf v (by simp)) hk
 | [v,w],_,_ =>
  simp only [vssT,List.append_nil,List.append_assoc]
  rw [vsT,if_pos rfl]
  exact lx_hds (hn v (by simp)) (hf v (by simp)) (lx_ver _ e2 d2 (by decide) (hn w (by simp)) (hf w (by simp)) hk)
 | [v,w,u],_,_ =>
  simp only [vssT,List.append_nil,List.append_assoc]
  rw [vsT,if_pos rfl]
  have := lx_ver (n := n) _ e2 d2 (by decide) (hn w (by simp)) (hf w (by simp)) (lx_ver (n := n) _ e3 d3 (by decide) (hn u (by simp)) (hf u (by simp)) hk)
  refine lx_hds (hn v (by simp)) (hf v (by simp)) ?_
  simpa [vmK] using this
theorem lx_cp {c : Cp} (hn : nameB c.nm = true) (hv : c.vars.all (fun v => nameB v.nm) = true) (hf : c.vars.all frmV = true) (h1 : cpAll namH c = true) (h2 : cpAll frmH c = true) (h3 : 1 ≤ c.vers.length) (h4 : c.vers.length ≤ 3) {r : Str} {ks : List Kt} (hk : Lx r ks) : Lx (cpT c ++ r) ((2,[99,111,109,112,111,110,101,110,116]) :: cpK c ++ ks) := by
 unfold cpT cpK
 simp only [List.append_assoc]
 refine .line ?_
 simp [-List.headD_eq_head?_getD]
 exact lx_kw (w := [99,111,109,112,111,110,101,110,116]) (by decide)<|.nm hn sp_sep<|.sp<|.sy (by decide) (hdB_cons (by decide))<|.nl<|lx_flat c.vars _ _ (fun a ha r ks h => lx_vr (List.all_eq_true.1 hv a ha) (List.all_eq_true.1 hf a ha) h)<|lx_vers (List.all_eq_true.1 h1) (List.all_eq_true.1 h2) h3 h4<|lx_end hk
theorem lx_ft {f : Ft} (h : checkF f = 0) : Lx (ftT f) (ftK f) := by
 unfold checkF at h
 split at h
 ·cases h
 rename_i h1
 split at h
 ·cases h
 rename_i h3
 split at h
 ·cases h
 rename_i h2
 rw [Bool.not_eq_false] at h1 h2 h3
 simp only [smlF,Bool.and_eq_true] at h1
 simp only [frmF,Bool.and_eq_true] at h2
 simp only [namF,Bool.and_eq_true] at h3
 obtain ⟨_,hs,_⟩ := h1
 obtain ⟨⟨hl,hv⟩,hb⟩ := h2
 obtain ⟨⟨⟨⟨n1,n2⟩,n3⟩,n4⟩,n5⟩ := h3
 rw [evH_eq] at hb n5
 unfold ftT ftK
 have key : Lx (lineT 0 [[125]]) [(4,[125])] := by have := lx_end (n := 0) Lx.nil;rwa [List.append_nil] at this
 simp only [List.append_assoc]
 refine .line ?_
 simp
 refine lx_kw (w := [102,108,101,101,116]) (by decide)<|.nm n1 sp_sep<|.sp<|.sy (by decide) (hdB_cons (by decide))<|.nl<|lx_flat f.flags _ _ (fun a ha r ks h => lx_fg (List.all_eq_true.1 n2 a ha) h)<|lx_flat f.links _ _ (fun a ha r ks h => by have := List.all_eq_true.1 n3 a ha;rw [Bool.and_eq_true] at this;exact lx_lk (List.all_eq_true.1 hl a ha) this.1 this.2 h)<|lx_flat f.comps _ _ (fun a ha r ks h => by
  have h3 := List.all_eq_true.1 hs a ha
  simp only [smlC,Bool.and_eq_true,decide_eq_true_eq] at h3
  have h4 := List.all_eq_true.1 n4 a ha
  rw [Bool.and_eq_true] at h4
  exact lx_cp h4.1 h4.2 (List.all_eq_true.1 hv a ha) (List.all_eq_true.1 n5 a ha) (List.all_eq_true.1 hb a ha) h3.1.1.2 h3.1.2 h) key
theorem textF_lex {f : Ft} (h : checkF f = 0) : (lexR (ftT f)).map kt = ftK f := (lx_ft h).lex
theorem ftT_inj {a b : Ft} (ha : checkF a = 0) (hb : checkF b = 0) (h : ftT a = ftT b) : a = b := by
 refine ftK_inj ha hb ?_
 rw [← textF_lex ha,← textF_lex hb,h]
end Go.Proofs.YtmbiojpcidccjaaGreatDoor
namespace Go.Proofs.YtmbiojpcidccjaaGreatDoor
open Go.RowKit Go.Par Go.Sx
def wfE (D : Nat) (e : Ex) : Prop := e.depth ≤ D ∧ Ex.all frmE e = true ∧ Ex.all namE e = true
theorem wfE.mono {D D' : Nat} {e : Ex} (h : wfE D e) (k : D ≤ D') : wfE D' e := ⟨Nat.le_trans h.1 k,h.2⟩
theorem wfE0 {D : Nat} {op : UInt8} {nm : Str} {n : Int64} (h : frmE (.mk op nm n []) = true) (h2 : namE (.mk op nm n []) = true) : wfE (D + 1) (.mk op nm n []) :=
 ⟨by rw [depth_mk];simp [Ex.deeps],by rw [all_mk,h];rfl,by rw [all_mk,h2];rfl⟩
theorem frm_arg (op : UInt8) (nm : Str) (n : Int64) (l m : List Ex) (h : l.length = m.length) : frmE (.mk op nm n l) = frmE (.mk op nm n m) := by simp only [frmE,h]
def e0 : Ex := .mk 4 [] 0 []
theorem wfE1 {D : Nat} {op : UInt8} {nm : Str} {a : Ex} (h : frmE (.mk op nm 0 [e0]) = true) (h2 : namE (.mk op nm 0 []) = true) (ha : wfE D a) : wfE (D + 1) (.mk op nm 0 [a]) := by
 refine ⟨?_,?_,?_⟩
 ·rw [depth_mk];simp only [Ex.deeps];have := ha.1;omega
 ·rw [all_mk,frm_arg op nm 0 [a] [e0] rfl,h];simp [Ex.alls,ha.2.1]
 ·rw [all_mk,show namE (.mk op nm 0 [a]) = namE (.mk op nm 0 []) from rfl,h2];simp [Ex.alls,ha.2.2]
theorem wfE2 {D : Nat} {op : UInt8} {a b : Ex} (h : frmE (.mk op [] 0 [e0,e0]) = true) (h2 : namE (.mk op [] 0 []) = true) (ha : wfE D a) (hb : wfE D b) : wfE (D + 1) (.mk op [] 0 [a,b]) := by
 refine ⟨?_,?_,?_⟩
 ·rw [depth_mk];simp only [Ex.deeps];have := ha.1;have := hb.1;omega
 ·rw [all_mk,frm_arg op [] 0 [a,b] [e0,e0] rfl,h];simp [Ex.alls,ha.2.1,hb.2.1]
 ·rw [all_mk,show namE (.mk op [] 0 [a,b]) = namE (.mk op [] 0 []) from rfl,h2];simp [Ex.alls,ha.2.2,hb.2.2]
theorem nm_ok : ∀ c ∈ ([120,112,102,104] : List UInt8),∀ k ∈ List.range 3,nameB (nmB c k) = true := by decide +kernel
theorem nm_x {k : Nat} (h : k < 3) : nameB (nmB 120 k) = true := nm_ok 120 (by decide) k (List.mem_range.2 h)
theorem nm_p {k : Nat} (h : k < 3) : nameB (nmB 112 k) = true := nm_ok 112 (by decide) k (List.mem_range.2 h)
theorem nm_f {k : Nat} (h : k < 3) : nameB (nmB 102 k) = true := nm_ok 102 (by decide) k (List.mem_range.2 h)
theorem nm_h {k : Nat} (h : k < 3) : nameB (nmB 104 k) = true := nm_ok 104 (by decide) k (List.mem_range.2 h)
theorem nm_abc {k : Nat} (h : k < 3) : nameB [UInt8.ofNat (97 + k)] = true := by
 have : ∀ k ∈ List.range 3,nameB [UInt8.ofNat (97 + k)] = true := by decide +kernel
 exact this k (List.mem_range.2 h)
theorem nm_t0 : nameB [116,48] = true := by decide +kernel
theorem nm_b0 : nameB [98,48] = true := by decide +kernel
structure MkOk (M : Mk) : Prop where
 i0 : 0 < M.ints
 i3 : M.ints ≤ 3
 p2 : M.params ≤ 2
 f2 : M.flags ≤ 2
 a3 : M.ars.length ≤ 3
 a0 : 0 < M.ars.length
 ar2 : ∀ c h,arN M c h ≤ 2
 al : ∀ c,c < M.ars.length → 0 < arL M c ∧ arL M c ≤ 3
 own : M.own < M.ars.length
theorem frm5 (nm : Str) : frmE (.mk 5 nm 0 []) = true := by simp [frmE,okOp,shapeOf,shapes]
theorem nam5 {nm : Str} (h : nameB nm = true) : namE (.mk 5 nm 0 []) = true := by simp [namE,h]
theorem wfV {D : Nat} {nm : Str} (h : nameB nm = true) : wfE (D + 1) (.mk 5 nm 0 []) := wfE0 (frm5 nm) (nam5 h)
theorem numT_wf {M : Mk} (hM : MkOk M) {d D k : Nat} {rec : Bs → Ex × Bs} (h : ∀ b,wfE D (rec b).1) (b : Bs) : wfE (D + 1) (numT M d rec k b).1 := by
 unfold numT
 split
 ·have h9 := nextB_lt b (n := 9) (by omega)
  refine wfE0 ?_ rfl
  simp only [frmE,Bool.and_eq_true]
  refine ⟨by decide,?_⟩
  simp only [if_true]
  rw [decide_eq_true_eq,Int64.toInt_ofNat_of_lt (by omega)]
  omega
 split
 ·exact wfV (nm_x (by have := nextB_lt b hM.i0;have := hM.i3;omega))
 split
 ·rename_i h1 h2
  exact wfV (nm_p (by have := nextB_lt b (n := M.params) (by omega);have := hM.p2;omega))
 split
 ·exact wfE0 (by decide) (by decide)
 split
 ·exact wfE1 (by decide +kernel) (by decide +kernel) (h _)
 split
 ·exact wfE0 (by decide +kernel) (by decide +kernel)
 split
 ·exact wfE1 (by decide +kernel) (by decide +kernel) (h _)
 ·have key : ∀ i ∈ List.range 6,frmE (.mk (([14,15,11,12,13,14] : List UInt8).getD i 14) [] 0 [e0,e0]) = true ∧ namE (.mk (([14,15,11,12,13,14] : List UInt8).getD i 14) [] 0 []) = true := by decide +kernel
  obtain ⟨k1,k2⟩ := key _ (List.mem_range.2 (nextB_lt b (n := 6) (by omega)))
  exact wfE2 k1 k2 (h _) (h _)
theorem numE_wf {M : Mk} (hM : MkOk M) : ∀ f b,wfE (f + 2) (numE M f b).1
 | 0,b => numT_wf hM (fun _ => wfE0 (by decide) (by decide)) _
 | f + 1,b => numT_wf hM (numE_wf hM f) _
theorem numL_wf {M : Mk} (hM : MkOk M) : ∀ n b,∀ e ∈ (numL M n b).1,wfE 4 e
 | 0,b,_,h => by cases h
 | n + 1,b,e,he => by
  rcases List.mem_cons.1 he with rfl | he
  ·exact numE_wf hM 2 b
  ·exact numL_wf hM n _ e he
theorem truT_wf {M : Mk} (hM : MkOk M) {d D k : Nat} {rec : Bs → Ex × Bs} (hk : k < 10) (hD : 4 ≤ D) (h : ∀ b,wfE D (rec b).1) (b : Bs) : wfE (D + 1) (truT M d rec k b).1 := by
 have hn : ∀ b,wfE D (numE M 2 b).1 := fun b => (numE_wf hM 2 b).mono hD
 unfold truT
 split
 ·have key : ∀ i ∈ List.range 2,frmE (.mk (2 + UInt8.ofNat i) [] 0 []) = true ∧ namE (.mk (2 + UInt8.ofNat i) [] 0 []) = true := by decide +kernel
  obtain ⟨k1,k2⟩ := key _ (List.mem_range.2 (nextB_lt b (n := 2) (by omega)))
  exact wfE0 k1 k2
 split
 ·exact wfV nm_b0
 split
 ·rename_i h1
  exact wfV (nm_f (by have := nextB_lt b h1.2;have := hM.f2;omega))
 split
 ·exact wfE1 (by decide +kernel) (by decide +kernel) (hn _)
 split
 ·exact wfE1 (by decide +kernel) (by decide +kernel) (h _)
 split
 ·rename_i h1
  rcases h1 with rfl | rfl
  ·exact wfE2 (by decide +kernel) (by decide +kernel) (h _) (h _)
  ·exact wfE2 (by decide +kernel) (by decide +kernel) (h _) (h _)
 ·have key : ∀ i ∈ List.range 6,frmE (.mk (16 + UInt8.ofNat i) [] 0 [e0,e0]) = true ∧ namE (.mk (16 + UInt8.ofNat i) [] 0 []) = true := by decide +kernel
  obtain ⟨k1,k2⟩ := key _ (List.mem_range.2 (nextB_lt b (n := 6) (by omega)))
  exact wfE2 k1 k2 (hn _) (hn _)
theorem truE_wf {M : Mk} (hM : MkOk M) : ∀ f b,wfE (f + 6) (truE M f b).1
 | 0,b => truT_wf hM (nextB_lt _ (by omega)) (by omega) (fun _ => (wfE0 (D := 0) (by decide) (by decide)).mono (by omega)) _
 | f + 1,b => truT_wf hM (nextB_lt _ (by omega)) (by omega) (truE_wf hM f) _
structure Wf (D lf : Nat) (l : List Sm) (lf' : Nat) : Prop where
 cnt : Sm.counts l + lf' ≤ lf
 dep : Sm.deeps l ≤ D
 frm : Sm.alls frmS l = true
 nam : Sm.alls namS l = true
 sma : Sm.alls smaS l = true
theorem ex_frm {l : List Ex} (h : ∀ e ∈ l,wfE 8 e) : Ex.alls frmE l = true := by
 induction l with
 | nil => rfl
 | cons e r ih => rw [Ex.alls,(h e (by simp)).2.1,ih fun x hx => h x (by simp [hx])];rfl
theorem ex_nam {l : List Ex} (h : ∀ e ∈ l,wfE 8 e) : Ex.alls namE l = true := by
 induction l with
 | nil => rfl
 | cons e r ih => rw [Ex.alls,(h e (by simp)).2.2,ih fun x hx => h x (by simp [hx])];rfl
def kdB (kd : UInt8) (nm hd : Str) (n : Nat) (t e : Bool) : Bool :=
 okKd kd && decide ((formOf kd).lo ≤ n) && decide (n ≤ (formOf kd).hi) && ((formOf kd).nm || decide (nm = [])) && ((formOf kd).hd || decide (hd = [])) && ((formOf kd).th || t) && ((formOf kd).el || e)
def knB (kd : UInt8) (nm hd : Str) : Bool := (!(formOf kd).nm || nameB nm) && (!(formOf kd).hd || nameB hd)
theorem wf_one {D lf lf' : Nat} {kd : UInt8} {nm hd : Str} {ex : List Ex} {th el : List Sm} (h1 : Sm.counts th + Sm.counts el + lf' ≤ lf) (h2 : kdB kd nm hd ex.length (decide (th.length = 0)) (decide (el.length = 0)) = true) (h3 : knB kd nm hd = true) (h4 : ∀ e ∈ ex,wfE 8 e)
 (ht : Sm.deeps th ≤ D ∧ Sm.alls frmS th = true ∧ Sm.alls namS th = true ∧ Sm.alls smaS th = true) (he : Sm.deeps el ≤ D ∧ Sm.alls frmS el = true ∧ Sm.alls namS el = true ∧ Sm.alls smaS el = true) :
 Wf (D + 1) (lf + 1) [.mk kd nm hd ex th el] lf' := by
 refine ⟨?_,?_,?_,?_,?_⟩
 ·simp only [Sm.counts,scount_mk];omega
 ·simp only [Sm.deeps,sdepth_mk];have := ht.1;have := he.1;omega
 ·have hf : frmS (.mk kd nm hd ex th el) = true := by
   simp only [frmS,ex_frm h4,Bool.and_true];exact h2
  simp [Sm.alls,sall_mk,hf,ht.2.1,he.2.1]
 ·have hf : namS (.mk kd nm hd ex th el) = true := by
   simp only [namS,ex_nam h4,Bool.and_true];exact h3
  simp [Sm.alls,sall_mk,hf,ht.2.2.1,he.2.2.1]
 ·have hf : smaS (.mk kd nm hd ex th el) = true := by
   simp only [smaS,List.all_eq_true,decide_eq_true_eq];exact fun e m => (h4 e m).1
  simp [Sm.alls,sall_mk,hf,ht.2.2.2,he.2.2.2]
theorem wf_nil {D : Nat} : Sm.deeps [] ≤ D ∧ Sm.alls frmS [] = true ∧ Sm.alls namS [] = true ∧ Sm.alls smaS [] = true := ⟨Nat.zero_le _,rfl,rfl,rfl⟩
theorem Wf.all {D lf lf' : Nat} {l : List Sm} (h : Wf D lf l lf') : Sm.deeps l ≤ D ∧ Sm.alls frmS l = true ∧ Sm.alls namS l = true ∧ Sm.alls smaS l = true := ⟨h.dep,h.frm,h.nam,h.sma⟩
theorem one_wf {e : Ex} (h : wfE 8 e) : ∀ x ∈ [e],wfE 8 x := fun x hx => by rw [List.mem_singleton.1 hx];exact h
theorem two_wf {e e2 : Ex} (h : wfE 8 e) (k : wfE 8 e2) : ∀ x ∈ [e,e2],wfE 8 x := fun x hx => by
 rcases List.mem_cons.1 hx with rfl | hx
 ·exact h
 ·rw [List.mem_singleton.1 hx];exact k
theorem num_wf {M : Mk} (hM : MkOk M) {n : Nat} {b : Bs} : ∀ x ∈ (numL M n b).1,wfE 8 x := fun x hx => (numL_wf hM n b x hx).mono (by omega)
theorem more_wf {e : Ex} (h : wfE 8 e) {M : Mk} (hM : MkOk M) {n : Nat} {b : Bs} : ∀ x ∈ e :: (numL M n b).1,wfE 8 x := fun x hx => by
 rcases List.mem_cons.1 hx with rfl | hx
 ·exact h
 ·exact num_wf hM x hx
theorem kd1 (nm : Str) : kdB 1 nm [] 1 true true = true := by simp [kdB,okKd,formOf,forms]
theorem kn1 {nm : Str} (h : nameB nm = true) : knB 1 nm [] = true := by simp [knB,okKd,formOf,forms,h]
theorem kd6 (nm hd : Str) {n : Nat} (h : n ≤ 4) : kdB 6 nm hd n true true = true := by simp [kdB,okKd,formOf,forms,h]
theorem kn6 {nm hd : Str} (h : nameB nm = true) (k : nameB hd = true) : knB 6 nm hd = true := by simp [knB,okKd,formOf,forms,h,k]
theorem kd7 (hd : Str) {n : Nat} (h0 : 1 ≤ n) (h : n ≤ 5) : kdB 7 [] hd n true true = true := by simp [kdB,okKd,formOf,forms,h0,h]
theorem kn7 {hd : Str} (k : nameB hd = true) : knB 7 [] hd = true := by simp [knB,okKd,formOf,forms,k]
theorem kd9 (nm : Str) (b : Bool) : kdB 9 nm [] 1 true b = true := by simp [kdB,okKd,formOf,forms]
theorem kn9 {nm : Str} (h : nameB nm = true) : knB 9 nm [] = true := by simp [knB,okKd,formOf,forms,h]
theorem kd4 (a b : Bool) : kdB 4 [] [] 1 a b = true := by revert a b;decide
theorem kd5 (a : Bool) : kdB 5 [] [] 1 a true = true := by revert a;decide
theorem kd8 (a : Bool) : kdB 8 [] [] 2 true a = true := by revert a;decide
theorem stmT_wf {M : Mk} (hM : MkOk M) (k d : Nat) {D : Nat} {bd : Bs × Nat → List Sm × (Bs × Nat)} (hb : ∀ x,Wf D x.2 (bd x).1 (bd x).2.2) (b : Bs) (lf : Nat) : Wf (D + 1) (lf + 1) [(stmT M k d bd b lf).1] (stmT M k d bd b lf).2.2 := by
 have hn : ∀ f b,f ≤ 6 → wfE 8 (numE M f b).1 := fun f b hf => (numE_wf hM f b).mono (by omega)
 have ht : ∀ b,wfE 8 (truE M 2 b).1 := fun b => truE_wf hM 2 b
 have z : Sm.counts [] = 0 := rfl
 unfold stmT
 split
 ·exact wf_one (lf' := lf) (by simp only [z];omega) (kd1 _) (kn1 nm_b0) (one_wf (ht _)) wf_nil wf_nil
 split
 ·exact wf_one (lf' := lf) (by simp only [z];omega) (by simp [kdB,okKd,formOf,forms]) (by simp [knB,okKd,formOf,forms,nm_t0]) (two_wf (hn _ _ (by omega)) (hn _ _ (by omega))) wf_nil wf_nil
 split
 ·exact wf_one (lf' := lf) (by simp only [z];omega) (by simp [kdB,okKd,formOf,forms]) (by simp [knB,okKd,formOf,forms,nm_t0]) (one_wf (hn _ _ (by omega))) wf_nil wf_nil
 split
 ·have h1 := hb ((truE M 2 b).2,lf)
  have h2 := hb (bd ((truE M 2 b).2,lf)).2
  exact wf_one (by have := h1.cnt;have := h2.cnt;simp only at *;omega) (kd4 _ _) (by decide) (one_wf (ht _)) h1.all h2.all
 split
 ·have h1 := hb ((truE M 2 b).2,lf)
  exact wf_one (by have := h1.cnt;simp only at *;omega) (kd5 _) (by decide) (one_wf (ht _)) h1.all wf_nil
 split
 ·have hc := nextB_lt b hM.a0
  have ha := hM.al _ hc
  have hh := nextB_lt (nextB b M.ars.length).2 ha.1
  have h3 := hM.a3
  exact wf_one (lf' := lf) (by simp only [z];omega) (by rw [(numL_ok _ _ _).1];exact kd6 _ _ (Nat.le_trans (hM.ar2 _ _) (by omega))) (kn6 (nm_abc (by omega)) (nm_h (by omega))) (num_wf hM) wf_nil wf_nil
 split
 ·have ha := hM.al _ hM.own
  have hh := nextB_lt b ha.1
  exact wf_one (lf' := lf) (by simp only [z];omega) (by rw [List.length_cons,(numL_ok _ _ _).1];exact kd7 _ (by omega) (Nat.succ_le_succ (Nat.le_trans (hM.ar2 _ _) (by omega)))) (kn7 (nm_h (by omega))) (more_wf (hn _ _ (by omega)) hM) wf_nil wf_nil
 split
 ·split
  ·have h1 := hb ((numL M 2 (nextB b 2).2).2,lf)
   exact wf_one (by have := h1.cnt;simp only at *;omega) (by rw [(numL_ok _ _ _).1];exact kd8 _) (by decide) (num_wf hM) wf_nil h1.all
  ·have h1 := hb ((numE M 3 (nextB (nextB b 2).2 M.ints).2).2,lf)
   have hx := nextB_lt (nextB b 2).2 hM.i0
   have h3 := hM.i3
   exact wf_one (lf' := (bd ((numE M 3 (nextB (nextB b 2).2 M.ints).2).2,lf)).2.2) (by have := h1.cnt;simp only at *;omega) (kd9 _ _) (kn9 (nm_x (by omega))) (one_wf (hn _ _ (by omega))) wf_nil h1.all
 split
 ·exact wf_one (lf' := lf) (by simp only [z];omega) (by decide) (by decide) (fun _ h => by cases h) wf_nil wf_nil
 ·have h3 := hM.i3
  exact wf_one (lf' := lf) (by simp only [z];omega) (kd1 _) (kn1 (nm_x (by have := nextB_lt (if k = 12 then (nextB b 3).2 else b) hM.i0;omega))) (one_wf (hn _ _ (by omega))) wf_nil wf_nil
theorem bodL_wf {st : Nat → Bs → Nat → Sm × (Bs × Nat)} {D : Nat} (hs : ∀ k b lf,Wf D (lf + 1) [(st k b lf).1] (st k b lf).2.2) : ∀ f x,Wf D x.2 (bodL st f x).1 (bodL st f x).2.2
 | 0,x => ⟨by simp [bodL,Sm.counts],Nat.zero_le _,rfl,rfl,rfl⟩
 | f + 1,(b,lf) => by
  unfold bodL
  split
  ·exact ⟨by simp [Sm.counts],Nat.zero_le _,rfl,rfl,rfl⟩
  ·rename_i hne
   split
   ·exact ⟨by simp [Sm.counts],Nat.zero_le _,rfl,rfl,rfl⟩
   ·have h1 := hs (nextB b 14).1 (nextB b 14).2 (lf - 1)
    have h2 := bodL_wf hs f (st (nextB b 14).1 (nextB b 14).2 (lf - 1)).2
    have hl : lf ≠ 0 := fun e => hne (.inr e)
    have al : ∀ (q : Sm → Bool) (s : Sm) (l : List Sm),Sm.alls q [s] = true → Sm.alls q l = true → Sm.alls q (s :: l) = true := fun q s l a b => by
     simp only [Sm.alls,Bool.and_eq_true] at a ⊢;exact ⟨a.1,b⟩
    refine ⟨?_,?_,al _ _ _ h1.frm h2.frm,al _ _ _ h1.nam h2.nam,al _ _ _ h1.sma h2.sma⟩
    ·have a1 := h1.cnt
     have a2 := h2.cnt
     simp only [Sm.counts] at a1 ⊢
     omega
    ·have a1 := h1.dep
     have a2 := h2.dep
     simp only [Sm.deeps] at a1 ⊢
     omega
theorem bodE_wf {M : Mk} (hM : MkOk M) : ∀ f x,Wf (f + 1) x.2 (bodE M f x).1 (bodE M f x).2.2
 | 0,x => bodL_wf (fun k b lf => stmT_wf hM k 3 (D := 0) (fun x => ⟨by simp [Sm.counts],Nat.zero_le _,rfl,rfl,rfl⟩) b lf) 13 x
 | f + 1,x => bodL_wf (fun k b lf => stmT_wf hM k (2 - f) (bodE_wf hM f) b lf) 13 x
structure HdOk (h : Hd) : Prop where
 nam : namH h = true
 frm : frmH h = true
 sma : smaH h = true
theorem MkOk.at {M : Mk} (h : MkOk M) (k : Nat) : MkOk (M.at k) := ⟨h.i0,h.i3,h.ar2 _ _,h.f2,h.a3,h.a0,h.ar2,h.al,h.own⟩
theorem hdS_wf {M : Mk} (hM : MkOk M) {k : Nat} (hk : k < 3) (c : Cd) : HdOk (hdS M k c) := by
 have h := bodE_wf (hM.at k) 3 (c.bytes.take 40,12)
 have hc := h.cnt
 have hd := h.dep
 simp only at hc
 have h2 := hM.ar2 M.own k
 refine ⟨?_,h.frm,?_⟩
 ·simp only [namH,hdS,Bool.and_eq_true]
  refine ⟨⟨nm_h hk,?_⟩,h.nam⟩
  simp only [namesB,List.all_eq_true,List.mem_map,List.mem_range]
  rintro _ ⟨i,hi,rfl⟩
  exact nm_p (by omega)
 ·simp only [smaH,hdS,Bool.and_eq_true,h.sma,and_true,namesB_len]
  simp only [Bool.not_eq_true',Bool.or_eq_false_iff,decide_eq_false_iff_not]
  refine ⟨⟨by omega,decide_eq_false (by omega)⟩,decide_eq_false (by omega)⟩
theorem hdsP_wf {M : Mk} (hM : MkOk M) : ∀ (l : List Cd) (k : Nat),k + l.length ≤ 3 → ∀ h ∈ hdsP M k l,HdOk h
 | [],k,_,h,hh => by cases hh
 | c :: r,k,hk,h,hh => by
  simp only [List.length_cons] at hk
  rcases List.mem_cons.1 hh with rfl | hh
  ·exact hdS_wf hM (by omega) c
  ·exact hdsP_wf hM r (k + 1) (by omega) h hh
theorem addK_len (ks : List Str) (s : Str) : (addK ks s).length ≤ ks.length + 1 := by
 unfold addK;split <;> simp
theorem stepV_len : ∀ (v : List Hd) (ks : List Str),(stepV ks v).length ≤ ks.length + v.length
 | [],ks => by simp [stepV]
 | h :: v,ks => by
  have := stepV_len v (stepH ks h)
  have h2 := addK_len ks h.nm
  simp only [stepV,List.foldl_cons,List.length_cons,stepH] at this ⊢
  omega
theorem arP_pos (x : Prt) : 0 < (arP x).length ∧ (arP x).length ≤ 3 := by
 have h := arP_len x
 have h2 := arUp_len x 3
 unfold arP at *
 omega
theorem mkP_ok (p : Pln) {i : Nat} (hi : i < (prtsP p).length) (x : Prt) : MkOk (mkP (arsP p) (p.flags.toNat % 3) i x) := by
 have hp := prtsP_len p
 have hl : (arsP p).length = (prtsP p).length := by simp [arsP]
 refine ⟨by simp only [mkP,intsP];omega,by simp only [mkP,intsP];omega,by simp [mkP],by simp only [mkP];omega,by simp only [mkP];omega,by simp only [mkP];omega,arN_le,?_,by simp only [mkP];omega⟩
 intro c hc
 simp only [mkP] at hc
 simp only [arL,mkP]
 rw [getD_at hc]
 have hm := List.getElem_mem hc
 generalize (arsP p)[c] = l at hm
 obtain ⟨y,_,rfl⟩ := List.mem_map.1 hm
 exact arP_pos y
theorem vssP_ok {M : Mk} (hM : MkOk M) (x : Prt) : 1 ≤ (vssP M x).length ∧ (vssP M x).length ≤ 2 ∧ ∀ v ∈ vssP M x,v.length ≤ 3 ∧ ∀ h ∈ v,HdOk h := by
 have hf := fstP_len x
 refine ⟨by simp [vssP],by unfold vssP;split <;> simp,fun v hv => ?_⟩
 unfold vssP at hv
 rcases List.mem_cons.1 hv with rfl | hv
 ·exact ⟨by rw [hdsP_len];exact hf,hdsP_wf hM _ 0 (by omega)⟩
 ·split at hv
  ·rw [List.mem_singleton.1 hv]
   exact ⟨by rw [hdsP_len,List.length_take];omega,hdsP_wf hM _ 0 (by rw [List.length_take];omega)⟩
  ·cases hv
theorem names_len {c : Cp} (h : c.vers.length ≤ 2) (hv : ∀ v ∈ c.vers,v.length ≤ 3) : (namesOf c).length ≤ 6 := by
 unfold namesOf
 match hc : c.vers,h with
 | [],_ => simp
 | [v],_ =>
  have := stepV_len v []
  have := hv v (by rw [hc];simp)
  simp only [List.foldl_cons,List.foldl_nil,List.length_nil] at *
  omega
 | [v,w],_ =>
  have := stepV_len v []
  have := stepV_len w (stepV [] v)
  have := hv v (by rw [hc];simp)
  have := hv w (by rw [hc];simp)
  simp only [List.foldl_cons,List.foldl_nil,List.length_nil] at *
  omega
theorem vars_ok (x : Prt) : (varsP x).length ≤ 8 ∧ ∀ v ∈ varsP x,nameB v.nm = true ∧ frmV v = true := by
 refine ⟨by simp only [varsP,List.length_append,vrsI_len,vrsT_len,List.length_singleton,intsP,tabsP];omega,fun v hv => ?_⟩
 simp only [varsP,vrsI,vrsT,List.mem_append,List.mem_map,List.mem_range,List.mem_singleton] at hv
 rcases hv with (⟨i,hi,rfl⟩ | rfl) | ⟨i,hi,rfl⟩
 ·simp only [intsP] at hi
  refine ⟨nm_x (by omega),?_⟩
  rw [show frmV (vrI i) = decide ((Int64.ofNat i).toInt ≠ -9223372036854775808) from rfl,decide_eq_true_eq,Int64.toInt_ofNat_of_lt (by omega)]
  omega
 ·exact ⟨nm_b0,by decide⟩
 ·simp only [tabsP] at hi
  obtain rfl : i = 0 := by omega
  exact ⟨nm_t0,by decide⟩
theorem buildF_good (p : Pln) : checkF (buildF p) = 0 := by
 have hp := prtsP_len p
 have hcs : ∀ c ∈ (buildF p).comps,∃ i x,i < (prtsP p).length ∧ c = cmpP (arsP p) (p.flags.toNat % 3) i x := by
  intro c hc
  simp only [buildF,cmpsP] at hc
  obtain ⟨i,hi,rfl⟩ := List.mem_mapIdx.1 hc
  exact ⟨i,_,hi,rfl⟩
 have hhd : ∀ c ∈ (buildF p).comps,∀ v ∈ c.vers,∀ h ∈ v,HdOk h := by
  intro c hc v hv h hh
  obtain ⟨i,x,hi,rfl⟩ := hcs c hc
  exact ((vssP_ok (mkP_ok p hi x) x).2.2 v hv).2 h hh
 have ev : ∀ q : Hd → Bool,(∀ h,HdOk h → q h = true) → evH q (buildF p) = true := by
  intro q hq
  simp only [evH,List.all_eq_true]
  exact fun c hc v hv h hh => hq h (hhd c hc v hv h hh)
 have h9 : (prtsP p).length * (prtsP p).length ≤ 9 := Nat.mul_le_mul hp.2 hp.2
 have hmin : min p.links.length ((prtsP p).length * (prtsP p).length) ≤ (prtsP p).length * (prtsP p).length := Nat.min_le_right _ _
 have h1 : smlF (buildF p) = true := by
  simp only [smlF,Bool.and_eq_true,ev smaH fun h k => k.sma,and_true]
  refine ⟨?_,?_⟩
  ·simp only [limF,buildF,cmpsP_len,flgsP_len,Bool.and_eq_true,decide_eq_true_eq]
   have := lnksP_len (prtsP p).length p.links (min p.links.length ((prtsP p).length * (prtsP p).length))
   refine ⟨⟨⟨by omega,by omega⟩,by omega⟩,decide_eq_true (by omega)⟩
  ·rw [List.all_eq_true]
   intro c hc
   obtain ⟨i,x,hi,rfl⟩ := hcs c hc
   obtain ⟨v1,v2,v3⟩ := vssP_ok (mkP_ok p hi x) x
   have v4 := names_len (c := cmpP (arsP p) (p.flags.toNat % 3) i x) v2 fun v hv => (v3 v hv).1
   simp only [smlC,Bool.and_eq_true,decide_eq_true_eq]
   exact ⟨⟨⟨(vars_ok x).1,v1⟩,Nat.le_trans v2 (by omega)⟩,by omega⟩
 have hlk : ∀ l ∈ (buildF p).links,nameB l.fr = true ∧ nameB l.to = true ∧ lkB l = true := by
  intro l hl
  simp only [buildF,lnksP,List.mem_flatMap,List.mem_range] at hl
  obtain ⟨k,hk,hl⟩ := hl
  unfold lnkP at hl
  split at hl
  ·rename_i h0
   rw [List.mem_singleton.1 hl]
   have hd : k / (prtsP p).length < (prtsP p).length := by
    rw [Nat.div_lt_iff_lt_mul hp.1];omega
   have hm := Nat.mod_lt k hp.1
   refine ⟨nm_abc (by omega),nm_abc (by omega),?_⟩
   simp only [lkB,Bool.and_eq_true,decide_eq_true_eq]
   rw [Int64.toInt_ofNat_of_lt (by omega)]
   omega
  ·cases hl
 have h2 : namF (buildF p) = true := by
  simp only [namF,Bool.and_eq_true,ev namH fun h k => k.nam,and_true]
  refine ⟨⟨⟨show nameB fleetN = true by decide +kernel,?_⟩,?_⟩,?_⟩
  ·simp only [buildF,flgsP,List.all_eq_true,List.mem_map,List.mem_range]
   rintro _ ⟨k,hk,rfl⟩
   exact nm_f (by omega)
  ·rw [List.all_eq_true]
   intro l hl
   rw [(hlk l hl).1,(hlk l hl).2.1];rfl
  ·rw [List.all_eq_true]
   intro c hc
   obtain ⟨i,x,hi,rfl⟩ := hcs c hc
   rw [Bool.and_eq_true,List.all_eq_true]
   exact ⟨nm_abc (by omega),fun v hv => ((vars_ok x).2 v hv).1⟩
 have h3 : frmF (buildF p) = true := by
  simp only [frmF,Bool.and_eq_true,ev frmH fun h k => k.frm,and_true]
  refine ⟨?_,?_⟩
  ·rw [List.all_eq_true]
   exact fun l hl => (hlk l hl).2.2
  ·rw [List.all_eq_true]
   intro c hc
   obtain ⟨i,x,hi,rfl⟩ := hcs c hc
   rw [List.all_eq_true]
   exact fun v hv => ((vars_ok x).2 v hv).2
 simp [checkF,h1,h2,h3]
theorem ftT_dec {a b : Ft} (ha : checkF a = 0) (hb : checkF b = 0) : decide (ftT a = ftT b) = eqP (a = b) := by
 rw [Bool.eq_iff_iff,decide_eq_true_eq,eqP_iff]
 exact ⟨ftT_inj ha hb,fun e => by rw [e]⟩
set_option maxRecDepth 100000 in
theorem syntaxApart_any (H : Hp) (G : Gl H) (g : Gt H) (p : Pln) (l : List Sp) (cs : List Value) (v0 : Value) (h : Rep H (dPln p) cs) (hl : Rep H (.seq 5 (l.map dSp)) [v0]) (w : World) (hA : Agr H w) :
 Calls Tryz.prog 5 #[.agg cs.toArray,v0] w fun r w' => r = .returned (.bool true) ∧ Ext w w' := by
 obtain ⟨p1,c1,p2,c2,rfl,_,_⟩ := pln_open h
 refine Sx.enter (H := H) Tryz.func5 rfl Tryz.ntmps5 rfl hA ?_
 refine .sr<|.bx Z Z Z fun b2 => .a Z Z<|.nt<|.sq<|.sr<|.yv (.call Fx.call7 Z (fun W t => awake_any H G g W t.agr)) Z<|.yv (.not Z) Z<|.nt<|.cF Z<|.sk<|.tN<|.cu (X := Nat × Nat × Hp × List Value × List Value) [] trivial (fun z => [(5,.pointer (some ⟨z.1,0,none⟩)),(6,.pointer (some ⟨z.2.1,0,none⟩))]) (fun z => z.2.2.1) (fun z => [.box z.1 z.2.2.2.1 40,.box z.2.1 z.2.2.2.2 40]) (fun z => ∃ f : Ft,HUp w H z.2.2.1 ∧ Rep z.2.2.1 (dFt .u8 (buildF p)) z.2.2.2.1 ∧ Rep z.2.2.1 (dFt .u8 f) z.2.2.2.2 ∧ okFt 50000 f) ?_ fun z hC => ?_
 ·
  refine .ft (p := .light _ _ (.light _ _ (.light _ _ (.alt _ _ _ (.alt _ _ _ (.alt _ _ _ (.alt _ _ _ (.alt _ _ _ (.alt _ _ _ (.done) (.no)) (.alt _ _ _ (.alt _ _ _ (.done) (.no)) (.no))) (.alt _ _ _ (.alt _ _ _ (.alt _ _ _ (.done) (.no)) (.alt _ _ _ (.alt _ _ _ (.done) (.no)) (.no))) (.alt _ _ _ (.alt _ _ _ (.alt _ _ _ (.done) (.no)) (.alt _ _ _ (.alt _ _ _ (.done) (.no)) (.no))) (.no)))) (.alt _ _ _ (.alt _ _ _ (.alt _ _ _ (.alt _ _ _ (.done) (.no)) (.alt _ _ _ (.alt _ _ _ (.done) (.no)) (.no))) (.alt _ _ _ (.alt _ _ _ (.alt _ _ _ (.done) (.no)) (.no)) (.no))) (.alt _ _ _ (.alt _ _ _ (.alt _ _ _ (.alt _ _ _ (.done) (.no)) (.alt _ _ _ (.alt _ _ _ (.done) (.no)) (.no))) (.alt _ _ _ (.alt _ _ _ (.alt _ _ _ (.done) (.no)) (.no)) (.no))) (.no)))) (.alt _ _ _ (.alt _ _ _ (.alt _ _ _ (.alt _ _ _ (.alt _ _ _ (.done) (.no)) (.alt _ _ _ (.alt _ _ _ (.done) (.no)) (.no))) (.alt _ _ _ (.alt _ _ _ (.alt _ _ _ (.done) (.no)) (.no)) (.no))) (.alt _ _ _ (.alt _ _ _ (.alt _ _ _ (.alt _ _ _ (.done) (.no)) (.no)) (.no)) (.no))) (.alt _ _ _ (.alt _ _ _ (.alt _ _ _ (.alt _ _ _ (.alt _ _ _ (.done) (.no)) (.alt _ _ _ (.alt _ _ _ (.done) (.no)) (.no))) (.alt _ _ _ (.alt _ _ _ (.alt _ _ _ (.done) (.no)) (.no)) (.no))) (.alt _ _ _ (.alt _ _ _ (.alt _ _ _ (.alt _ _ _ (.done) (.no)) (.no)) (.no)) (.no))) (.no)))) (.alt _ _ _ (.alt _ _ _ (.alt _ _ _ (.alt _ _ _ (.alt _ _ _ (.alt _ _ _ (.done) (.no)) (.alt _ _ _ (.alt _ _ _ (.done) (.no)) (.no))) (.alt _ _ _ (.alt _ _ _ (.alt _ _ _ (.done) (.no)) (.no)) (.no))) (.alt _ _ _ (.alt _ _ _ (.alt _ _ _ (.alt _ _ _ (.done) (.no)) (.no)) (.no)) (.no))) (.alt _ _ _ (.alt _ _ _ (.alt _ _ _ (.alt _ _ _ (.alt _ _ _ (.done) (.no)) (.no)) (.no)) (.no)) (.no))) (.alt _ _ _ (.alt _ _ _ (.alt _ _ _ (.alt _ _ _ (.alt _ _ _ (.alt _ _ _ (.done) (.no)) (.alt _ _ _ (.alt _ _ _ (.done) (.no)) (.no))) (.alt _ _ _ (.alt _ _ _ (.alt _ _ _ (.done) (.no)) (.no)) (.no))) (.alt _ _ _ (.alt _ _ _ (.alt _ _ _ (.alt _ _ _ (.done) (.no)) (.no)) (.no)) (.no))) (.alt _ _ _ (.alt _ _ _ (.alt _ _ _ (.alt _ _ _ (.alt _ _ _ (.done) (.no)) (.no)) (.no)) (.no)) (.no))) (.no))))))) 9 (.light 0 (.light 3 (.light 4 (.alt 1 0 (.alt 2 0 (.alt 5 0 (.alt 6 0 (.alt 7 0 (.alt 8 0 (.done) (.no)) (.alt 8 0 (.alt 7 0 (.done) (.no)) (.no))) (.alt 7 0 (.alt 6 0 (.alt 8 0 (.done) (.no)) (.alt 8 0 (.alt 6 0 (.done) (.no)) (.no))) (.alt 8 0 (.alt 6 0 (.alt 7 0 (.done) (.no)) (.alt 7 0 (.alt 6 0 (.done) (.no)) (.no))) (.no)))) (.alt 7 0 (.alt 5 0 (.alt 6 0 (.alt 8 0 (.done) (.no)) (.alt 8 0 (.alt 6 0 (.done) (.no)) (.no))) (.alt 8 0 (.alt 5 0 (.alt 6 0 (.done) (.no)) (.no)) (.no))) (.alt 8 0 (.alt 5 0 (.alt 6 0 (.alt 7 0 (.done) (.no)) (.alt 7 0 (.alt 6 0 (.done) (.no)) (.no))) (.alt 7 0 (.alt 5 0 (.alt 6 0 (.done) (.no)) (.no)) (.no))) (.no)))) (.alt 7 0 (.alt 2 0 (.alt 5 0 (.alt 6 0 (.alt 8 0 (.done) (.no)) (.alt 8 0 (.alt 6 0 (.done) (.no)) (.no))) (.alt 8 0 (.alt 5 0 (.alt 6 0 (.done) (.no)) (.no)) (.no))) (.alt 8 0 (.alt 2 0 (.alt 5 0 (.alt 6 0 (.done) (.no)) (.no)) (.no)) (.no))) (.alt 8 0 (.alt 2 0 (.alt 5 0 (.alt 6 0 (.alt 7 0 (.done) (.no)) (.alt 7 0 (.alt 6 0 (.done) (.no)) (.no))) (.alt 7 0 (.alt 5 0 (.alt 6 0 (.done) (.no)) (.no)) (.no))) (.alt 7 0 (.alt 2 0 (.alt 5 0 (.alt 6 0 (.done) (.no)) (.no)) (.no)) (.no))) (.no)))) (.alt 7 0 (.alt 1 0 (.alt 2 0 (.alt 5 0 (.alt 6 0 (.alt 8 0 (.done) (.no)) (.alt 8 0 (.alt 6 0 (.done) (.no)) (.no))) (.alt 8 0 (.alt 5 0 (.alt 6 0 (.done) (.no)) (.no)) (.no))) (.alt 8 0 (.alt 2 0 (.alt 5 0 (.alt 6 0 (.done) (.no)) (.no)) (.no)) (.no))) (.alt 8 0 (.alt 1 0 (.alt 2 0 (.alt 5 0 (.alt 6 0 (.done) (.no)) (.no)) (.no)) (.no)) (.no))) (.alt 8 0 (.alt 1 0 (.alt 2 0 (.alt 5 0 (.alt 6 0 (.alt 7 0 (.done) (.no)) (.alt 7 0 (.alt 6 0 (.done) (.no)) (.no))) (.alt 7 0 (.alt 5 0 (.alt 6 0 (.done) (.no)) (.no)) (.no))) (.alt 7 0 (.alt 2 0 (.alt 5 0 (.alt 6 0 (.done) (.no)) (.no)) (.no)) (.no))) (.alt 7 0 (.alt 1 0 (.alt 2 0 (.alt 5 0 (.alt 6 0 (.done) (.no)) (.no)) (.no)) (.no)) (.no))) (.no))))))) (by kernel_rfl) (by kernel_rfl) Z<|.yv (.loadW Z Fx.agg25 (.head _) Z) Z<|.yv (.loadW Z Fx.agg25 (.head _) Z) Z<|.m Z Z<|.h ?_ (.h ?_ (.h ?_ .nn))
  ·
   refine .ct (X := List Value) Fx.call14 Z (fun W t => build_plan H p _ W h t.agr) Z fun x1 H1 hx1 u1 => .h ?_ (.h ?_ (.h ?_ .nn))
   ·
    refine .ct (X := List Value) Fx.call10 Z (fun W t => syntax_any 100 (by decide) H1 (buildF p) (buildF_ok p) x1 W hx1 t.agr) Z fun x2 H2 hx2 u2 => .h ?_ (.h ?_ (.h ?_ .nn))
    ·
     refine .ct (X := List Value) Fx.call8 Z (fun W t => spoilt_any H2 p l _ v0 W (h.up (u1.up.trans u2.up)) (hl.up (u1.up.trans u2.up)) t.agr) Z fun x3 H3 hc3 u3 => ?_
     obtain ⟨f,hf,hok⟩ := hc3
     refine .h ?_ (.h ?_ (.h ?_ .nn))
     ·
      refine .ct (X := List Value) Fx.call10 Z (fun W t => syntax_any 50000 (by decide) H3 f hok x3 W hf t.agr) Z fun x4 H4 hx4 u4 => .h ?_ (.h ?_ .nn)
      ·
       exact .al Fx.zero40 Z fun b5 => .h1<|.al Fx.zero40 Z fun b6 => .fn (tl := [_,_]) Z<|.sV (.tail<|.head) Z Z Fx.size40 (ft_len hx2) hx2.one Z<|.sV .head Z Z Fx.size40 (ft_len hx4) hx4.one Z<|.nt<|.me (b5,b6,H4,x2,x4) ⟨rfl,rfl,trivial⟩ trivial (fun _ s => s.pick [1,0] [_,_] Z Z) ⟨f,(u1.trans u2).trans (u3.trans u4),hx2.up (u3.up.trans u4.up),hx4,hok⟩
      exact .al Fx.zero40 Z fun b6 => .h1<|.al Fx.zero40 Z fun b5 => .fn (tl := [_,_]) Z<|.sV .head Z Z Fx.size40 (ft_len hx2) hx2.one Z<|.sV (.tail<|.head) Z Z Fx.size40 (ft_len hx4) hx4.one Z<|.nt<|.me (b5,b6,H4,x2,x4) ⟨rfl,rfl,trivial⟩ trivial (fun _ s => s.pick [0,1] [_,_] Z Z) ⟨f,(u1.trans u2).trans (u3.trans u4),hx2.up (u3.up.trans u4.up),hx4,hok⟩
     ·
      refine .al Fx.zero40 Z fun b5 => .h ?_ (.h ?_ .nn)
      ·
       exact .ct (X := List Value) Fx.call10 Z (fun W t => syntax_any 50000 (by decide) H3 f hok x3 W hf t.agr) Z fun x4 H4 hx4 u4 => .h1<|.al Fx.zero40 Z fun b6 => .fn (tl := [_,_]) Z<|.sV (.tail<|.head) Z Z Fx.size40 (ft_len hx2) hx2.one Z<|.sV .head Z Z Fx.size40 (ft_len hx4) hx4.one Z<|.nt<|.me (b5,b6,H4,x2,x4) ⟨rfl,rfl,trivial⟩ trivial (fun _ s => s.pick [1,0] [_,_] Z Z) ⟨f,(u1.trans u2).trans (u3.trans u4),hx2.up (u3.up.trans u4.up),hx4,hok⟩
      exact .al Fx.zero40 Z fun b6 => .h1<|.ct (X := List Value) Fx.call10 Z (fun W t => syntax_any 50000 (by decide) H3 f hok x3 W hf t.agr) Z fun x4 H4 hx4 u4 => .fn (tl := [_,_]) Z<|.sV (.tail<|.head) Z Z Fx.size40 (ft_len hx2) hx2.one Z<|.sV .head Z Z Fx.size40 (ft_len hx4) hx4.one Z<|.nt<|.me (b5,b6,H4,x2,x4) ⟨rfl,rfl,trivial⟩ trivial (fun _ s => s.pick [1,0] [_,_] Z Z) ⟨f,(u1.trans u2).trans (u3.trans u4),hx2.up (u3.up.trans u4.up),hx4,hok⟩
     refine .al Fx.zero40 Z fun b6 => .h ?_ (.h ?_ .nn)
     ·
      exact .ct (X := List Value) Fx.call10 Z (fun W t => syntax_any 50000 (by decide) H3 f hok x3 W hf t.agr) Z fun x4 H4 hx4 u4 => .h1<|.al Fx.zero40 Z fun b5 => .fn (tl := [_,_]) Z<|.sV .head Z Z Fx.size40 (ft_len hx2) hx2.one Z<|.sV (.tail<|.head) Z Z Fx.size40 (ft_len hx4) hx4.one Z<|.nt<|.me (b5,b6,H4,x2,x4) ⟨rfl,rfl,trivial⟩ trivial (fun _ s => s.pick [0,1] [_,_] Z Z) ⟨f,(u1.trans u2).trans (u3.trans u4),hx2.up (u3.up.trans u4.up),hx4,hok⟩
     exact .al Fx.zero40 Z fun b5 => .h1<|.ct (X := List Value) Fx.call10 Z (fun W t => syntax_any 50000 (by decide) H3 f hok x3 W hf t.agr) Z fun x4 H4 hx4 u4 => .fn (tl := [_,_]) Z<|.sV .head Z Z Fx.size40 (ft_len hx2) hx2.one Z<|.sV (.tail<|.head) Z Z Fx.size40 (ft_len hx4) hx4.one Z<|.nt<|.me (b5,b6,H4,x2,x4) ⟨rfl,rfl,trivial⟩ trivial (fun _ s => s.pick [0,1] [_,_] Z Z) ⟨f,(u1.trans u2).trans (u3.trans u4),hx2.up (u3.up.trans u4.up),hx4,hok⟩
    ·
     refine .al Fx.zero40 Z fun b5 => .h ?_ (.h ?_ .nn)
     ·
      refine .ct (X := List Value) Fx.call8 Z (fun W t => spoilt_any H2 p l _ v0 W (h.up (u1.up.trans u2.up)) (hl.up (u1.up.trans u2.up)) t.agr) Z fun x3 H3 hc3 u3 => ?_
      obtain ⟨f,hf,hok⟩ := hc3
      refine .h ?_ (.h ?_ .nn)
      ·
       exact .ct (X := List Value) Fx.call10 Z (fun W t => syntax_any 50000 (by decide) H3 f hok x3 W hf t.agr) Z fun x4 H4 hx4 u4 => .h1<|.al Fx.zero40 Z fun b6 => .fn (tl := [_,_]) Z<|.sV (.tail<|.head) Z Z Fx.size40 (ft_len hx2) hx2.one Z<|.sV .head Z Z Fx.size40 (ft_len hx4) hx4.one Z<|.nt<|.me (b5,b6,H4,x2,x4) ⟨rfl,rfl,trivial⟩ trivial (fun _ s => s.pick [1,0] [_,_] Z Z) ⟨f,(u1.trans u2).trans (u3.trans u4),hx2.up (u3.up.trans u4.up),hx4,hok⟩
      exact .al Fx.zero40 Z fun b6 => .h1<|.ct (X := List Value) Fx.call10 Z (fun W t => syntax_any 50000 (by decide) H3 f hok x3 W hf t.agr) Z fun x4 H4 hx4 u4 => .fn (tl := [_,_]) Z<|.sV (.tail<|.head) Z Z Fx.size40 (ft_len hx2) hx2.one Z<|.sV .head Z Z Fx.size40 (ft_len hx4) hx4.one Z<|.nt<|.me (b5,b6,H4,x2,x4) ⟨rfl,rfl,trivial⟩ trivial (fun _ s => s.pick [1,0] [_,_] Z Z) ⟨f,(u1.trans u2).trans (u3.trans u4),hx2.up (u3.up.trans u4.up),hx4,hok⟩
     refine .al Fx.zero40 Z fun b6 => .h1<|.ct (X := List Value) Fx.call8 Z (fun W t => spoilt_any H2 p l _ v0 W (h.up (u1.up.trans u2.up)) (hl.up (u1.up.trans u2.up)) t.agr) Z fun x3 H3 hc3 u3 => ?_
     obtain ⟨f,hf,hok⟩ := hc3
     exact .h1<|.ct (X := List Value) Fx.call10 Z (fun W t => syntax_any 50000 (by decide) H3 f hok x3 W hf t.agr) Z fun x4 H4 hx4 u4 => .fn (tl := [_,_]) Z<|.sV (.tail<|.head) Z Z Fx.size40 (ft_len hx2) hx2.one Z<|.sV .head Z Z Fx.size40 (ft_len hx4) hx4.one Z<|.nt<|.me (b5,b6,H4,x2,x4) ⟨rfl,rfl,trivial⟩ trivial (fun _ s => s.pick [1,0] [_,_] Z Z) ⟨f,(u1.trans u2).trans (u3.trans u4),hx2.up (u3.up.trans u4.up),hx4,hok⟩
    refine .al Fx.zero40 Z fun b6 => .h ?_ (.h ?_ .nn)
    ·
     refine .ct (X := List Value) Fx.call8 Z (fun W t => spoilt_any H2 p l _ v0 W (h.up (u1.up.trans u2.up)) (hl.up (u1.up.trans u2.up)) t.agr) Z fun x3 H3 hc3 u3 => ?_
     obtain ⟨f,hf,hok⟩ := hc3
     refine .h ?_ (.h ?_ .nn)
     ·
      exact .ct (X := List Value) Fx.call10 Z (fun W t => syntax_any 50000 (by decide) H3 f hok x3 W hf t.agr) Z fun x4 H4 hx4 u4 => .h1<|.al Fx.zero40 Z fun b5 => .fn (tl := [_,_]) Z<|.sV .head Z Z Fx.size40 (ft_len hx2) hx2.one Z<|.sV (.tail<|.head) Z Z Fx.size40 (ft_len hx4) hx4.one Z<|.nt<|.me (b5,b6,H4,x2,x4) ⟨rfl,rfl,trivial⟩ trivial (fun _ s => s.pick [0,1] [_,_] Z Z) ⟨f,(u1.trans u2).trans (u3.trans u4),hx2.up (u3.up.trans u4.up),hx4,hok⟩
     exact .al Fx.zero40 Z fun b5 => .h1<|.ct (X := List Value) Fx.call10 Z (fun W t => syntax_any 50000 (by decide) H3 f hok x3 W hf t.agr) Z fun x4 H4 hx4 u4 => .fn (tl := [_,_]) Z<|.sV .head Z Z Fx.size40 (ft_len hx2) hx2.one Z<|.sV (.tail<|.head) Z Z Fx.size40 (ft_len hx4) hx4.one Z<|.nt<|.me (b5,b6,H4,x2,x4) ⟨rfl,rfl,trivial⟩ trivial (fun _ s => s.pick [0,1] [_,_] Z Z) ⟨f,(u1.trans u2).trans (u3.trans u4),hx2.up (u3.up.trans u4.up),hx4,hok⟩
    refine .al Fx.zero40 Z fun b5 => .h1<|.ct (X := List Value) Fx.call8 Z (fun W t => spoilt_any H2 p l _ v0 W (h.up (u1.up.trans u2.up)) (hl.up (u1.up.trans u2.up)) t.agr) Z fun x3 H3 hc3 u3 => ?_
    obtain ⟨f,hf,hok⟩ := hc3
    exact .h1<|.ct (X := List Value) Fx.call10 Z (fun W t => syntax_any 50000 (by decide) H3 f hok x3 W hf t.agr) Z fun x4 H4 hx4 u4 => .fn (tl := [_,_]) Z<|.sV .head Z Z Fx.size40 (ft_len hx2) hx2.one Z<|.sV (.tail<|.head) Z Z Fx.size40 (ft_len hx4) hx4.one Z<|.nt<|.me (b5,b6,H4,x2,x4) ⟨rfl,rfl,trivial⟩ trivial (fun _ s => s.pick [0,1] [_,_] Z Z) ⟨f,(u1.trans u2).trans (u3.trans u4),hx2.up (u3.up.trans u4.up),hx4,hok⟩
   ·
    refine .al Fx.zero40 Z fun b5 => .h ?_ (.h ?_ .nn)
    ·
     refine .ct (X := List Value) Fx.call10 Z (fun W t => syntax_any 100 (by decide) H1 (buildF p) (buildF_ok p) x1 W hx1 t.agr) Z fun x2 H2 hx2 u2 => .h ?_ (.h ?_ .nn)
     ·
      refine .ct (X := List Value) Fx.call8 Z (fun W t => spoilt_any H2 p l _ v0 W (h.up (u1.up.trans u2.up)) (hl.up (u1.up.trans u2.up)) t.agr) Z fun x3 H3 hc3 u3 => ?_
      obtain ⟨f,hf,hok⟩ := hc3
      refine .h ?_ (.h ?_ .nn)
      ·
       exact .ct (X := List Value) Fx.call10 Z (fun W t => syntax_any 50000 (by decide) H3 f hok x3 W hf t.agr) Z fun x4 H4 hx4 u4 => .h1<|.al Fx.zero40 Z fun b6 => .fn (tl := [_,_]) Z<|.sV (.tail<|.head) Z Z Fx.size40 (ft_len hx2) hx2.one Z<|.sV .head Z Z Fx.size40 (ft_len hx4) hx4.one Z<|.nt<|.me (b5,b6,H4,x2,x4) ⟨rfl,rfl,trivial⟩ trivial (fun _ s => s.pick [1,0] [_,_] Z Z) ⟨f,(u1.trans u2).trans (u3.trans u4),hx2.up (u3.up.trans u4.up),hx4,hok⟩
      exact .al Fx.zero40 Z fun b6 => .h1<|.ct (X := List Value) Fx.call10 Z (fun W t => syntax_any 50000 (by decide) H3 f hok x3 W hf t.agr) Z fun x4 H4 hx4 u4 => .fn (tl := [_,_]) Z<|.sV (.tail<|.head) Z Z Fx.size40 (ft_len hx2) hx2.one Z<|.sV .head Z Z Fx.size40 (ft_len hx4) hx4.one Z<|.nt<|.me (b5,b6,H4,x2,x4) ⟨rfl,rfl,trivial⟩ trivial (fun _ s => s.pick [1,0] [_,_] Z Z) ⟨f,(u1.trans u2).trans (u3.trans u4),hx2.up (u3.up.trans u4.up),hx4,hok⟩
     refine .al Fx.zero40 Z fun b6 => .h1<|.ct (X := List Value) Fx.call8 Z (fun W t => spoilt_any H2 p l _ v0 W (h.up (u1.up.trans u2.up)) (hl.up (u1.up.trans u2.up)) t.agr) Z fun x3 H3 hc3 u3 => ?_
     obtain ⟨f,hf,hok⟩ := hc3
     exact .h1<|.ct (X := List Value) Fx.call10 Z (fun W t => syntax_any 50000 (by decide) H3 f hok x3 W hf t.agr) Z fun x4 H4 hx4 u4 => .fn (tl := [_,_]) Z<|.sV (.tail<|.head) Z Z Fx.size40 (ft_len hx2) hx2.one Z<|.sV .head Z Z Fx.size40 (ft_len hx4) hx4.one Z<|.nt<|.me (b5,b6,H4,x2,x4) ⟨rfl,rfl,trivial⟩ trivial (fun _ s => s.pick [1,0] [_,_] Z Z) ⟨f,(u1.trans u2).trans (u3.trans u4),hx2.up (u3.up.trans u4.up),hx4,hok⟩
    refine .al Fx.zero40 Z fun b6 => .h1<|.ct (X := List Value) Fx.call10 Z (fun W t => syntax_any 100 (by decide) H1 (buildF p) (buildF_ok p) x1 W hx1 t.agr) Z fun x2 H2 hx2 u2 => .h1<|.ct (X := List Value) Fx.call8 Z (fun W t => spoilt_any H2 p l _ v0 W (h.up (u1.up.trans u2.up)) (hl.up (u1.up.trans u2.up)) t.agr) Z fun x3 H3 hc3 u3 => ?_
    obtain ⟨f,hf,hok⟩ := hc3
    exact .h1<|.ct (X := List Value) Fx.call10 Z (fun W t => syntax_any 50000 (by decide) H3 f hok x3 W hf t.agr) Z fun x4 H4 hx4 u4 => .fn (tl := [_,_]) Z<|.sV (.tail<|.head) Z Z Fx.size40 (ft_len hx2) hx2.one Z<|.sV .head Z Z Fx.size40 (ft_len hx4) hx4.one Z<|.nt<|.me (b5,b6,H4,x2,x4) ⟨rfl,rfl,trivial⟩ trivial (fun _ s => s.pick [1,0] [_,_] Z Z) ⟨f,(u1.trans u2).trans (u3.trans u4),hx2.up (u3.up.trans u4.up),hx4,hok⟩
   refine .al Fx.zero40 Z fun b6 => .h ?_ (.h ?_ .nn)
   ·
    refine .ct (X := List Value) Fx.call10 Z (fun W t => syntax_any 100 (by decide) H1 (buildF p) (buildF_ok p) x1 W hx1 t.agr) Z fun x2 H2 hx2 u2 => .h ?_ (.h ?_ .nn)
    ·
     refine .ct (X := List Value) Fx.call8 Z (fun W t => spoilt_any H2 p l _ v0 W (h.up (u1.up.trans u2.up)) (hl.up (u1.up.trans u2.up)) t.agr) Z fun x3 H3 hc3 u3 => ?_
     obtain ⟨f,hf,hok⟩ := hc3
     refine .h ?_ (.h ?_ .nn)
     ·
      exact .ct (X := List Value) Fx.call10 Z (fun W t => syntax_any 50000 (by decide) H3 f hok x3 W hf t.agr) Z fun x4 H4 hx4 u4 => .h1<|.al Fx.zero40 Z fun b5 => .fn (tl := [_,_]) Z<|.sV .head Z Z Fx.size40 (ft_len hx2) hx2.one Z<|.sV (.tail<|.head) Z Z Fx.size40 (ft_len hx4) hx4.one Z<|.nt<|.me (b5,b6,H4,x2,x4) ⟨rfl,rfl,trivial⟩ trivial (fun _ s => s.pick [0,1] [_,_] Z Z) ⟨f,(u1.trans u2).trans (u3.trans u4),hx2.up (u3.up.trans u4.up),hx4,hok⟩
     exact .al Fx.zero40 Z fun b5 => .h1<|.ct (X := List Value) Fx.call10 Z (fun W t => syntax_any 50000 (by decide) H3 f hok x3 W hf t.agr) Z fun x4 H4 hx4 u4 => .fn (tl := [_,_]) Z<|.sV .head Z Z Fx.size40 (ft_len hx2) hx2.one Z<|.sV (.tail<|.head) Z Z Fx.size40 (ft_len hx4) hx4.one Z<|.nt<|.me (b5,b6,H4,x2,x4) ⟨rfl,rfl,trivial⟩ trivial (fun _ s => s.pick [0,1] [_,_] Z Z) ⟨f,(u1.trans u2).trans (u3.trans u4),hx2.up (u3.up.trans u4.up),hx4,hok⟩
    refine .al Fx.zero40 Z fun b5 => .h1<|.ct (X := List Value) Fx.call8 Z (fun W t => spoilt_any H2 p l _ v0 W (h.up (u1.up.trans u2.up)) (hl.up (u1.up.trans u2.up)) t.agr) Z fun x3 H3 hc3 u3 => ?_
    obtain ⟨f,hf,hok⟩ := hc3
    exact .h1<|.ct (X := List Value) Fx.call10 Z (fun W t => syntax_any 50000 (by decide) H3 f hok x3 W hf t.agr) Z fun x4 H4 hx4 u4 => .fn (tl := [_,_]) Z<|.sV .head Z Z Fx.size40 (ft_len hx2) hx2.one Z<|.sV (.tail<|.head) Z Z Fx.size40 (ft_len hx4) hx4.one Z<|.nt<|.me (b5,b6,H4,x2,x4) ⟨rfl,rfl,trivial⟩ trivial (fun _ s => s.pick [0,1] [_,_] Z Z) ⟨f,(u1.trans u2).trans (u3.trans u4),hx2.up (u3.up.trans u4.up),hx4,hok⟩
   refine .al Fx.zero40 Z fun b5 => .h1<|.ct (X := List Value) Fx.call10 Z (fun W t => syntax_any 100 (by decide) H1 (buildF p) (buildF_ok p) x1 W hx1 t.agr) Z fun x2 H2 hx2 u2 => .h1<|.ct (X := List Value) Fx.call8 Z (fun W t => spoilt_any H2 p l _ v0 W (h.up (u1.up.trans u2.up)) (hl.up (u1.up.trans u2.up)) t.agr) Z fun x3 H3 hc3 u3 => ?_
   obtain ⟨f,hf,hok⟩ := hc3
   exact .h1<|.ct (X := List Value) Fx.call10 Z (fun W t => syntax_any 50000 (by decide) H3 f hok x3 W hf t.agr) Z fun x4 H4 hx4 u4 => .fn (tl := [_,_]) Z<|.sV .head Z Z Fx.size40 (ft_len hx2) hx2.one Z<|.sV (.tail<|.head) Z Z Fx.size40 (ft_len hx4) hx4.one Z<|.nt<|.me (b5,b6,H4,x2,x4) ⟨rfl,rfl,trivial⟩ trivial (fun _ s => s.pick [0,1] [_,_] Z Z) ⟨f,(u1.trans u2).trans (u3.trans u4),hx2.up (u3.up.trans u4.up),hx4,hok⟩
  ·
   refine .al Fx.zero40 Z fun b5 => .h ?_ (.h ?_ .nn)
   ·
    refine .ct (X := List Value) Fx.call14 Z (fun W t => build_plan H p _ W h t.agr) Z fun x1 H1 hx1 u1 => .h ?_ (.h ?_ .nn)
    ·
     refine .ct (X := List Value) Fx.call10 Z (fun W t => syntax_any 100 (by decide) H1 (buildF p) (buildF_ok p) x1 W hx1 t.agr) Z fun x2 H2 hx2 u2 => .h ?_ (.h ?_ .nn)
     ·
      refine .ct (X := List Value) Fx.call8 Z (fun W t => spoilt_any H2 p l _ v0 W (h.up (u1.up.trans u2.up)) (hl.up (u1.up.trans u2.up)) t.agr) Z fun x3 H3 hc3 u3 => ?_
      obtain ⟨f,hf,hok⟩ := hc3
      refine .h ?_ (.h ?_ .nn)
      ·
       exact .ct (X := List Value) Fx.call10 Z (fun W t => syntax_any 50000 (by decide) H3 f hok x3 W hf t.agr) Z fun x4 H4 hx4 u4 => .h1<|.al Fx.zero40 Z fun b6 => .fn (tl := [_,_]) Z<|.sV (.tail<|.head) Z Z Fx.size40 (ft_len hx2) hx2.one Z<|.sV .head Z Z Fx.size40 (ft_len hx4) hx4.one Z<|.nt<|.me (b5,b6,H4,x2,x4) ⟨rfl,rfl,trivial⟩ trivial (fun _ s => s.pick [1,0] [_,_] Z Z) ⟨f,(u1.trans u2).trans (u3.trans u4),hx2.up (u3.up.trans u4.up),hx4,hok⟩
      exact .al Fx.zero40 Z fun b6 => .h1<|.ct (X := List Value) Fx.call10 Z (fun W t => syntax_any 50000 (by decide) H3 f hok x3 W hf t.agr) Z fun x4 H4 hx4 u4 => .fn (tl := [_,_]) Z<|.sV (.tail<|.head) Z Z Fx.size40 (ft_len hx2) hx2.one Z<|.sV .head Z Z Fx.size40 (ft_len hx4) hx4.one Z<|.nt<|.me (b5,b6,H4,x2,x4) ⟨rfl,rfl,trivial⟩ trivial (fun _ s => s.pick [1,0] [_,_] Z Z) ⟨f,(u1.trans u2).trans (u3.trans u4),hx2.up (u3.up.trans u4.up),hx4,hok⟩
     refine .al Fx.zero40 Z fun b6 => .h1<|.ct (X := List Value) Fx.call8 Z (fun W t => spoilt_any H2 p l _ v0 W (h.up (u1.up.trans u2.up)) (hl.up (u1.up.trans u2.up)) t.agr) Z fun x3 H3 hc3 u3 => ?_
     obtain ⟨f,hf,hok⟩ := hc3
     exact .h1<|.ct (X := List Value) Fx.call10 Z (fun W t => syntax_any 50000 (by decide) H3 f hok x3 W hf t.agr) Z fun x4 H4 hx4 u4 => .fn (tl := [_,_]) Z<|.sV (.tail<|.head) Z Z Fx.size40 (ft_len hx2) hx2.one Z<|.sV .head Z Z Fx.size40 (ft_len hx4) hx4.one Z<|.nt<|.me (b5,b6,H4,x2,x4) ⟨rfl,rfl,trivial⟩ trivial (fun _ s => s.pick [1,0] [_,_] Z Z) ⟨f,(u1.trans u2).trans (u3.trans u4),hx2.up (u3.up.trans u4.up),hx4,hok⟩
    refine .al Fx.zero40 Z fun b6 => .h1<|.ct (X := List Value) Fx.call10 Z (fun W t => syntax_any 100 (by decide) H1 (buildF p) (buildF_ok p) x1 W hx1 t.agr) Z fun x2 H2 hx2 u2 => .h1<|.ct (X := List Value) Fx.call8 Z (fun W t => spoilt_any H2 p l _ v0 W (h.up (u1.up.trans u2.up)) (hl.up (u1.up.trans u2.up)) t.agr) Z fun x3 H3 hc3 u3 => ?_
    obtain ⟨f,hf,hok⟩ := hc3
    exact .h1<|.ct (X := List Value) Fx.call10 Z (fun W t => syntax_any 50000 (by decide) H3 f hok x3 W hf t.agr) Z fun x4 H4 hx4 u4 => .fn (tl := [_,_]) Z<|.sV (.tail<|.head) Z Z Fx.size40 (ft_len hx2) hx2.one Z<|.sV .head Z Z Fx.size40 (ft_len hx4) hx4.one Z<|.nt<|.me (b5,b6,H4,x2,x4) ⟨rfl,rfl,trivial⟩ trivial (fun _ s => s.pick [1,0] [_,_] Z Z) ⟨f,(u1.trans u2).trans (u3.trans u4),hx2.up (u3.up.trans u4.up),hx4,hok⟩
   refine .al Fx.zero40 Z fun b6 => .h1<|.ct (X := List Value) Fx.call14 Z (fun W t => build_plan H p _ W h t.agr) Z fun x1 H1 hx1 u1 => .h1<|.ct (X := List Value) Fx.call10 Z (fun W t => syntax_any 100 (by decide) H1 (buildF p) (buildF_ok p) x1 W hx1 t.agr) Z fun x2 H2 hx2 u2 => .h1<|.ct (X := List Value) Fx.call8 Z (fun W t => spoilt_any H2 p l _ v0 W (h.up (u1.up.trans u2.up)) (hl.up (u1.up.trans u2.up)) t.agr) Z fun x3 H3 hc3 u3 => ?_
   obtain ⟨f,hf,hok⟩ := hc3
   exact .h1<|.ct (X := List Value) Fx.call10 Z (fun W t => syntax_any 50000 (by decide) H3 f hok x3 W hf t.agr) Z fun x4 H4 hx4 u4 => .fn (tl := [_,_]) Z<|.sV (.tail<|.head) Z Z Fx.size40 (ft_len hx2) hx2.one Z<|.sV .head Z Z Fx.size40 (ft_len hx4) hx4.one Z<|.nt<|.me (b5,b6,H4,x2,x4) ⟨rfl,rfl,trivial⟩ trivial (fun _ s => s.pick [1,0] [_,_] Z Z) ⟨f,(u1.trans u2).trans (u3.trans u4),hx2.up (u3.up.trans u4.up),hx4,hok⟩
  refine .al Fx.zero40 Z fun b6 => .h ?_ (.h ?_ .nn)
  ·
   refine .ct (X := List Value) Fx.call14 Z (fun W t => build_plan H p _ W h t.agr) Z fun x1 H1 hx1 u1 => .h ?_ (.h ?_ .nn)
   ·
    refine .ct (X := List Value) Fx.call10 Z (fun W t => syntax_any 100 (by decide) H1 (buildF p) (buildF_ok p) x1 W hx1 t.agr) Z fun x2 H2 hx2 u2 => .h ?_ (.h ?_ .nn)
    ·
     refine .ct (X := List Value) Fx.call8 Z (fun W t => spoilt_any H2 p l _ v0 W (h.up (u1.up.trans u2.up)) (hl.up (u1.up.trans u2.up)) t.agr) Z fun x3 H3 hc3 u3 => ?_
     obtain ⟨f,hf,hok⟩ := hc3
     refine .h ?_ (.h ?_ .nn)
     ·
      exact .ct (X := List Value) Fx.call10 Z (fun W t => syntax_any 50000 (by decide) H3 f hok x3 W hf t.agr) Z fun x4 H4 hx4 u4 => .h1<|.al Fx.zero40 Z fun b5 => .fn (tl := [_,_]) Z<|.sV .head Z Z Fx.size40 (ft_len hx2) hx2.one Z<|.sV (.tail<|.head) Z Z Fx.size40 (ft_len hx4) hx4.one Z<|.nt<|.me (b5,b6,H4,x2,x4) ⟨rfl,rfl,trivial⟩ trivial (fun _ s => s.pick [0,1] [_,_] Z Z) ⟨f,(u1.trans u2).trans (u3.trans u4),hx2.up (u3.up.trans u4.up),hx4,hok⟩
     exact .al Fx.zero40 Z fun b5 => .h1<|.ct (X := List Value) Fx.call10 Z (fun W t => syntax_any 50000 (by decide) H3 f hok x3 W hf t.agr) Z fun x4 H4 hx4 u4 => .fn (tl := [_,_]) Z<|.sV .head Z Z Fx.size40 (ft_len hx2) hx2.one Z<|.sV (.tail<|.head) Z Z Fx.size40 (ft_len hx4) hx4.one Z<|.nt<|.me (b5,b6,H4,x2,x4) ⟨rfl,rfl,trivial⟩ trivial (fun _ s => s.pick [0,1] [_,_] Z Z) ⟨f,(u1.trans u2).trans (u3.trans u4),hx2.up (u3.up.trans u4.up),hx4,hok⟩
    refine .al Fx.zero40 Z fun b5 => .h1<|.ct (X := List Value) Fx.call8 Z (fun W t => spoilt_any H2 p l _ v0 W (h.up (u1.up.trans u2.up)) (hl.up (u1.up.trans u2.up)) t.agr) Z fun x3 H3 hc3 u3 => ?_
    obtain ⟨f,hf,hok⟩ := hc3
    exact .h1<|.ct (X := List Value) Fx.call10 Z (fun W t => syntax_any 50000 (by decide) H3 f hok x3 W hf t.agr) Z fun x4 H4 hx4 u4 => .fn (tl := [_,_]) Z<|.sV .head Z Z Fx.size40 (ft_len hx2) hx2.one Z<|.sV (.tail<|.head) Z Z Fx.size40 (ft_len hx4) hx4.one Z<|.nt<|.me (b5,b6,H4,x2,x4) ⟨rfl,rfl,trivial⟩ trivial (fun _ s => s.pick [0,1] [_,_] Z Z) ⟨f,(u1.trans u2).trans (u3.trans u4),hx2.up (u3.up.trans u4.up),hx4,hok⟩
   refine .al Fx.zero40 Z fun b5 => .h1<|.ct (X := List Value) Fx.call10 Z (fun W t => syntax_any 100 (by decide) H1 (buildF p) (buildF_ok p) x1 W hx1 t.agr) Z fun x2 H2 hx2 u2 => .h1<|.ct (X := List Value) Fx.call8 Z (fun W t => spoilt_any H2 p l _ v0 W (h.up (u1.up.trans u2.up)) (hl.up (u1.up.trans u2.up)) t.agr) Z fun x3 H3 hc3 u3 => ?_
   obtain ⟨f,hf,hok⟩ := hc3
   exact .h1<|.ct (X := List Value) Fx.call10 Z (fun W t => syntax_any 50000 (by decide) H3 f hok x3 W hf t.agr) Z fun x4 H4 hx4 u4 => .fn (tl := [_,_]) Z<|.sV .head Z Z Fx.size40 (ft_len hx2) hx2.one Z<|.sV (.tail<|.head) Z Z Fx.size40 (ft_len hx4) hx4.one Z<|.nt<|.me (b5,b6,H4,x2,x4) ⟨rfl,rfl,trivial⟩ trivial (fun _ s => s.pick [0,1] [_,_] Z Z) ⟨f,(u1.trans u2).trans (u3.trans u4),hx2.up (u3.up.trans u4.up),hx4,hok⟩
  refine .al Fx.zero40 Z fun b5 => .h1<|.ct (X := List Value) Fx.call14 Z (fun W t => build_plan H p _ W h t.agr) Z fun x1 H1 hx1 u1 => .h1<|.ct (X := List Value) Fx.call10 Z (fun W t => syntax_any 100 (by decide) H1 (buildF p) (buildF_ok p) x1 W hx1 t.agr) Z fun x2 H2 hx2 u2 => .h1<|.ct (X := List Value) Fx.call8 Z (fun W t => spoilt_any H2 p l _ v0 W (h.up (u1.up.trans u2.up)) (hl.up (u1.up.trans u2.up)) t.agr) Z fun x3 H3 hc3 u3 => ?_
  obtain ⟨f,hf,hok⟩ := hc3
  exact .h1<|.ct (X := List Value) Fx.call10 Z (fun W t => syntax_any 50000 (by decide) H3 f hok x3 W hf t.agr) Z fun x4 H4 hx4 u4 => .fn (tl := [_,_]) Z<|.sV .head Z Z Fx.size40 (ft_len hx2) hx2.one Z<|.sV (.tail<|.head) Z Z Fx.size40 (ft_len hx4) hx4.one Z<|.nt<|.me (b5,b6,H4,x2,x4) ⟨rfl,rfl,trivial⟩ trivial (fun _ s => s.pick [0,1] [_,_] Z Z) ⟨f,(u1.trans u2).trans (u3.trans u4),hx2.up (u3.up.trans u4.up),hx4,hok⟩
 obtain ⟨b5,b6,H4,y1,y2⟩ := z
 obtain ⟨f,u4,hy1,hy2,hok⟩ := hC
 dsimp only at u4 hy1 hy2 ⊢
 refine .sq<|.sr<|.yv (.loadW Z Fx.agg40 (.head _) (ft_len hy1)) Z<|.yv (.call Fx.call9 Z (fun W t => check_any H4 (G.up u4.up) (buildF p) y1 hy1 (evH_ok (by decide) (buildF_ok p)) W t.agr)) Z<|.yv (.neq Z Z) Z<|.nt<|.cd Z (fun h18 => ?_) (fun h18 => ?_)
 ·try simp only [dt] at h18
  exact absurd (by rw [buildF_good];rfl) h18
 try simp only [df] at h18
 refine .sk<|.tN<|.sq<|.sr<|.yv (.loadW Z Fx.agg40 (.tail _<|.head _) (ft_len hy2)) Z<|.yv (.call Fx.call9 Z (fun W t => check_any H4 (G.up u4.up) f y2 hy2 (evH_ok (by decide) hok) W t.agr)) Z<|.yv (.neq Z Z) Z<|.nt<|.cd Z (fun h21 => ?_) (fun h21 => ?_)
 ·try simp only [dt] at h21
  have hck : ¬ checkF f = 0 := fun e => h21 (by rw [e];rfl)
  refine .sr<|.yv (.loadW Z Fx.agg40 (.tail _<|.head _) (ft_len hy2)) Z<|.yv (.cast (v' := strV []) (.call Fx.call13 Z (fun W t => print_any H4 (G.up u4.up) (g.up u4.up) f y2 hy2 (evH_ok (by decide) hok) (fun h => ftT_len hok h) W t.agr)) (by rw [if_neg hck])) Z<|.yv (.cast (v' := .bool true) (.eqS Z Z) Z) Z<|.a Z Z<|.nt<|.rt<|.tR<|?_
  exact Sx.ret1 (.inl rfl) rfl (.tmp rfl) fun W t => ⟨rfl,(u4.grow t).ext⟩
 try simp only [df] at h21
 have hck : checkF f = 0 := by omega
 refine .sk<|.tN<|.sq<|.fl (trip := [(_,_,_),(_,_,_),(_,_,_),(_,_,_),(_,_,_),(_,_,_),(_,_,_),(_,_,_),(_,_,_)]) 9 [(0,0),(1,0),(2,0),(3,0),(4,0),(5,0),(6,0),(7,0),(8,0)] (by kernel_rfl) (by kernel_rfl) Z<|.yv (.loadW Z Fx.agg40 (.head _) (ft_len hy1)) Z<|.yv (.cast (v' := strV (ftT (buildF p))) (.call Fx.call13 Z (fun W t => print_any H4 (G.up u4.up) (g.up u4.up) (buildF p) y1 hy1 (evH_ok (by decide) (buildF_ok p)) (fun h => ftT_len ((buildF_ok p).mono (by omega)) h) W t.agr)) (by rw [if_pos (buildF_good p)])) Z<|.yv (.loadW Z Fx.agg40 (.tail _<|.head _) (ft_len hy2)) Z<|.yv (.cast (v' := strV (ftT f)) (.call Fx.call13 Z (fun W t => print_any H4 (G.up u4.up) (g.up u4.up) f y2 hy2 (evH_ok (by decide) hok) (fun h => ftT_len hok h) W t.agr)) (by rw [if_pos hck])) Z<|.yv (.eqS Z Z) Z<|.yv (.loadW Z Fx.agg40 (.head _) (ft_len hy1)) Z<|.yv (.loadW Z Fx.agg40 (.tail _<|.head _) (ft_len hy2)) Z<|.yv (.call Fx.call15 Z (fun W t => equal_any H4 (buildF p) f y1 y2 W hy1 hy2 t.agr)) Z<|.yv (.cast (v' := .bool true) (.eqlB Fx.bool4 Z Z) (by rw [ftT_dec (buildF_good p) hck];simp)) Z<|.fn (tl := [_]) Z<|.a Z Z<|.nt<|.rt<|?_
 exact Sx.ret1 (.inl rfl) rfl (.tmp rfl) fun W t => ⟨rfl,(u4.grow t).ext⟩
variable {H : Type} {enc : TypeId × Value → H}
theorem wrap {a : Assume} {C : Checked} {os : Os} {f : FuncId} {fn : Func} {s : ChangeSpec} {conds : List PathCond} {apart fresh handsOn again : Bool} {X : World → Array Value → Prop}
 (hX : ∀ (w w' : World) (args : Array Value),w.heap = w'.heap → X w args → X w' args)
 (own : ownKnob C.prog.godebug = none) (started : os.Started) (noInit : C.prog.inits.idxOf? f = none) (hfn : C.prog.funcs[f]? = some fn)
 (witness : ∃ (w : World) (tape : Tape) (i : Input),w.os = os ∧ (w.forCall tape i).Shaped C.prog ∧ i.vars = [] ∧ Input.okWide C.prog (w.forCall tape i) .any w.heap.size f i ∧
  ((s.pre enc C.prog fn conds apart (w.forCall tape i).memory i.args ∧ X (w.forCall tape i).memory i.args) ∧ sizedMet enc C.prog fn (OpenSpec.ofChange s) apart (w.forCall tape i).memory i.args) ∧ a.holds C.prog (lone (Frame.enter C.prog f i.args .normal) [] (w.forCall tape i)))
 (contract : ∀ (W : World) (base : Nat) (args : Array Value) (ds gs : List (DataW H)) (before : List MemPlace),
  (∀ (j : Nat) t v,fn.params[j]? = some t → args[j]? = some v → Value.okWide C.prog W .any base t v) →
  DataW.Whole enc C.prog fn.params.toList s.vars apart W args.toList ds gs before →
  X W args → W.ShapedOpen C.prog →
  Calls C.prog f args W fun e W' => ∃ v,e = .returned v ∧ s.post enc C.prog fn apart fresh handsOn again W args v W') :
 ReturnsInHanded a C os f .any (fun w args => (s.pre enc C.prog fn conds apart w args ∧ X w args) ∧ sizedMet enc C.prog fn (OpenSpec.ofChange s) apart w args) (s.post enc C.prog fn apart fresh handsOn again) := by
 refine returnsInHanded_of_calls own started noInit witness ?_
 intro w tape i _ hsh _ hok hpre _
 obtain ⟨_,_,_,fn',hfn',_,_,_,_,hval⟩ := hok
 have e : fn' = fn := Option.some.inj (hfn'.symm.trans hfn)
 subst e
 obtain ⟨⟨⟨ds,gs,before,hw,_⟩,hx⟩,_⟩ := hpre
 have hw' := DataW.Whole.of_heap (w' := w.forCall tape i) (by rfl) hw
 refine (contract (w.forCall tape i) w.heap.size i.args ds gs before hval hw' (hX _ _ _ (by rfl) hx) hsh).mono fun e W' ⟨v,he,hp⟩ => ?_
 subst he
 exact ChangeSpec.post_blind hp

theorem own : ownKnob Tryz.prog.godebug = none := by kernel_rfl
def laids : List (String × DataW Unit) := [("math/bits.deBruijn32tab",Rows.laid_math_bits_deBruijn32tab),("math/bits.deBruijn64tab",Rows.laid_math_bits_deBruijn64tab),("internal/strconv.uint64pow10",Rows.laid_internal_strconv_uint64pow10),("rootcause/lexer.words",Rows.laid_rootcause_lexer_words),("rootcause/lexer.symbols",Rows.laid_rootcause_lexer_symbols),("rootcause/syntax.shapes",Rows.laid_rootcause_syntax_shapes),("rootcause/syntax.forms",Rows.laid_rootcause_syntax_forms)]
theorem gTab : Tryz.prog.globalNamed "internal/strconv.uint64pow10" = some 4 := by kernel_rfl
theorem gTabT : (Tryz.prog.globals[4]?).map (·.type) = some 237 := by kernel_rfl
theorem cellsTab : Tryz.prog.cellsOf 237 = 20 := by kernel_rfl
theorem cellsTabE : Tryz.prog.cellsOf 139 = 1 := by kernel_rfl
theorem tabEq : (Rows.laid_internal_strconv_uint64pow10 : DataW Unit) = Lib.tabData .u64 Lib.pow10Tab := by kernel_rfl
theorem gt_of {W : World} (h : laidMet Tryz.prog laids W) : Gt (allH W) := by
 intro W' hA
 have h1 : Lib.TabIs Tryz.prog W "internal/strconv.uint64pow10" .u64 Lib.pow10Tab := Lib.tabIs_of_head gTab gTabT Tryz.underlying237 Tryz.underlying139 cellsTabE cellsTab (tabEq ▸ h.tail.tail)
 unfold Lib.TabIs World.var? at *
 rw [gTab] at *
 simp only [Option.bind_some] at *
 split at h1
 ·rename_i cs T m hb
  rw [hA 4 _ hb]
  exact h1
 ·cases h1
theorem gl_of {W : World} (h : laidMet Tryz.prog laids W) : Gl (allH W) :=
 ⟨laid_mem (t := 213) (.arr 24 (.str [.int .i64,.bool,.int .i64,.strg])) _ (by kernel_rfl) (by kernel_rfl) (by kernel_rfl) (by kernel_rfl) (by kernel_rfl) h.tail.tail.tail.tail.tail,
  laid_mem (t := 218) (.arr 11 (.str [.bool,.bool,.int .i64,.int .i64,.bool,.bool])) _ (by kernel_rfl) (by kernel_rfl) (by kernel_rfl) (by kernel_rfl) (by kernel_rfl) h.tail.tail.tail.tail.tail.tail,
  laid_mem (t := 233) (.arr 39 .strg) _ (by kernel_rfl) (by kernel_rfl) (by kernel_rfl) (by kernel_rfl) (by kernel_rfl) h.tail.tail.tail,
  laid_mem (t := 216) (.arr 25 .strg) _ (by kernel_rfl) (by kernel_rfl) (by kernel_rfl) (by kernel_rfl) (by kernel_rfl) h.tail.tail.tail.tail⟩
theorem laid_met (os : Os) (args : Array Value) : laidMet Tryz.prog laids ((World.laidAll Tryz.prog os laids).forCall (fun _ _ => 0) ⟨#[],args,[]⟩).memory :=
 laidMet_laidAll _ (by kernel_rfl) (by kernel_rfl)
theorem laid_shaped (os : Os) (args : Array Value) : ((World.laidAll Tryz.prog os laids).forCall (fun _ _ => 0) ⟨#[],args,[]⟩).Shaped Tryz.prog :=
 World.shaped_of_ZipB (by kernel_rfl) (by kernel_rfl)
theorem ext_kept {W W' : World} (h : Ext W W') : ∀ may,W.keptBut W' may := fun may => (Ext.below h).frame may
theorem laidOut : laidOutB Tryz.prog = true := by kernel_rfl
end Go.Proofs.YtmbiojpcidccjaaGreatDoor
