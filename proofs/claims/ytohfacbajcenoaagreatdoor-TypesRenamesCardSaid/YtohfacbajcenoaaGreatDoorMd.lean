/- Texts of the proof, one behind the other. -/
import Derived.Test.YtohfacbajcenoaaGreatDoorMc
set_option linter.all false
set_option maxRecDepth 100000
namespace Go.Proofs.YtohfacbajcenoaaGreatDoor
open Go.RowKit Go.Par Go.Sx
def tA (f : Ex → Tr) (l : List Ex) (k : Nat) : UInt8 := fstT ((l.take k).map f)
def sA (f : Ex → Tr) (l : List Ex) (k : Nat) : Bool := ((l.take k).map f).all fun r => decide (r.ty = tA f l k)
theorem tA_first {f : Ex → Tr} {l : List Ex} {k : Nat} {x : Ex} (h : k < l.length) (hx : l[k] = x) (h0 : k = 0) : tA f l (k + 1) = (f x).ty := by
 subst h0;subst hx;cases l with
 | nil => cases h
 | cons a r => rfl
theorem tA_next {f : Ex → Tr} {l : List Ex} {k : Nat} (hk : ¬ k = 0) : tA f l (k + 1) = tA f l k := by
 cases k with
 | zero => exact absurd rfl hk
 | succ k => cases l <;> rfl
theorem sA_next {f : Ex → Tr} {l : List Ex} {k : Nat} {x : Ex} (hk : k < l.length) (hx : l[k] = x) : sA f l (k + 1) = (sA f l k && decide (((tA f l (k + 1)).toNat : Int) = ((f x).ty.toNat : Nat))) := by
 have e : sA f l (k + 1) = (((l.take k).map f).all (fun r => decide (r.ty = tA f l (k + 1))) && decide ((f x).ty = tA f l (k + 1))) := by
  unfold sA;rw [take_snoc hk,List.map_append,List.all_append,hx];simp
 rw [e]
 have e2 : decide (((tA f l (k + 1)).toNat : Int) = ((f x).ty.toNat : Nat)) = decide ((f x).ty = tA f l (k + 1)) := by
  rw [decide_eq_decide,u8e];exact eq_comm
 rw [e2]
 by_cases h0 : k = 0
 ·subst h0;simp [sA]
 ·rw [tA_next h0];rfl
theorem fstE_none {l : List Tr} (h : ∀ r ∈ l,r.er = 0) : fstE l = none := List.find?_eq_none.2 fun r hr => by simp [h r hr]
theorem fstE_at {f : Ex → Tr} {l : List Ex} {k : Nat} {x : Ex} (hk : k < l.length) (hx : l[k] = x) (h : ∀ r ∈ (l.take k).map f,r.er = 0) (hb : ¬ (f x).er = 0) : fstE (l.map f) = some (f x) := by
 have e : l = l.take k ++ x :: l.drop (k + 1) := by
  rw [← hx,← List.drop_eq_getElem_cons hk,List.take_append_drop]
 rw [e,fstE,List.map_append,List.map_cons,List.find?_append,List.find?_eq_none.2 (fun r hr => by simp [h r hr]),List.find?_cons,decide_eq_true hb]
 rfl
theorem er_snoc {f : Ex → Tr} {l : List Ex} {k : Nat} {x : Ex} (hk : k < l.length) (hx : l[k] = x) (h : ∀ r ∈ (l.take k).map f,r.er = 0) (hb : (f x).er = 0) : ∀ r ∈ (l.take (k + 1)).map f,r.er = 0 := by
 rw [take_snoc hk,List.map_append,hx];intro r hr;rcases List.mem_append.1 hr with hr | hr
 ·exact h r hr
 ·simp at hr;rw [hr];exact hb
theorem alike_bad {l : List Tr} {r : Tr} (h : fstE l = some r) : alikeT l = ⟨0,r.nm,r.er⟩ := by unfold alikeT;rw [h]
theorem alike_good {f : Ex → Tr} {l : List Ex} (h : ∀ r ∈ (l.take l.length).map f,r.er = 0) : alikeT (l.map f) = if sA f l l.length then ⟨tA f l l.length,[],0⟩ else ⟨0,[],10⟩ := by
 unfold sA tA at *;rw [List.take_length] at *;unfold alikeT;rw [fstE_none h]
abbrev TyFn (H : Hp) (sc : List Value) (f : Ex → Tr) (e : Ex) : Prop := ∀ (cs : List Value) (w : World),Rep H (dEx .u8 e) cs → Agr H w → Calls Tryz.prog 44 #[.agg sc.toArray,.agg cs.toArray] w fun r w' => r = .returned (tr3 (f e)) ∧ Ext w w'
set_option maxRecDepth 100000 in
theorem alike_any (H : Hp) (x1 x2 x3 : Value) (f : Ex → Tr) (l : List Ex) (hf : ∀ e ∈ l,TyFn H [x1,x2,x3] f e) (p : Option Addr) (c : Nat) (hs : Rep H (.seq 4 (l.map (dEx .u8))) [.slice p l.length c]) (w : World) (hA : Agr H w) :
 Calls Tryz.prog 77 #[.agg [x1,x2,x3].toArray,.slice p l.length c] w fun r w' => r = .returned (tr3 (alikeT (l.map f))) ∧ Ext w w' := by
 have hcap := hs.cap;refine Sx.enter (H := H) Tryz.func77 rfl Tryz.ntmps77 rfl hA ?_;refine .sr<|.bx Z Z Z fun b2 => .a Z Z<|.a Z Z<|.a Z Z<|.ns<|.a Z Z<|.nt<|.sq<|.sr<|.m Z Z<|.yv (.lenSl Fx.sl66 Z) Z<|.m Z Z<|.nt<|.bk<|.lp (X := Nat) [(2,_),(13,_),(14,_)] ⟨rfl,rfl,rfl,trivial⟩ [_] (fun k => [(15,.int .i64 (k : Nat)),(4,.int .u8 (tA f l k).toNat),(7,.bool (sA f l k))]) (fun k => H) (fun k => []) (fun k => k ≤ l.length ∧ ∀ r ∈ (l.take k).map f,r.er = 0) (fun k => l.length - k) 0 (fun _ s => s) ⟨rfl,rfl,rfl,trivial⟩ ⟨by omega,fun _ h => (by cases h)⟩ fun k hC => ?_
 obtain ⟨hk0,hal⟩ := hC;refine .sr<|.yv (.lss Z Z) Z<|.nt<|.sq<|.cd Z (fun h16 => ?_) (fun h16 => ?_)
 ·try simp only [dt] at h16
  have hk : k < l.length := by omega
  obtain ⟨bE,oE,cE,hpE,rE,lE,mE⟩ := hs.elem (map_at (f := dEx .u8) hk);cases hpE;generalize hxE : l[k] = xE at rE;refine .sk<|.tN<|.sq<|.bk<|.sr<|.m Z Z<|.yv (.indexSl Fx.sl66 Z Z Z (by omega) (q := oE + k * 4) Z) Z<|.yv (.loadMW Z Fx.agg68 mE lE) Z<|.al Fx.zero68 Z fun b9 => .a Z Z<|.sV .head Z Z Fx.size68 lE rE.one Z<|.ns<|.yv (.loadW Z Fx.agg134 (.tail _<|.head _) Z) Z<|.yv (.loadW Z Fx.agg68 (.head _) lE) Z<|.yv (.call Fx.call44 Z (fun W s => hf xE (hxE ▸ List.getElem_mem hk) cE W rE s.agr)) Z<|.m Z Z<|.yv (.extract Z Z) Z<|.yv (.extract Z Z) Z<|.yv (.extract Z Z) Z<|.a Z Z<|.a Z Z<|.a Z Z<|.nt<|.sq<|.sr<|.m Z Z<|.yv (.neq Z Z) Z<|.nt<|.cd Z (fun h28 => ?_) (fun h28 => ?_)
  ·have he : ¬ (f xE).er = 0 := by have := of_decide_eq_true h28;omega
   refine .sr<|.m Z Z<|.m Z Z<|.a Z Z<|.a Z Z<|.a Z Z<|.nt<|.rt<|.tR<|.bR<|.tR<|.tR<|.bR<|.tR<|?_
   refine Sx.retN (.inl rfl) rfl (.cons (.tmp rfl) (.cons (.tmp rfl) (.cons (.tmp rfl) .nil))) rfl fun W s => ⟨?_,s.ext⟩
   first
    | (rw [alike_bad (fstE_at hk hxE hal he)];rfl)
    | (rw [alike_good hal,if_neg hsa];rfl)
    | (rw [alike_good hal,if_pos hsa];rfl)
  have he : (f xE).er = 0 := by have := of_decide_eq_false h28;omega
  refine .sk<|.tN<|.sq<|.sr<|.m Z Z<|.yv (.eql Z Z) Z<|.nt<|.cd Z (fun h32 => ?_) (fun h32 => ?_)
  ·have hk1 : k = 0 := by have := of_decide_eq_true h32;omega
   have e4 := tA_first (f := f) hk hxE hk1;have e7 := sA_next (f := f) hk hxE;refine .rg<|.m Z Z<|.a Z Z<|.nt<|.rg<|.m Z Z<|.m Z Z<|.b2 (fun h35 => ?_) (fun h35 => ?_)
   ·rw [h35,Bool.true_and,e4] at e7;exact .gd Z Z<|.yv (.move Z) Z<|.gd Z Z<|.yv (.move Z) Z<|.gd Z Z<|.yv (.eql Z Z) Z<|.yv (.pickT Z Z) Z<|.a Z Z<|.nl<|.bN<|.tN<|.rg<|.yv (.add Z Z (w6 (by omega))) Z<|.m Z Z<|.nt<|.ag (k + 1) ⟨rfl,congrArg (fun q : UInt8 => some (Value.int .u8 q.toNat)) e4.symm,congrArg (fun q => some (Value.bool q)) e7.symm,trivial⟩ ⟨rfl,rfl,rfl,trivial⟩ (fun _ s => s.pick [1] [_] Z Z) ⟨by omega,er_snoc hk hxE hal he⟩ (by omega)
   rw [h35,Bool.false_and] at e7;exact .gF Z Z Z Z<|.gF Z Z Z Z<|.gF Z Z Z Z<|.yv (.pickF Z Z) Z<|.a Z Z<|.nl<|.bN<|.tN<|.rg<|.yv (.add Z Z (w6 (by omega))) Z<|.m Z Z<|.nt<|.ag (k + 1) ⟨rfl,congrArg (fun q : UInt8 => some (Value.int .u8 q.toNat)) e4.symm,congrArg (fun q => some (Value.bool q)) e7.symm,trivial⟩ ⟨rfl,rfl,rfl,trivial⟩ (fun _ s => s.pick [1] [_] Z Z) ⟨by omega,er_snoc hk hxE hal he⟩ (by omega)
  have hk1 : ¬ k = 0 := by have := of_decide_eq_false h32;omega
  have e4 := tA_next (f := f) (l := l) hk1;have e7 := sA_next (f := f) hk hxE;refine .sk<|.tN<|.rg<|.m Z Z<|.m Z Z<|.b2 (fun h35 => ?_) (fun h35 => ?_)
  ·rw [h35,Bool.true_and,e4] at e7;exact .gd Z Z<|.yv (.move Z) Z<|.gd Z Z<|.yv (.move Z) Z<|.gd Z Z<|.yv (.eql Z Z) Z<|.yv (.pickT Z Z) Z<|.a Z Z<|.nl<|.bN<|.tN<|.rg<|.yv (.add Z Z (w6 (by omega))) Z<|.m Z Z<|.nt<|.ag (k + 1) ⟨rfl,congrArg (fun q : UInt8 => some (Value.int .u8 q.toNat)) e4.symm,congrArg (fun q => some (Value.bool q)) e7.symm,trivial⟩ ⟨rfl,rfl,rfl,trivial⟩ (fun _ s => s.pick [1] [_] Z Z) ⟨by omega,er_snoc hk hxE hal he⟩ (by omega)
  rw [h35,Bool.false_and] at e7;exact .gF Z Z Z Z<|.gF Z Z Z Z<|.gF Z Z Z Z<|.yv (.pickF Z Z) Z<|.a Z Z<|.nl<|.bN<|.tN<|.rg<|.yv (.add Z Z (w6 (by omega))) Z<|.m Z Z<|.nt<|.ag (k + 1) ⟨rfl,congrArg (fun q : UInt8 => some (Value.int .u8 q.toNat)) e4.symm,congrArg (fun q => some (Value.bool q)) e7.symm,trivial⟩ ⟨rfl,rfl,rfl,trivial⟩ (fun _ s => s.pick [1] [_] Z Z) ⟨by omega,er_snoc hk hxE hal he⟩ (by omega)
 try simp only [df] at h16
 obtain rfl : k = l.length := by omega
 refine .ex<|.tE<|.tE<|.bE<|.tN<|.sq<|.sr<|.m Z Z<|.yv (.not Z) Z<|.nt<|.cd Z (fun h42 => ?_) (fun h42 => ?_)
 ·have hsa : ¬ sA f l l.length = true := by simpa using h42
  refine .sr<|.a Z Z<|.a Z Z<|.a Z Z<|.nt<|.rt<|.tR<|?_
  refine Sx.retN (.inl rfl) rfl (.cons (.tmp rfl) (.cons (.tmp rfl) (.cons (.tmp rfl) .nil))) rfl fun W s => ⟨?_,s.ext⟩
  first
   | (rw [alike_bad (fstE_at hk hxE hal he)];rfl)
   | (rw [alike_good hal,if_neg hsa];rfl)
   | (rw [alike_good hal,if_pos hsa];rfl)
 have hsa : sA f l l.length = true := by simpa using h42
 refine .sk<|.tN<|.sr<|.m Z Z<|.a Z Z<|.a Z Z<|.a Z Z<|.nt<|.rt<|?_
 refine Sx.retN (.inl rfl) rfl (.cons (.tmp rfl) (.cons (.tmp rfl) (.cons (.tmp rfl) .nil))) rfl fun W s => ⟨?_,s.ext⟩
 first
  | (rw [alike_bad (fstE_at hk hxE hal he)];rfl)
  | (rw [alike_good hal,if_neg hsa];rfl)
  | (rw [alike_good hal,if_pos hsa];rfl)
def tyCut (s : Sc) (op : UInt8) (nm : Str) (a : Tr) (z : UInt8 × UInt8) : Prop := tyOp s op nm a = if ¬ a.ty = z.1 then ⟨0,[],10⟩ else if op = 6 ∨ op = 7 then wrongT z.2 nm (tableT s nm) else ⟨z.2,[],0⟩
theorem tyCut_of {s : Sc} {op : UInt8} {nm : Str} {a : Tr} {z : UInt8 × UInt8} (he : a.er = 0) (h1 : ¬ (op = 1 ∨ op = 4)) (h2 : ¬ (op = 2 ∨ op = 3)) (h5 : ¬ op = 5) (h8 : ¬ op = 8) (hn : needT_ op a.ty = z.1) (hr : resT op = z.2) : tyCut s op nm a z := by
 unfold tyCut tyOp;rw [if_neg (Decidable.not_not.2 he),if_neg h1,if_neg h2,if_neg h5,if_neg h8,hn,hr]
set_option maxRecDepth 100000 in
theorem typeOf_of (H : Hp) (sc : Sc) (x1 x2 x3 : Value) (hsc : ScR H sc [x1,x2,x3]) (op : UInt8) (nm : Str) (nn : Int64) (args : List Ex) (p : Option Addr) (c : Nat) (a : Tr) (hal : ∀ w,Agr H w → Calls Tryz.prog 77 #[.agg [x1,x2,x3].toArray,.slice p args.length c] w fun r w' => r = .returned (tr3 a) ∧ Ext w w') (w : World) (hA : Agr H w) :
 Calls Tryz.prog 44 #[.agg [x1,x2,x3].toArray,.agg [.int .u8 op.toNat,strV nm,.int .i64 nn.toInt,.slice p args.length c].toArray] w fun r w' => r = .returned (tr3 (tyOp sc op nm a)) ∧ Ext w w' := by
 refine Sx.enter (H := H) Tryz.func44 rfl Tryz.ntmps44 rfl hA ?_;refine .sr<|.bx Z Z Z fun b2 => .bx Z Z Z fun b3 => .a Z Z<|.a Z Z<|.a Z Z<|.ns<|.yv (.loadW Z Fx.agg134 (.tail _<|.head _) Z) Z<|.yv (.fieldAddr Z Fx.field68_3) Z<|.yv (.load Z Fx.agg66 (.head _) Z) Z<|.yv (.call Fx.call77 Z (fun W s => hal W s.agr)) Z<|.m Z Z<|.yv (.extract Z Z) Z<|.yv (.extract Z Z) Z<|.yv (.extract Z Z) Z<|.a Z Z<|.a Z Z<|.a Z Z<|.nt<|.sq<|.sr<|.m Z Z<|.yv (.neq Z Z) Z<|.nt<|.cd Z (fun h18 => ?_) (fun h18 => ?_)
 ·have he : ¬ a.er = 0 := by have := of_decide_eq_true h18;omega
  refine .sr<|.m Z Z<|.m Z Z<|.a Z Z<|.a Z Z<|.a Z Z<|.nt<|.rt<|.tR<|?_
  refine Sx.retN (.inl rfl) rfl (.cons (.tmp rfl) (.cons (.tmp rfl) (.cons (.tmp rfl) .nil))) rfl fun W s => ⟨?_,s.ext⟩
  first
   | (rw [tyOp,if_pos he];rfl)
   | (rw [hT,if_neg (Decidable.not_not.2 hn),if_neg (by simp [h6,h7])];rfl)
   | (rw [hT,if_pos hn];rfl)
   | (rw [hT,if_neg (Decidable.not_not.2 hn),if_pos (Or.inl h6)])
   | (rw [hT,if_neg (Decidable.not_not.2 hn),if_pos (Or.inr h7)])
   | (obtain rfl := e24;rw [tyOp,if_neg (Decidable.not_not.2 he)];rfl)
   | (obtain rfl := e25;rw [tyOp,if_neg (Decidable.not_not.2 he)];rfl)
   | (obtain rfl := e27;rw [tyOp,if_neg (Decidable.not_not.2 he)];rfl)
   | (obtain rfl := e28;rw [tyOp,if_neg (Decidable.not_not.2 he)];rfl)
   | (obtain rfl := e30;rw [tyOp,if_neg (Decidable.not_not.2 he)];rfl)
   | (obtain rfl := e48;rw [tyOp,if_neg (Decidable.not_not.2 he)];rfl)
 have he : a.er = 0 := by have := of_decide_eq_false h18;omega
 refine .sk<|.tN<|.sr<|.a Z Z<|.a Z Z<|.nt<|.cu (X := UInt8 × UInt8) [(2,_),(3,_)] ⟨rfl,rfl,trivial⟩ (fun z => [(4,.int .u8 a.ty.toNat),(7,.int .u8 z.1.toNat),(8,.int .u8 z.2.toNat)]) (fun z => H) (fun z => [.box b3 [.int .u8 op.toNat,strV nm,.int .i64 nn.toInt,.slice p args.length c] 68,.box b2 [x1,x2,x3] 134]) (fun z => tyCut sc op nm a z) ?_ fun z hC => ?_
 ·
  refine .sr<|.yv (.fieldAddr Z Fx.field68_0) Z<|.yv (.load Z Fx.agg65 (.head _) Z) Z<|.nt<|.bk<|.sq<|.sr<|.yv (.eql Z Z) Z<|.a Z Z<|.nt<|.cr Z (fun h23 => ?_) (fun h23 => ?_)
  ·have e24 : op = 1 := (u8n (k := 1) (by decide)).1 (of_decide_eq_true h23);refine .sk<|.tN<|.cT Z<|.sr<|.a Z Z<|.a Z Z<|.a Z Z<|.nt<|.rt<|.bR<|.tR<|?_
   refine Sx.retN (.inl rfl) rfl (.cons (.tmp rfl) (.cons (.tmp rfl) (.cons (.tmp rfl) .nil))) rfl fun W s => ⟨?_,s.ext⟩
   first
    | (rw [tyOp,if_pos he];rfl)
    | (rw [hT,if_neg (Decidable.not_not.2 hn),if_neg (by simp [h6,h7])];rfl)
    | (rw [hT,if_pos hn];rfl)
    | (rw [hT,if_neg (Decidable.not_not.2 hn),if_pos (Or.inl h6)])
    | (rw [hT,if_neg (Decidable.not_not.2 hn),if_pos (Or.inr h7)])
    | (obtain rfl := e24;rw [tyOp,if_neg (Decidable.not_not.2 he)];rfl)
    | (obtain rfl := e25;rw [tyOp,if_neg (Decidable.not_not.2 he)];rfl)
    | (obtain rfl := e27;rw [tyOp,if_neg (Decidable.not_not.2 he)];rfl)
    | (obtain rfl := e28;rw [tyOp,if_neg (Decidable.not_not.2 he)];rfl)
    | (obtain rfl := e30;rw [tyOp,if_neg (Decidable.not_not.2 he)];rfl)
    | (obtain rfl := e48;rw [tyOp,if_neg (Decidable.not_not.2 he)];rfl)
  have e24 : ¬ op = 1 := fun e => of_decide_eq_false h23 ((u8n (k := 1) (by decide)).2 e);refine .rg<|.yv (.eql Z Z) Z<|.a Z Z<|.nt<|.cr Z (fun h23 => ?_) (fun h23 => ?_)
  ·have e25 : op = 4 := (u8n (k := 4) (by decide)).1 (of_decide_eq_true h23);refine .sr<|.a Z Z<|.a Z Z<|.a Z Z<|.nt<|.rt<|.bR<|.tR<|?_
   refine Sx.retN (.inl rfl) rfl (.cons (.tmp rfl) (.cons (.tmp rfl) (.cons (.tmp rfl) .nil))) rfl fun W s => ⟨?_,s.ext⟩
   first
    | (rw [tyOp,if_pos he];rfl)
    | (rw [hT,if_neg (Decidable.not_not.2 hn),if_neg (by simp [h6,h7])];rfl)
    | (rw [hT,if_pos hn];rfl)
    | (rw [hT,if_neg (Decidable.not_not.2 hn),if_pos (Or.inl h6)])
    | (rw [hT,if_neg (Decidable.not_not.2 hn),if_pos (Or.inr h7)])
    | (obtain rfl := e24;rw [tyOp,if_neg (Decidable.not_not.2 he)];rfl)
    | (obtain rfl := e25;rw [tyOp,if_neg (Decidable.not_not.2 he)];rfl)
    | (obtain rfl := e27;rw [tyOp,if_neg (Decidable.not_not.2 he)];rfl)
    | (obtain rfl := e28;rw [tyOp,if_neg (Decidable.not_not.2 he)];rfl)
    | (obtain rfl := e30;rw [tyOp,if_neg (Decidable.not_not.2 he)];rfl)
    | (obtain rfl := e48;rw [tyOp,if_neg (Decidable.not_not.2 he)];rfl)
  have e25 : ¬ op = 4 := fun e => of_decide_eq_false h23 ((u8n (k := 4) (by decide)).2 e);refine .sq<|.sr<|.yv (.eql Z Z) Z<|.a Z Z<|.nt<|.cr Z (fun h26 => ?_) (fun h26 => ?_)
  ·have e27 : op = 2 := (u8n (k := 2) (by decide)).1 (of_decide_eq_true h26);refine .sk<|.tN<|.cT Z<|.sr<|.a Z Z<|.a Z Z<|.a Z Z<|.nt<|.rt<|.bR<|.tR<|?_
   refine Sx.retN (.inl rfl) rfl (.cons (.tmp rfl) (.cons (.tmp rfl) (.cons (.tmp rfl) .nil))) rfl fun W s => ⟨?_,s.ext⟩
   first
    | (rw [tyOp,if_pos he];rfl)
    | (rw [hT,if_neg (Decidable.not_not.2 hn),if_neg (by simp [h6,h7])];rfl)
    | (rw [hT,if_pos hn];rfl)
    | (rw [hT,if_neg (Decidable.not_not.2 hn),if_pos (Or.inl h6)])
    | (rw [hT,if_neg (Decidable.not_not.2 hn),if_pos (Or.inr h7)])
    | (obtain rfl := e24;rw [tyOp,if_neg (Decidable.not_not.2 he)];rfl)
    | (obtain rfl := e25;rw [tyOp,if_neg (Decidable.not_not.2 he)];rfl)
    | (obtain rfl := e27;rw [tyOp,if_neg (Decidable.not_not.2 he)];rfl)
    | (obtain rfl := e28;rw [tyOp,if_neg (Decidable.not_not.2 he)];rfl)
    | (obtain rfl := e30;rw [tyOp,if_neg (Decidable.not_not.2 he)];rfl)
    | (obtain rfl := e48;rw [tyOp,if_neg (Decidable.not_not.2 he)];rfl)
  have e27 : ¬ op = 2 := fun e => of_decide_eq_false h26 ((u8n (k := 2) (by decide)).2 e);refine .rg<|.yv (.eql Z Z) Z<|.a Z Z<|.nt<|.cr Z (fun h26 => ?_) (fun h26 => ?_)
  ·have e28 : op = 3 := (u8n (k := 3) (by decide)).1 (of_decide_eq_true h26);refine .sr<|.a Z Z<|.a Z Z<|.a Z Z<|.nt<|.rt<|.bR<|.tR<|?_
   refine Sx.retN (.inl rfl) rfl (.cons (.tmp rfl) (.cons (.tmp rfl) (.cons (.tmp rfl) .nil))) rfl fun W s => ⟨?_,s.ext⟩
   first
    | (rw [tyOp,if_pos he];rfl)
    | (rw [hT,if_neg (Decidable.not_not.2 hn),if_neg (by simp [h6,h7])];rfl)
    | (rw [hT,if_pos hn];rfl)
    | (rw [hT,if_neg (Decidable.not_not.2 hn),if_pos (Or.inl h6)])
    | (rw [hT,if_neg (Decidable.not_not.2 hn),if_pos (Or.inr h7)])
    | (obtain rfl := e24;rw [tyOp,if_neg (Decidable.not_not.2 he)];rfl)
    | (obtain rfl := e25;rw [tyOp,if_neg (Decidable.not_not.2 he)];rfl)
    | (obtain rfl := e27;rw [tyOp,if_neg (Decidable.not_not.2 he)];rfl)
    | (obtain rfl := e28;rw [tyOp,if_neg (Decidable.not_not.2 he)];rfl)
    | (obtain rfl := e30;rw [tyOp,if_neg (Decidable.not_not.2 he)];rfl)
    | (obtain rfl := e48;rw [tyOp,if_neg (Decidable.not_not.2 he)];rfl)
  have e28 : ¬ op = 3 := fun e => of_decide_eq_false h26 ((u8n (k := 3) (by decide)).2 e);refine .sr<|.yv (.eql Z Z) Z<|.a Z Z<|.nt<|.cr Z (fun h29 => ?_) (fun h29 => ?_)
  ·have e30 : op = 5 := (u8n (k := 5) (by decide)).1 (of_decide_eq_true h29);refine .sr<|.yv (.loadW Z Fx.agg134 (.tail _<|.head _) Z) Z<|.yv (.fieldAddr Z Fx.field68_1) Z<|.yv (.load Z Fx.agg9 (.head _) Z) Z<|.yv (.call Fx.call78 Z (fun W s => sname_any H sc nm _ hsc W s.agr)) Z<|.m Z Z<|.yv (.extract Z Z) Z<|.yv (.extract Z Z) Z<|.a Z Z<|.a Z Z<|.ns<|.yv (.loadW Z Fx.agg134 (.tail _<|.head _) Z) Z<|.m Z Z<|.yv (.fieldAddr Z Fx.field68_1) Z<|.yv (.load Z Fx.agg9 (.head _) Z) Z<|.m Z Z<|.yv (.call Fx.call79 Z (fun W s => swrong_any H [x1,x2,x3] x1 x2 x3 Z (nameT sc nm).1 nm (nameT sc nm).2 W s.agr)) Z<|.yv (.extract Z Z) Z<|.yv (.extract Z Z) Z<|.yv (.extract Z Z) Z<|.a Z Z<|.a Z Z<|.a Z Z<|.nt<|.rt<|.bR<|.tR<|?_
   refine Sx.retN (.inl rfl) rfl (.cons (.tmp rfl) (.cons (.tmp rfl) (.cons (.tmp rfl) .nil))) rfl fun W s => ⟨?_,s.ext⟩
   first
    | (rw [tyOp,if_pos he];rfl)
    | (rw [hT,if_neg (Decidable.not_not.2 hn),if_neg (by simp [h6,h7])];rfl)
    | (rw [hT,if_pos hn];rfl)
    | (rw [hT,if_neg (Decidable.not_not.2 hn),if_pos (Or.inl h6)])
    | (rw [hT,if_neg (Decidable.not_not.2 hn),if_pos (Or.inr h7)])
    | (obtain rfl := e24;rw [tyOp,if_neg (Decidable.not_not.2 he)];rfl)
    | (obtain rfl := e25;rw [tyOp,if_neg (Decidable.not_not.2 he)];rfl)
    | (obtain rfl := e27;rw [tyOp,if_neg (Decidable.not_not.2 he)];rfl)
    | (obtain rfl := e28;rw [tyOp,if_neg (Decidable.not_not.2 he)];rfl)
    | (obtain rfl := e30;rw [tyOp,if_neg (Decidable.not_not.2 he)];rfl)
    | (obtain rfl := e48;rw [tyOp,if_neg (Decidable.not_not.2 he)];rfl)
  have e30 : ¬ op = 5 := fun e => of_decide_eq_false h29 ((u8n (k := 5) (by decide)).2 e);refine .sr<|.yv (.eql Z Z) Z<|.a Z Z<|.nt<|.cr Z (fun h47 => ?_) (fun h47 => ?_)
  ·have e48 : op = 8 := (u8n (k := 8) (by decide)).1 (of_decide_eq_true h47);refine .sq<|.fl (trip := [(_,_,_),(_,_,_),(_,_,_),(_,_,_),(_,_,_),(_,_,_),(_,_,_),(_,_,_),(_,_,_),(_,_,_),(_,_,_),(_,_,_),(_,_,_)]) 13 [(0,0),(1,0),(2,0),(3,0),(4,0),(5,0),(6,0),(7,0),(8,0),(9,0),(10,0),(11,0),(12,0)] (by kernel_rfl) (by kernel_rfl) Z<|.yv (.loadW Z Fx.agg134 (.tail _<|.head _) Z) Z<|.yv (.fieldAddr Z Fx.field68_1) Z<|.yv (.load Z Fx.agg9 (.head _) Z) Z<|.yv (.loadW Z Fx.agg134 (.tail _<|.head _) Z) Z<|.yv (.fieldAddr Z Fx.field68_1) Z<|.yv (.load Z Fx.agg9 (.head _) Z) Z<|.yv (.call Fx.call80 Z (fun W s => stable_any H sc nm _ hsc W s.agr)) Z<|.yv (.call Fx.call79 Z (fun W s => swrong_any H [x1,x2,x3] x1 x2 x3 Z 1 nm (tableT sc nm) W s.agr)) Z<|.yv (.extract Z Z) Z<|.yv (.extract Z Z) Z<|.yv (.extract Z Z) Z<|.a Z Z<|.a Z Z<|.fn (tl := [_]) Z<|.a Z Z<|.nt<|.rt<|.bR<|.tR<|?_
   refine Sx.retN (.inl rfl) rfl (.cons (.tmp rfl) (.cons (.tmp rfl) (.cons (.tmp rfl) .nil))) rfl fun W s => ⟨?_,s.ext⟩
   first
    | (rw [tyOp,if_pos he];rfl)
    | (rw [hT,if_neg (Decidable.not_not.2 hn),if_neg (by simp [h6,h7])];rfl)
    | (rw [hT,if_pos hn];rfl)
    | (rw [hT,if_neg (Decidable.not_not.2 hn),if_pos (Or.inl h6)])
    | (rw [hT,if_neg (Decidable.not_not.2 hn),if_pos (Or.inr h7)])
    | (obtain rfl := e24;rw [tyOp,if_neg (Decidable.not_not.2 he)];rfl)
    | (obtain rfl := e25;rw [tyOp,if_neg (Decidable.not_not.2 he)];rfl)
    | (obtain rfl := e27;rw [tyOp,if_neg (Decidable.not_not.2 he)];rfl)
    | (obtain rfl := e28;rw [tyOp,if_neg (Decidable.not_not.2 he)];rfl)
    | (obtain rfl := e30;rw [tyOp,if_neg (Decidable.not_not.2 he)];rfl)
    | (obtain rfl := e48;rw [tyOp,if_neg (Decidable.not_not.2 he)];rfl)
  have e48 : ¬ op = 8 := fun e => of_decide_eq_false h47 ((u8n (k := 8) (by decide)).2 e);refine .sq<|.sr<|.yv (.eql Z Z) Z<|.a Z Z<|.nt<|.cr Z (fun h60 => ?_) (fun h60 => ?_)
  ·have e61 : op = 16 := (u8n (k := 16) (by decide)).1 (of_decide_eq_true h60);exact .sk<|.tN<|.cT Z<|.rg<|.m Z Z<|.a Z Z<|.a Z Z<|.nl<|.bN<|.tN<|.me (a.ty,2) ⟨rfl,rfl,rfl,trivial⟩ ⟨rfl,rfl,trivial⟩ (fun _ s => s) (by subst e61;exact tyCut_of he (by decide) (by decide) (by decide) (by decide) Z Z)
  have e61 : ¬ op = 16 := fun e => of_decide_eq_false h60 ((u8n (k := 16) (by decide)).2 e);refine .rg<|.yv (.eql Z Z) Z<|.a Z Z<|.nt<|.cr Z (fun h60 => ?_) (fun h60 => ?_)
  ·have e62 : op = 17 := (u8n (k := 17) (by decide)).1 (of_decide_eq_true h60);exact .rg<|.m Z Z<|.a Z Z<|.a Z Z<|.nl<|.bN<|.tN<|.me (a.ty,2) ⟨rfl,rfl,rfl,trivial⟩ ⟨rfl,rfl,trivial⟩ (fun _ s => s) (by subst e62;exact tyCut_of he (by decide) (by decide) (by decide) (by decide) Z Z)
  have e62 : ¬ op = 17 := fun e => of_decide_eq_false h60 ((u8n (k := 17) (by decide)).2 e);refine .sq<|.sr<|.yv (.eql Z Z) Z<|.a Z Z<|.nt<|.cr Z (fun h64 => ?_) (fun h64 => ?_)
  ·have e65 : op = 10 := (u8n (k := 10) (by decide)).1 (of_decide_eq_true h64);exact .sk<|.tN<|.cT Z<|.rg<|.a Z Z<|.a Z Z<|.nl<|.bN<|.tN<|.me (2,2) ⟨rfl,rfl,rfl,trivial⟩ ⟨rfl,rfl,trivial⟩ (fun _ s => s) (by subst e65;exact tyCut_of he (by decide) (by decide) (by decide) (by decide) Z Z)
  have e65 : ¬ op = 10 := fun e => of_decide_eq_false h64 ((u8n (k := 10) (by decide)).2 e);refine .sr<|.yv (.eql Z Z) Z<|.a Z Z<|.nt<|.cr Z (fun h64 => ?_) (fun h64 => ?_)
  ·have e66 : op = 22 := (u8n (k := 22) (by decide)).1 (of_decide_eq_true h64);exact .sk<|.tN<|.cT Z<|.rg<|.a Z Z<|.a Z Z<|.nl<|.bN<|.tN<|.me (2,2) ⟨rfl,rfl,rfl,trivial⟩ ⟨rfl,rfl,trivial⟩ (fun _ s => s) (by subst e66;exact tyCut_of he (by decide) (by decide) (by decide) (by decide) Z Z)
  have e66 : ¬ op = 22 := fun e => of_decide_eq_false h64 ((u8n (k := 22) (by decide)).2 e);refine .rg<|.yv (.eql Z Z) Z<|.a Z Z<|.nt<|.cr Z (fun h64 => ?_) (fun h64 => ?_)
  ·have e67 : op = 23 := (u8n (k := 23) (by decide)).1 (of_decide_eq_true h64);exact .rg<|.a Z Z<|.a Z Z<|.nl<|.bN<|.tN<|.me (2,2) ⟨rfl,rfl,rfl,trivial⟩ ⟨rfl,rfl,trivial⟩ (fun _ s => s) (by subst e67;exact tyCut_of he (by decide) (by decide) (by decide) (by decide) Z Z)
  have e67 : ¬ op = 23 := fun e => of_decide_eq_false h64 ((u8n (k := 23) (by decide)).2 e);refine .sq<|.sr<|.yv (.eql Z Z) Z<|.a Z Z<|.nt<|.cr Z (fun h68 => ?_) (fun h68 => ?_)
  ·have e69 : op = 7 := (u8n (k := 7) (by decide)).1 (of_decide_eq_true h68);exact .sk<|.tN<|.cT Z<|.rg<|.a Z Z<|.nl<|.bN<|.tN<|.me (1,2) ⟨rfl,rfl,rfl,trivial⟩ ⟨rfl,rfl,trivial⟩ (fun _ s => s) (by subst e69;exact tyCut_of he (by decide) (by decide) (by decide) (by decide) Z Z)
  have e69 : ¬ op = 7 := fun e => of_decide_eq_false h68 ((u8n (k := 7) (by decide)).2 e);refine .sr<|.yv (.eql Z Z) Z<|.a Z Z<|.nt<|.cr Z (fun h68 => ?_) (fun h68 => ?_)
  ·have e70 : op = 18 := (u8n (k := 18) (by decide)).1 (of_decide_eq_true h68);exact .sk<|.tN<|.cT Z<|.rg<|.a Z Z<|.nl<|.bN<|.tN<|.me (1,2) ⟨rfl,rfl,rfl,trivial⟩ ⟨rfl,rfl,trivial⟩ (fun _ s => s) (by subst e70;exact tyCut_of he (by decide) (by decide) (by decide) (by decide) Z Z)
  have e70 : ¬ op = 18 := fun e => of_decide_eq_false h68 ((u8n (k := 18) (by decide)).2 e);refine .sr<|.yv (.eql Z Z) Z<|.a Z Z<|.nt<|.cr Z (fun h68 => ?_) (fun h68 => ?_)
  ·have e71 : op = 19 := (u8n (k := 19) (by decide)).1 (of_decide_eq_true h68);exact .sk<|.tN<|.cT Z<|.rg<|.a Z Z<|.nl<|.bN<|.tN<|.me (1,2) ⟨rfl,rfl,rfl,trivial⟩ ⟨rfl,rfl,trivial⟩ (fun _ s => s) (by subst e71;exact tyCut_of he (by decide) (by decide) (by decide) (by decide) Z Z)
  have e71 : ¬ op = 19 := fun e => of_decide_eq_false h68 ((u8n (k := 19) (by decide)).2 e);refine .sr<|.yv (.eql Z Z) Z<|.a Z Z<|.nt<|.cr Z (fun h68 => ?_) (fun h68 => ?_)
  ·have e72 : op = 20 := (u8n (k := 20) (by decide)).1 (of_decide_eq_true h68);exact .sk<|.tN<|.cT Z<|.rg<|.a Z Z<|.nl<|.bN<|.tN<|.me (1,2) ⟨rfl,rfl,rfl,trivial⟩ ⟨rfl,rfl,trivial⟩ (fun _ s => s) (by subst e72;exact tyCut_of he (by decide) (by decide) (by decide) (by decide) Z Z)
  have e72 : ¬ op = 20 := fun e => of_decide_eq_false h68 ((u8n (k := 20) (by decide)).2 e);refine .rg<|.yv (.eql Z Z) Z<|.a Z Z<|.nt<|.cr Z (fun h68 => ?_) (fun h68 => ?_)
  ·have e73 : op = 21 := (u8n (k := 21) (by decide)).1 (of_decide_eq_true h68);exact .rg<|.a Z Z<|.nl<|.bN<|.tN<|.me (1,2) ⟨rfl,rfl,rfl,trivial⟩ ⟨rfl,rfl,trivial⟩ (fun _ s => s) (by subst e73;exact tyCut_of he (by decide) (by decide) (by decide) (by decide) Z Z)
  have e73 : ¬ op = 21 := fun e => of_decide_eq_false h68 ((u8n (k := 21) (by decide)).2 e);exact .sk<|.bN<|.tN<|.me (1,1) ⟨rfl,rfl,rfl,trivial⟩ ⟨rfl,rfl,trivial⟩ (fun _ s => s) (tyCut_of he (by rintro (h | h) <;> contradiction) (by rintro (h | h) <;> contradiction) (by assumption) (by assumption) (by unfold needT_;rw [if_neg (by rintro (h | h) <;> contradiction),if_neg (by rintro (h | h | h) <;> contradiction)]) (by unfold resT;rw [if_neg (by rintro (h | h | h | h | h | h | h | h | h | h) <;> contradiction)]))
 have hT : tyOp sc op nm a = _ := hC;refine .sq<|.sr<|.m Z Z<|.m Z Z<|.yv (.neq Z Z) Z<|.nt<|.cd Z (fun h76 => ?_) (fun h76 => ?_)
 ·have hn : ¬ a.ty = z.1 := fun e => of_decide_eq_true h76 (u8e.2 e);refine .sr<|.a Z Z<|.a Z Z<|.a Z Z<|.nt<|.rt<|.tR<|?_
  refine Sx.retN (.inl rfl) rfl (.cons (.tmp rfl) (.cons (.tmp rfl) (.cons (.tmp rfl) .nil))) rfl fun W s => ⟨?_,s.ext⟩
  first
   | (rw [tyOp,if_pos he];rfl)
   | (rw [hT,if_neg (Decidable.not_not.2 hn),if_neg (by simp [h6,h7])];rfl)
   | (rw [hT,if_pos hn];rfl)
   | (rw [hT,if_neg (Decidable.not_not.2 hn),if_pos (Or.inl h6)])
   | (rw [hT,if_neg (Decidable.not_not.2 hn),if_pos (Or.inr h7)])
   | (obtain rfl := e24;rw [tyOp,if_neg (Decidable.not_not.2 he)];rfl)
   | (obtain rfl := e25;rw [tyOp,if_neg (Decidable.not_not.2 he)];rfl)
   | (obtain rfl := e27;rw [tyOp,if_neg (Decidable.not_not.2 he)];rfl)
   | (obtain rfl := e28;rw [tyOp,if_neg (Decidable.not_not.2 he)];rfl)
   | (obtain rfl := e30;rw [tyOp,if_neg (Decidable.not_not.2 he)];rfl)
   | (obtain rfl := e48;rw [tyOp,if_neg (Decidable.not_not.2 he)];rfl)
 have hn : a.ty = z.1 := u8e.1 (Decidable.not_not.1 (of_decide_eq_false h76));refine .sk<|.tN<|.sq<|.sr<|.yv (.fieldAddr Z Fx.field68_0) Z<|.yv (.load Z Fx.agg65 (.head _) Z) Z<|.yv (.eql Z Z) Z<|.m Z Z<|.b2 (fun h80 => ?_) (fun h80 => ?_)
 ·have h6 : op = 6 := (u8n (k := 6) (by decide)).1 (of_decide_eq_true h80);refine .gF Z Z Z Z<|.gF Z Z Z Z<|.gF Z Z Z Z<|.yv (.pickT Z Z) Z<|.nt<|.cT Z<|.sq<|.fl (trip := [(_,_,_),(_,_,_),(_,_,_),(_,_,_),(_,_,_),(_,_,_),(_,_,_),(_,_,_),(_,_,_),(_,_,_),(_,_,_),(_,_,_),(_,_,_),(_,_,_)]) 14 [(0,0),(1,0),(2,0),(3,0),(4,0),(5,0),(6,0),(7,0),(8,0),(9,0),(10,0),(11,0),(12,0),(13,0)] (by kernel_rfl) (by kernel_rfl) Z<|.yv (.loadW Z Fx.agg134 (.tail _<|.head _) Z) Z<|.m Z Z<|.yv (.fieldAddr Z Fx.field68_1) Z<|.yv (.load Z Fx.agg9 (.head _) Z) Z<|.yv (.loadW Z Fx.agg134 (.tail _<|.head _) Z) Z<|.yv (.fieldAddr Z Fx.field68_1) Z<|.yv (.load Z Fx.agg9 (.head _) Z) Z<|.yv (.call Fx.call80 Z (fun W s => stable_any H sc nm _ hsc W s.agr)) Z<|.yv (.call Fx.call79 Z (fun W s => swrong_any H [x1,x2,x3] x1 x2 x3 Z z.2 nm (tableT sc nm) W s.agr)) Z<|.yv (.extract Z Z) Z<|.yv (.extract Z Z) Z<|.yv (.extract Z Z) Z<|.a Z Z<|.a Z Z<|.fn (tl := [_]) Z<|.a Z Z<|.nt<|.rt<|.tR<|?_
  refine Sx.retN (.inl rfl) rfl (.cons (.tmp rfl) (.cons (.tmp rfl) (.cons (.tmp rfl) .nil))) rfl fun W s => ⟨?_,s.ext⟩
  first
   | (rw [tyOp,if_pos he];rfl)
   | (rw [hT,if_neg (Decidable.not_not.2 hn),if_neg (by simp [h6,h7])];rfl)
   | (rw [hT,if_pos hn];rfl)
   | (rw [hT,if_neg (Decidable.not_not.2 hn),if_pos (Or.inl h6)])
   | (rw [hT,if_neg (Decidable.not_not.2 hn),if_pos (Or.inr h7)])
   | (obtain rfl := e24;rw [tyOp,if_neg (Decidable.not_not.2 he)];rfl)
   | (obtain rfl := e25;rw [tyOp,if_neg (Decidable.not_not.2 he)];rfl)
   | (obtain rfl := e27;rw [tyOp,if_neg (Decidable.not_not.2 he)];rfl)
   | (obtain rfl := e28;rw [tyOp,if_neg (Decidable.not_not.2 he)];rfl)
   | (obtain rfl := e30;rw [tyOp,if_neg (Decidable.not_not.2 he)];rfl)
   | (obtain rfl := e48;rw [tyOp,if_neg (Decidable.not_not.2 he)];rfl)
 have h6 : ¬ op = 6 := fun e => of_decide_eq_false h80 ((u8n (k := 6) (by decide)).2 e);refine .gd Z Z<|.yv (.fieldAddr Z Fx.field68_0) Z<|.gd Z Z<|.yv (.load Z Fx.agg65 (.head _) Z) Z<|.gd Z Z<|.yv (.eql Z Z) Z<|.yv (.pickF Z Z) Z<|.nt<|.cd Z (fun h84 => ?_) (fun h84 => ?_)
 ·have h7 : op = 7 := (u8n (k := 7) (by decide)).1 (of_decide_eq_true h84);refine .sq<|.fl (trip := [(_,_,_),(_,_,_),(_,_,_),(_,_,_),(_,_,_),(_,_,_),(_,_,_),(_,_,_),(_,_,_),(_,_,_),(_,_,_),(_,_,_),(_,_,_),(_,_,_)]) 14 [(0,0),(1,0),(2,0),(3,0),(4,0),(5,0),(6,0),(7,0),(8,0),(9,0),(10,0),(11,0),(12,0),(13,0)] (by kernel_rfl) (by kernel_rfl) Z<|.yv (.loadW Z Fx.agg134 (.tail _<|.head _) Z) Z<|.m Z Z<|.yv (.fieldAddr Z Fx.field68_1) Z<|.yv (.load Z Fx.agg9 (.head _) Z) Z<|.yv (.loadW Z Fx.agg134 (.tail _<|.head _) Z) Z<|.yv (.fieldAddr Z Fx.field68_1) Z<|.yv (.load Z Fx.agg9 (.head _) Z) Z<|.yv (.call Fx.call80 Z (fun W s => stable_any H sc nm _ hsc W s.agr)) Z<|.yv (.call Fx.call79 Z (fun W s => swrong_any H [x1,x2,x3] x1 x2 x3 Z z.2 nm (tableT sc nm) W s.agr)) Z<|.yv (.extract Z Z) Z<|.yv (.extract Z Z) Z<|.yv (.extract Z Z) Z<|.a Z Z<|.a Z Z<|.fn (tl := [_]) Z<|.a Z Z<|.nt<|.rt<|.tR<|?_
  refine Sx.retN (.inl rfl) rfl (.cons (.tmp rfl) (.cons (.tmp rfl) (.cons (.tmp rfl) .nil))) rfl fun W s => ⟨?_,s.ext⟩
  first
   | (rw [tyOp,if_pos he];rfl)
   | (rw [hT,if_neg (Decidable.not_not.2 hn),if_neg (by simp [h6,h7])];rfl)
   | (rw [hT,if_pos hn];rfl)
   | (rw [hT,if_neg (Decidable.not_not.2 hn),if_pos (Or.inl h6)])
   | (rw [hT,if_neg (Decidable.not_not.2 hn),if_pos (Or.inr h7)])
   | (obtain rfl := e24;rw [tyOp,if_neg (Decidable.not_not.2 he)];rfl)
   | (obtain rfl := e25;rw [tyOp,if_neg (Decidable.not_not.2 he)];rfl)
   | (obtain rfl := e27;rw [tyOp,if_neg (Decidable.not_not.2 he)];rfl)
   | (obtain rfl := e28;rw [tyOp,if_neg (Decidable.not_not.2 he)];rfl)
   | (obtain rfl := e30;rw [tyOp,if_neg (Decidable.not_not.2 he)];rfl)
   | (obtain rfl := e48;rw [tyOp,if_neg (Decidable.not_not.2 he)];rfl)
 have h7 : ¬ op = 7 := fun e => of_decide_eq_false h84 ((u8n (k := 7) (by decide)).2 e);refine .sk<|.tN<|.sr<|.m Z Z<|.a Z Z<|.a Z Z<|.a Z Z<|.nt<|.rt<|?_
 refine Sx.retN (.inl rfl) rfl (.cons (.tmp rfl) (.cons (.tmp rfl) (.cons (.tmp rfl) .nil))) rfl fun W s => ⟨?_,s.ext⟩
 first
  | (rw [tyOp,if_pos he];rfl)
  | (rw [hT,if_neg (Decidable.not_not.2 hn),if_neg (by simp [h6,h7])];rfl)
  | (rw [hT,if_pos hn];rfl)
  | (rw [hT,if_neg (Decidable.not_not.2 hn),if_pos (Or.inl h6)])
  | (rw [hT,if_neg (Decidable.not_not.2 hn),if_pos (Or.inr h7)])
  | (obtain rfl := e24;rw [tyOp,if_neg (Decidable.not_not.2 he)];rfl)
  | (obtain rfl := e25;rw [tyOp,if_neg (Decidable.not_not.2 he)];rfl)
  | (obtain rfl := e27;rw [tyOp,if_neg (Decidable.not_not.2 he)];rfl)
  | (obtain rfl := e28;rw [tyOp,if_neg (Decidable.not_not.2 he)];rfl)
  | (obtain rfl := e30;rw [tyOp,if_neg (Decidable.not_not.2 he)];rfl)
  | (obtain rfl := e48;rw [tyOp,if_neg (Decidable.not_not.2 he)];rfl)
theorem typeOf_any (H : Hp) (sc : Sc) (cs : List Value) (hsc : ScR H sc cs) : ∀ e,TyFn H cs (tyE sc) e := by
 obtain ⟨p1,c1,p2,c2,p3,c3,rfl,k1,k2,k3⟩ := hsc.ex;intro e;induction e using Ex.ind with
 | _ op nm n args ih =>
  intro cs w h hA;obtain ⟨p,c,rfl,hs,hnm⟩ := ex_open h;rw [tyE_mk];exact typeOf_of H sc _ _ _ hsc op nm n args p c _ (fun w hA => alike_any H _ _ _ _ args ih p c hs w hA) w hA
theorem Fx.bld107  : buildN Tryz.prog 107 [] = some [.string ⟨#[]⟩,.slice none 0 0,.slice none 0 0] := by kernel_rfl
def zHd : List Value := [.string ⟨#[]⟩,.slice none 0 0,.slice none 0 0]
theorem any_flat {α : Type} {q : α → Bool} {l : List (List α)} : l.flatten.any q = l.any fun v => v.any q := by
 induction l with
 | nil => rfl
 | cons a r ih => rw [List.flatten_cons,List.any_append,ih];rfl
theorem flatf_at {α : Type} {q : α → Bool} {l : List (List α)} {k j : Nat} (hk : k < l.length) (hj : j < l[k].length) (h1 : (l.take k).any (fun v => v.any q) = false) (h2 : (l[k].take j).any q = false) (hq : q l[k][j] = true) : l.flatten.find? q = some l[k][j] := by
 have e : l = l.take k ++ l[k] :: l.drop (k + 1) := by rw [← List.drop_eq_getElem_cons hk,List.take_append_drop]
 have n1 : (l.take k).flatten.find? q = none := find_no (by rw [any_flat];exact h1);have s2 : l[k].find? q = some l[k][j] := find_at hj h2 hq;generalize l[k][j] = y at *;generalize l[k] = v at *;generalize l.take k = a at *;generalize l.drop (k + 1) = c at *;subst e;rw [List.flatten_append,List.flatten_cons,List.find?_append,List.find?_append,n1,s2];rfl
set_option maxRecDepth 100000 in
theorem handler_any (H : Hp) (l : List (List Hd)) (n : Str) (p : Option Addr) (m c : Nat) (hs : Rep H (.seq 1 (l.map (dVs .u8))) [.slice p m c]) :
 ∃ x : List Value,(match hdF l n with | some a => Rep H (dHd .u8 a) x | none => x = zHd) ∧ ∀ w,Agr H w →
  Calls Tryz.prog 60 #[.slice p m c,strV n] w fun r w' => r = .returned (.tuple #[.agg x.toArray,.bool (hdF l n).isSome]) ∧ Ext w w' := by
 obtain ⟨cf,hcf⟩ := hs.cells
 have hin : ∀ k,∃ g : Nat → List Value,∀ v,l[k]? = some v → ∀ j a,v[j]? = some a → ∃ b off cc,cf k = [.slice (some ⟨b,off,none⟩) v.length cc] ∧ Rep H (dHd .u8 a) (g j) ∧ (g j).length = 3 ∧ MemAt H b (off + j * 3) (g j) := by
  intro k;cases e : l[k]? with
  | none => exact ⟨fun _ => [],fun v hv => by cases hv⟩
  | some v =>
   obtain ⟨_,_,_,r,_⟩ := hcf k (dVs .u8 v) (by rw [List.getElem?_map,e];rfl);obtain ⟨p',c',e1,r1⟩ := vs_open r;obtain ⟨g,hg⟩ := r1.cells;refine ⟨g,fun v' hv' j a ha => ?_⟩;injection hv' with hv'
   subst hv';obtain ⟨b,off,h1,h2,h3,h4⟩ := hg j _ (by rw [List.getElem?_map,ha];rfl);exact ⟨b,off,c',by rw [e1,h1],h2,h3,h4⟩
 obtain ⟨cf2,hc2⟩ := Classical.axiomOfChoice hin;obtain ⟨q,hq⟩ : ∃ q : Hd → Bool,q = fun x => decide (x.nm = n) := ⟨_,rfl⟩;have hqd : ∀ y : Hd,q y = decide (y.nm = n) := fun y => by rw [hq]
 have hdq : hdF l n = l.flatten.find? q := by rw [hq];rfl
 rw [hdq];refine ⟨atI (fun k => cf2 k (ixI q (l.getD k [])).toNat) zHd (ixI (fun v => v.any q) l),?_,fun w hA => ?_⟩
 ·cases e : l.flatten.find? q with
  | none =>
   have h1 := List.find?_eq_none.1 e;have : l.any (fun v => v.any q) = false := by rw [← any_flat,List.any_eq_false];exact h1
   rw [ixI_none this];rfl
  | some a =>
   have hany : l.any (fun v => v.any q) = true := by rw [← any_flat,List.any_eq_true];exact ⟨a,List.mem_of_find?_eq_some e,List.find?_some e⟩
   obtain ⟨v0,hv0⟩ : ∃ v,l.find? (fun v => v.any q) = some v := by
    cases e2 : l.find? (fun v => v.any q) with
    | none => rw [List.any_eq_true] at hany;obtain ⟨x,hx,hx2⟩ := hany;exact absurd hx2 (List.find?_eq_none.1 e2 x hx)
    | some v => exact ⟨v,rfl⟩
   obtain ⟨k,hk,h1,h2,h3⟩ := find_ix hv0;have hv1 := List.find?_some hv0
   obtain ⟨y,hy⟩ : ∃ y,v0.find? q = some y := by
    cases e2 : v0.find? q with
    | none => rw [List.any_eq_true] at hv1;obtain ⟨x,hx,hx2⟩ := hv1;exact absurd hx2 (List.find?_eq_none.1 e2 x hx)
    | some v => exact ⟨v,rfl⟩
   obtain ⟨j,hj,g1,g2,g3⟩ := find_ix hy;subst h2;have := flatf_at (q := q) hk hj h3 g3 (by rw [g2];exact List.find?_some hy);rw [e] at this;injection this with ea
   rw [h1,atI_at,List.getD_eq_getElem?_getD,List.getElem?_eq_getElem hk,Option.getD_some,g1,Int.toNat_natCast];obtain ⟨_,_,_,_,r,_⟩ := hc2 k _ (List.getElem?_eq_getElem hk) j _ (List.getElem?_eq_getElem hj);rw [ea];exact r
 obtain rfl : m = l.length := by have := hs.len.1;simpa using this
 have hcap := hs.cap;refine Sx.enter (H := H) Tryz.func60 rfl Tryz.ntmps60 rfl hA ?_;refine .sr<|.al Fx.zero107 Z fun b4 => .a Z Z<|.nt<|.sq<|.sr<|.m Z Z<|.yv (.lenSl Fx.sl94 Z) Z<|.m Z Z<|.nt<|.bk<|.lp (X := Nat) [(1,_),(4,_),(10,_),(11,_)] ⟨rfl,rfl,rfl,rfl,trivial⟩ [_] (fun k => [(12,.int .i64 (k : Nat))]) (fun k => H) (fun k => []) (fun k => k ≤ l.length ∧ (l.take k).any (fun v => v.any q) = false) (fun k => l.length - k) 0 (fun _ s => s) ⟨rfl,trivial⟩ ⟨by omega,rfl⟩ fun k hC => ?_
 obtain ⟨hk0,hal⟩ := hC;refine .sr<|.yv (.lss Z Z) Z<|.nt<|.sq<|.cd Z (fun h13 => ?_) (fun h13 => ?_)
 ·try simp only [dt] at h13
  have hk : k < l.length := by omega
  obtain ⟨bE,oE,hpE,rE,lE,mE⟩ := hcf k _ (map_at (f := dVs .u8) hk);cases hpE;generalize hcE : cf k = cE at rE lE mE;generalize hxv : l[k] = v at rE;obtain ⟨pv,cv,rfl,gv⟩ := vs_open rE;have hcapv := gv.cap;have hc2k := hc2 k v (by rw [List.getElem?_eq_getElem hk,hxv]);refine .sk<|.tN<|.sq<|.bk<|.sr<|.yv (.indexSl Fx.sl94 Z Z Z (by omega) (q := oE + k * 1) Z) Z<|.yv (.loadMW Z Fx.agg103 mE Z) Z<|.al Fx.zero103 Z fun b7 => .sW .head Z Z Fx.size103 (by simp [Value.oneCell',strV]) Z<|.ns<|.yv (.fieldAddr Z Fx.field103_0) Z<|.yv (.load Z Fx.agg101 (.head _) Z) Z<|.yv (.lenSl Fx.sl101 Z) Z<|.m Z Z<|.nt<|.bk<|.lp (X := Nat) [(1,_),(4,_),(10,_),(11,_),(12,_),(17,_),(18,_)] ⟨rfl,rfl,rfl,rfl,rfl,rfl,rfl,trivial⟩ [_,_] (fun j => [(19,.int .i64 (j : Nat))]) (fun j => H) (fun j => []) (fun j => j ≤ v.length ∧ (v.take j).any q = false) (fun j => v.length - j) 0 (fun _ s => s) ⟨rfl,trivial⟩ ⟨by omega,rfl⟩ fun j hC => ?_
  obtain ⟨hj0,hjl⟩ := hC;refine .sr<|.yv (.lss Z Z) Z<|.nt<|.sq<|.cd Z (fun h20 => ?_) (fun h20 => ?_)
  ·try simp only [dt] at h20
   have hj : j < v.length := by omega
   obtain ⟨bG,oG,cG,eG,rG,lG,mG⟩ := hc2k j v[j] (List.getElem?_eq_getElem hj);rw [hcE] at eG;injection eG with eG
   injection eG with eG1 _ eG2
   subst eG1;subst eG2;generalize hcG : cf2 k j = cG at rG lG mG;generalize hxh : v[j] = y at rG;obtain ⟨t1,w1,t2,w2,rfl,nh,m1,m2⟩ := hd_open rG;refine .sk<|.tN<|.sq<|.bk<|.sr<|.yv (.indexSl Fx.sl101 Z Z Z (by omega) (q := oG + j * 3) Z) Z<|.yv (.loadMW Z Fx.agg107 mG Z) Z<|.al Fx.zero107 Z fun b9 => .sW .head Z Z Fx.size107 (by simp [Value.oneCell',strV]) Z<|.ns<|.yv (.fieldAddr Z Fx.field107_0) Z<|.yv (.load Z Fx.agg9 (.head _) Z) Z<|.m Z Z<|.yv (.eqS Z Z) Z<|.nt<|.cd Z (fun h26 => ?_) (fun h26 => ?_)
   ·try simp only [dt] at h26
    have hqj : q y = true := by rw [hqd];exact decide_eq_true (by simpa using h26)
    have hfl : l.flatten.find? q = some y := by subst hxv;subst hxh;exact flatf_at (q := q) hk hj hal hjl hqj
    have hix : ixI (fun v => v.any q) l = (k : Nat) := ixI_at hk hal (by subst hxv;exact List.any_eq_true.2 ⟨_,List.getElem_mem hj,by rw [hxh];exact hqj⟩)
    have hij : (ixI q (l.getD k [])).toNat = j := by
     rw [List.getD_eq_getElem?_getD,List.getElem?_eq_getElem hk,Option.getD_some];subst hxv;rw [ixI_at hj hjl (by rw [hxh];exact hqj),Int.toNat_natCast]
    refine .sr<|.yv (.loadW Z Fx.agg107 (.head _) Z) Z<|.sW (.tail<|.tail<|.head) Z Z Fx.size107 (by simp [Value.oneCell',strV]) Z<|.a Z Z<|.nt<|.rt<|.bR<|.tR<|.tR<|.bR<|.bR<|.tR<|.tR<|.bR<|.tR<|?_
    refine Sx.retN (.inl rfl) rfl (.cons (.cell rfl Fx.agg107 (.tail _<|.tail _<|.head _) rfl) (.cons (.tmp rfl) .nil)) rfl fun W s => ⟨?_,s.ext⟩
    first
     | (simp only [hfl,hix,atI_at,hij,hcG];rfl)
     | (rw [find_no (q := q) (by rw [any_flat];exact hal),ixI_none hal];rfl)
   try simp only [df] at h26
   have hqj : q y = false := by rw [hqd];exact decide_eq_false (by simpa using h26)
   exact .sk<|.bN<|.tN<|.rg<|.yv (.add Z Z (w6 (by omega))) Z<|.m Z Z<|.nt<|.ag (j + 1) ⟨rfl,trivial⟩ ⟨rfl,rfl,rfl,rfl,rfl,rfl,rfl,trivial⟩ (fun _ s => s.pick [1,2] [_,_] Z Z) ⟨by omega,by rw [any_succ hj,hjl,hxh,hqj];rfl⟩ (by omega)
  try simp only [df] at h20
  obtain rfl : j = v.length := by omega
  rw [List.take_length] at hjl;exact .ex<|.tE<|.tE<|.bE<|.bN<|.tN<|.rg<|.yv (.add Z Z (w6 (by omega))) Z<|.m Z Z<|.nt<|.ag (k + 1) ⟨rfl,trivial⟩ ⟨rfl,rfl,rfl,rfl,trivial⟩ (fun _ s => s.pick [1] [_] Z Z) ⟨by omega,by rw [any_succ hk,hal,hxv,hjl];rfl⟩ (by omega)
 try simp only [df] at h13
 obtain rfl : k = l.length := by omega
 rw [List.take_length] at hal;refine .ex<|.tE<|.tE<|.bE<|.tN<|.sr<|.yv (.build Z Fx.bld107) Z<|.sW .head Z Z Fx.size107 (by simp [Value.oneCell',strV]) Z<|.a Z Z<|.nt<|.rt<|?_
 refine Sx.retN (.inl rfl) rfl (.cons (.cell rfl Fx.agg107 (.head _) rfl) (.cons (.tmp rfl) .nil)) rfl fun W s => ⟨?_,s.ext⟩
 first
  | (simp only [hfl,hix,atI_at,hij,hcG];rfl)
  | (rw [find_no (q := q) (by rw [any_flat];exact hal),ixI_none hal];rfl)
theorem Fx.call55 : callN Tryz.prog 55 = Bool.true := by kernel_rfl
theorem Fx.call56 : callN Tryz.prog 56 = Bool.true := by kernel_rfl
theorem Fx.call57 : callN Tryz.prog 57 = Bool.true := by kernel_rfl
theorem Fx.bsl54_2 (x0 : ByteArray) (x1 : ByteArray) : bslN Tryz.prog 54 2 [(0,.string x0),(1,.string x1)] = some (9,[.string x0,.string x1]) := by kernel_rfl
theorem zCp_one : ∀ u ∈ zCp,u.oneCell' = true := by simp [zCp,Value.oneCell']
theorem cpx {H : Hp} {q : Cp → Bool} {l : List Cp} {x : List Value} (h : match l.find? q with | some a => Rep H (dCp .u8 a) x | none => x = zCp) : ∃ y1 y2 y3,x = [y1,y2,y3] ∧ ∀ u ∈ [y1,y2,y3],u.oneCell' = true := by
 cases e : l.find? q with
 | none => rw [e] at h;subst h;exact ⟨_,_,_,rfl,zCp_one⟩
 | some a =>
  rw [e] at h;obtain ⟨q1,d1,q2,d2,rfl,_⟩ := cp_open h;exact ⟨_,_,_,rfl,Rep.one h⟩
theorem hdx {H : Hp} {l : List (List Hd)} {n : Str} {x : List Value} (h : match hdF l n with | some a => Rep H (dHd .u8 a) x | none => x = zHd) : ∃ y1 p2 n2 c2 y3,x = [y1,.slice p2 n2 c2,y3] ∧ (∀ u ∈ [y1,.slice p2 n2 c2,y3],u.oneCell' = true) ∧ n2 = ((hdF l n).map (·.ps.length)).getD 0 ∧ n2 ≤ 9223372036854775807 := by
 cases e : hdF l n with
 | none => rw [e] at h;subst h;exact ⟨_,_,_,_,_,rfl,by simp [Value.oneCell'],rfl,by omega⟩
 | some a =>
  rw [e] at h;obtain ⟨q1,d1,q2,d2,rfl,_,k,_⟩ := hd_open h;exact ⟨_,_,_,_,_,rfl,Rep.one h,rfl,by have := k.cap;omega⟩
theorem weakH {H H' : Hp} {w0 W : World} {bs : List Res} (u : Up H H') (s : St H' w0 bs W) : St H w0 bs W := St.weakH u s
def lnkN (x : Lk) (i : Nat) : Str := if i = 0 then x.fr else x.to
def lnkA (f : Ft) (x : Lk) : Nat → List Pb
 | 0 => []
 | i + 1 => lnkA f x i ++ rpIf (!(cpF f.comps (lnkN x i)).isSome) (lnkW x) (lnkN x i) 9
theorem NzP.lnkA (f : Ft) (x : Lk) : ∀ i,NzP (lnkA f x i)
 | 0 => .nil
 | i + 1 => .app (NzP.lnkA f x i) (.if_ (by decide))
theorem lnk1_at {f : Ft} {k : Nat} {x : Lk} (hk : k < f.links.length) (hx : f.links[k] = x) : lnk1 f k = lnkA f x 2 ++ rpIf (sameL (f.links.take k) x) (lnkW x) x.fr 5 := by
 unfold lnk1;rw [List.getElem?_eq_getElem hk,hx];simp [lnkA,lnkN,List.append_assoc]
set_option maxRecDepth 100000 in
theorem lk1_any (H : Hp) (x y : Lk) (b : Nat) (hm : MemAt H b 0 [strV y.fr,strV y.to,.int .i64 y.lat.toInt]) (cs : List Value) (w : World) (h : Rep H (dLk x) cs) (hA : Agr H w) :
 Calls Tryz.prog 56 #[.agg cs.toArray,.pointer (some ⟨b,0,none⟩)] w fun r w' => r = .returned (.bool (decide (x.fr = y.fr ∧ x.to = y.to))) ∧ Ext w w' := by
 obtain ⟨rfl,_,_⟩ := lk_open h;refine Sx.enter (H := H) Tryz.func56 rfl Tryz.ntmps56 rfl hA ?_;refine .sr<|.bx Z Z Z fun b2 => .a Z Z<|.ns<|.yv (.fieldAddr Z Fx.field92_0) Z<|.yv (.load Z Fx.agg9 (.head _) Z) Z<|.yv (.fieldAddr Z Fx.field92_0) Z<|.yv (.loadM Z Fx.agg9 hm (k := 0) Z Z) Z<|.yv (.eqS Z Z) Z<|.m Z Z<|.b2 (fun h9 => ?_) (fun h9 => ?_)
 ·have e9 : x.fr = y.fr := by simpa using h9
  refine .gd Z Z<|.yv (.fieldAddr Z Fx.field92_1) Z<|.gd Z Z<|.yv (.load Z Fx.agg9 (.head _) Z) Z<|.gd Z Z<|.yv (.fieldAddr Z Fx.field92_1) Z<|.gd Z Z<|.yv (.loadM Z Fx.agg9 hm (k := 1) Z Z) Z<|.gd Z Z<|.yv (.eqS Z Z) Z<|.yv (.pickT Z Z) Z<|.a Z Z<|.nt<|.rt<|?_
  refine Sx.ret1 (.inl rfl) rfl (.tmp rfl) fun W s => ⟨?_,s.ext⟩
  first
   | (rw [decide_eq_decide.2 (show (x.fr = y.fr ∧ x.to = y.to) ↔ x.to = y.to from ⟨fun h => h.2,fun h => ⟨e9,h⟩⟩)])
   | (rw [decide_eq_false (fun h : x.fr = y.fr ∧ x.to = y.to => e9 h.1)])
 have e9 : ¬ x.fr = y.fr := by simpa using h9
 refine .gF Z Z Z Z<|.gF Z Z Z Z<|.gF Z Z Z Z<|.gF Z Z Z Z<|.gF Z Z Z Z<|.yv (.pickF Z Z) Z<|.a Z Z<|.nt<|.rt<|?_
 refine Sx.ret1 (.inl rfl) rfl (.tmp rfl) fun W s => ⟨?_,s.ext⟩
 first
  | (rw [decide_eq_decide.2 (show (x.fr = y.fr ∧ x.to = y.to) ↔ x.to = y.to from ⟨fun h => h.2,fun h => ⟨e9,h⟩⟩)])
  | (rw [decide_eq_false (fun h : x.fr = y.fr ∧ x.to = y.to => e9 h.1)])
set_option maxRecDepth 100000 in
theorem links_st {H : Hp} {w0 W : World} {bs : List Res} {b : Nat} {f : Ft} {p1 p2 p3 : Option Addr} {c1 c2 c3 : Nat} {wh : Str} {P : Pb} (hP : PbOk P) (h1 : Rep H (.seq 2 (f.flags.map dFg)) [.slice p1 f.flags.length c1]) (h2 : Rep H (.seq 3 (f.links.map dLk)) [.slice p2 f.links.length c2]) (h3 : Rep H (.seq 3 (f.comps.map (dCp .u8))) [.slice p3 f.comps.length c3]) (s : St H w0 (.box b [strV f.nm,.slice p1 f.flags.length c1,.slice p2 f.links.length c2,.slice p3 f.comps.length c3,strV wh,strV P.wh,strV P.nm,.int .i64 (P.er : Nat)] 110 :: bs) W) :
 Calls Tryz.prog 27 #[.pointer (some ⟨b,0,none⟩)] W fun e W' => ∃ wh' : Str,True ∧ e = .returned (.tuple #[]) ∧ St H w0 (.box b [strV f.nm,.slice p1 f.flags.length c1,.slice p2 f.links.length c2,.slice p3 f.comps.length c3,strV wh',strV (frsP P ((List.range f.links.length).flatMap (lnk1 f))).wh,strV (frsP P ((List.range f.links.length).flatMap (lnk1 f))).nm,.int .i64 ((frsP P ((List.range f.links.length).flatMap (lnk1 f))).er : Nat)] 110 :: bs) W' := by
 have hcap := h2.cap;refine Sx.enterS Tryz.func27 rfl Tryz.ntmps27 rfl s ?_;refine .sr<|.m Z Z<|.yv (.nilCheck Z) Z<|.yv (.fieldAddr Z Fx.field110_0) Z<|.yv (.fieldAddr Z Fx.field37_2) Z<|.yv (.load Z Fx.agg34 (.head _) Z) Z<|.yv (.lenSl Fx.sl34 Z) Z<|.m Z Z<|.nt<|.bk<|.lp (X := Nat × Str × Pb) [(0,_),(13,_),(14,_)] ⟨rfl,rfl,rfl,trivial⟩ (bs) (fun z => [(15,.int .i64 (z.1 : Nat))]) (fun z => H) (fun z => [.box b [strV f.nm,.slice p1 f.flags.length c1,.slice p2 f.links.length c2,.slice p3 f.comps.length c3,strV z.2.1,strV z.2.2.wh,strV z.2.2.nm,.int .i64 (z.2.2.er : Nat)] 110]) (fun z => z.1 ≤ f.links.length ∧ z.2.2 = frsP P ((List.range z.1).flatMap (lnk1 f))) (fun z => f.links.length - z.1) (0,wh,P) (fun _ s => s) ⟨rfl,trivial⟩ ⟨Nat.zero_le _,(frsP_nil hP).symm⟩ fun z hC => ?_
 obtain ⟨k,wh1,P1⟩ := z;obtain ⟨hk0,hP1⟩ := hC;dsimp only at hk0 hP1 ⊢;have hPo : PbOk P1 := by rw [hP1];exact frsP_ok hP (.flat fun _ => .lnk _ _)
 refine .sr<|.yv (.lss Z Z) Z<|.nt<|.sq<|.cd Z (fun h16 => ?_) (fun h16 => ?_)
 ·try simp only [dt] at h16
  have hk : k < f.links.length := by omega
  obtain ⟨bE,oE,cE,hpE,rE,lE,mE⟩ := h2.elem (map_at (f := dLk) hk);cases hpE;generalize hxE : f.links[k] = xE at rE;obtain ⟨rfl,hnE,hnE2⟩ := lk_open rE;refine .sk<|.tN<|.sq<|.bk<|.sr<|.m Z Z<|.yv (.indexSl Fx.sl34 Z Z Z (by omega) (q := oE + k * 3) Z) Z<|.yv (.loadMW Z Fx.agg92 mE Z) Z<|.al Fx.zero92 Z fun b3 => .a Z Z<|.sW .head Z Z Fx.size92 (by simp [Value.oneCell',strV]) Z<|?_
  refine Sx.freezeBox fun H1 u1 m1 => ?_;refine .nt<|.sq<|.sr<|.m Z Z<|.yv (.fieldAddr Z Fx.field92_0) Z<|.yv (.loadM Z Fx.agg9 m1 (k := 0) Z Z) Z<|.yv (.app Z Z (by simp;omega)) Z<|.yv (.app Z Z (by simp;omega)) Z<|.yv (.fieldAddr Z Fx.field92_1) Z<|.yv (.loadM Z Fx.agg9 m1 (k := 1) Z Z) Z<|.yv (.app Z Z (by simp;omega)) Z<|.cs (X := Unit) Fx.call52 Z (fun W s => at_st (lnkW xE) (s.pickT (hd := [_]) (tl := bs) (hd' := [_]) [0] Z Z)) Z fun _ _ => .yv (.not Z) Z<|.nt<|.cd Z (fun h29 => ?_) (fun h29 => ?_)
  ·try simp only [dt] at h29
   have hne : P1.er ≠ 0 := by simpa using h29
   refine .rt<|.tR<|.bR<|.tR<|.tR<|.bR<|?_
   refine Sx.retN (.inl rfl) rfl .nil rfl fun W s => ⟨(lnkW xE),trivial,rfl,?_⟩;rw [frs_done (P := P) (fun i => NzP.lnk f i) (Nat.le_of_lt hk) (hP1 ▸ hne),← hP1];refine weakH u1.up ?_;exact s.pickT (hd := [_]) (tl := bs) (hd' := [_]) [0] rfl rfl
  skip
  refine .sk<|.tN<|.sq<|.sr<|.yv (.fieldAddr Z Fx.field92_0) Z<|.yv (.loadM Z Fx.agg9 m1 (k := 0) Z Z) Z<|.yv (.fieldAddr Z Fx.field92_1) Z<|.yv (.loadM Z Fx.agg9 m1 (k := 1) Z Z) Z<|.bl Z (Fx.bsl54_2 _ _) Z fun b34 => ?_
  refine Sx.freezeBoxN fun H2 u2 m2 => ?_;have rN : Rep H2 (.seq 1 ([xE.fr,xE.to].map dStr)) [.slice (some ⟨b34,0,none⟩) 2 2] := Rep.mk (n := 2) (c := 2) m2 (RepZ.app (RepZ.single (str_shut hnE) rfl) (RepZ.single (str_shut hnE2) rfl)) rfl (Nat.le_refl _) (by decide);have k2 := h2.up (u1.up.trans u2.up);have k3 := h3.up (u1.up.trans u2.up);have m3 := m1.up u2.up;refine .yv (.lenSl Fx.sl54 Z) Z<|.m Z Z<|.nt<|.bk<|.lp (X := Nat × Pb) [(0,_),(2,_),(3,_),(13,_),(14,_),(15,_),(34,_),(35,_)] ⟨rfl,rfl,rfl,rfl,rfl,rfl,rfl,rfl,trivial⟩ (bs) (fun z => [(36,.int .i64 (z.1 : Nat))]) (fun z => H2) (fun z => [.box b [strV f.nm,.slice p1 f.flags.length c1,.slice (some ⟨bE,oE,none⟩) f.links.length c2,.slice p3 f.comps.length c3,strV (lnkW xE),strV z.2.wh,strV z.2.nm,.int .i64 (z.2.er : Nat)] 110]) (fun z => z.1 ≤ 2 ∧ z.2 = frsP P1 (lnkA f xE z.1)) (fun z => 2 - z.1) (0,P1) (fun _ s => s) ⟨rfl,trivial⟩ ⟨by simp,(frsP_nil hPo).symm⟩ fun z hC => ?_
  obtain ⟨i,P2⟩ := z;obtain ⟨hi0,hP2⟩ := hC;dsimp only at hi0 hP2 ⊢;have hPo2 : PbOk P2 := by rw [hP2];exact frsP_ok hPo (NzP.lnkA _ _ _)
  refine .sr<|.yv (.lss Z Z) Z<|.nt<|.sq<|.cd Z (fun h37 => ?_) (fun h37 => ?_)
  ·try simp only [dt] at h37
   have hi : i < 2 := by omega
   obtain ⟨bN,oN,cN,hpN,rS,lN,mN⟩ := rN.elem (map_at (f := dStr) (l := [xE.fr,xE.to]) (k := i) (by simpa using hi));cases hpN;obtain ⟨rfl,_⟩ := str_open rS;have en : [xE.fr,xE.to][i]'(by simpa using hi) = lnkN xE i := by rcases (by omega : i = 0 ∨ i = 1) with rfl | rfl <;> rfl
   rw [en] at mN;obtain ⟨xc,hxc,hcc⟩ := component_any H2 f.comps (lnkN xE i) _ _ _ k3;obtain ⟨y1,y2,y3,rfl,hone⟩ := cpx hxc;exact .sk<|.tN<|.sq<|.bk<|.sr<|.yv (.indexSl Fx.sl54 Z Z Z (by omega) (q := 0 + i * 1) Z) Z<|.yv (.loadM Z Fx.agg9 mN (k := 0) Z Z) Z<|.a Z Z<|.ns<|.m Z Z<|.yv (.nilCheck Z) Z<|.yv (.fieldAddr Z Fx.field110_0) Z<|.yv (.fieldAddr Z Fx.field37_3) Z<|.yv (.load Z Fx.agg35 (.head _) Z) Z<|.m Z Z<|.yv (.call Fx.call55 Z (fun W s => hcc W s.agr)) Z<|.m Z Z<|.yv (.extract Z Z) Z<|.yv (.extract Z Z) Z<|.al Fx.zero96 Z fun b6 => .sW .head Z Z Fx.size96 hone Z<|.a Z Z<|.nt<|.rg<|.m Z Z<|.m Z Z<|.m Z Z<|.cs (X := Unit) Fx.call53 Z (fun W s => unless_st _ 9 _ hPo2 (by decide) (s.pickT (hd := [_,_]) (tl := bs) (hd' := [_,_]) [1,0] Z Z)) Z fun _ _ => .nl<|.bN<|.tN<|.rg<|.yv (.add Z Z (w6 (by omega))) Z<|.m Z Z<|.nt<|.ag (x := (i,P2)) (i + 1,unlP P2 (lnkW xE) (lnkN xE i) 9 (cpF f.comps (lnkN xE i)).isSome) ⟨rfl,trivial⟩ ⟨rfl,rfl,rfl,rfl,rfl,rfl,rfl,rfl,trivial⟩ (fun _ s => (s.pickT (hd := [_,_]) (tl := bs) (hd' := [_]) [0] Z Z)) ⟨by dsimp only;omega,by dsimp only;rw [lnkA,← frsP_app (NzP.lnkA _ _ _),← hP2,unlP]⟩ (by dsimp only;omega)
  try simp only [df] at h37
  obtain rfl : i = 2 := by omega
  subst hP2;have hPo3 : PbOk (frsP P1 (lnkA f xE 2)) := frsP_ok hPo (NzP.lnkA _ _ _);exact .ex<|.tE<|.tE<|.bE<|.tN<|.sr<|.yv (.mkF Z Z) Z<|.a Z Z<|.nt<|.fl (trip := [(_,_,_),(_,_,_),(_,_,_),(_,_,_),(_,_,_),(_,_,_),(_,_,_),(_,_,_),(_,_,_),(_,_,_),(_,_,_),(_,_,_),(_,_,_)]) 13 [(0,0),(1,0),(2,0),(3,0),(4,0),(5,0),(6,0),(7,0),(8,0),(9,0),(10,0),(11,0),(12,0)] (by kernel_rfl) (by kernel_rfl) Z<|.m Z Z<|.m Z Z<|.yv (.nilCheck Z) Z<|.yv (.fieldAddr Z Fx.field110_0) Z<|.yv (.fieldAddr Z Fx.field37_2) Z<|.yv (.load Z Fx.agg34 (.head _) Z) Z<|.m Z Z<|.yv (.cutHi2 Fx.sl34 Z Z (h := k) Z (by have := h2.len.2.1;omega)) Z<|.m Z Z<|.yv (.call Fx.call57 Z (fun W s => containsL_any H2 56 [_] Fx.call56 (fun x => decide (x.fr = xE.fr ∧ x.to = xE.to)) (f.links.take k) (fun a _ cs w h hA => lk1_any H2 a xE _ m3 cs w h hA) _ (by rw [List.map_take];exact rep_take2 k2 (by omega)) W s.agr)) Z<|.yv (.not Z) Z<|.yv (.fieldAddr Z Fx.field92_0) Z<|.yv (.loadM Z Fx.agg9 m3 (k := 0) Z Z) Z<|.fn (tl := [_]) Z<|.cs (X := Unit) Fx.call53 Z (fun W s => unless_st _ 5 _ hPo3 (by decide) (s.pickT (hd := [_]) (tl := bs) (hd' := [_]) [0] Z Z)) Z fun _ _ => .nl<|.bN<|.tN<|.rg<|.yv (.add Z Z (w6 (by omega))) Z<|.m Z Z<|.nt<|.ag (x := (k,wh1,P1)) (k + 1,lnkW xE,unlP (frsP P1 (lnkA f xE 2)) (lnkW xE) xE.fr 5 (!sameL (f.links.take k) xE)) ⟨rfl,trivial⟩ ⟨rfl,rfl,rfl,trivial⟩ (fun _ s => weakH (u1.up.trans u2.up) s) ⟨by dsimp only;omega,by dsimp only;rw [flat_succ',← frsP_app (.flat fun _ => .lnk _ _),← hP1,lnk1_at hk hxE,← frsP_app (NzP.lnkA _ _ _),unlP,Bool.not_not]⟩ (by dsimp only;omega)
 try simp only [df] at h16
 obtain rfl : k = f.links.length := by omega
 refine .ex<|.tE<|.tE<|.bE<|?_
 refine Sx.retN (.inr rfl) rfl .nil rfl fun W s => ⟨wh1,trivial,rfl,?_⟩;rw [← hP1];exact s.pickT (hd := [_]) (tl := bs) (hd' := [_]) [0] rfl rfl
theorem Fx.agg108 : aggN Tryz.prog 108 = Option.some Option.none := by kernel_rfl
theorem Fx.call60 : callN Tryz.prog 60 = Bool.true := by kernel_rfl
theorem Fx.call121 : callN Tryz.prog 121 = Bool.true := by kernel_rfl
theorem Fx.field191_0 : fieldN Tryz.prog 191 0 = Option.some 0 := by kernel_rfl
theorem Fx.field191_1 : fieldN Tryz.prog 191 1 = Option.some 1 := by kernel_rfl
theorem ScR.of3 {H : Hp} {sc : Sc} {u1 u2 u3 : Option Addr} {n1 n2 n3 v1 v2 v3 : Nat} (h : ScR H sc [.slice u1 n1 v1,.slice u2 n2 v2,.slice u3 n3 v3]) : Rep H (.seq 2 (sc.flags.map dFg)) [.slice u1 n1 v1] ∧ Rep H (.seq 3 (sc.vars.map (dVr .u8))) [.slice u2 n2 v2] ∧ Rep H (.seq 1 (sc.ps.map dStrL)) [.slice u3 n3 v3] := by
 obtain ⟨_,_,_,_,_,_,ek,k1,k2,k3⟩ := h.ex;injection ek with ek1 ek
 injection ek with ek2 ek
 injection ek with ek3 ek
 rw [ek1,ek2,ek3];exact ⟨k1,k2,k3⟩
theorem svar_e {sc : Sc} {n : Str} {o : Option Vr} (hv : varS sc n = o) (H : Hp) (cs : List Value) (hs : ScR H sc cs) (w : World) (hA : Agr H w) :
 Calls Tryz.prog 101 #[.agg cs.toArray,strV n] w fun r w' => r = .returned (.tuple #[.agg (cVr (o.getD vr0)).toArray,.bool o.isSome]) ∧ Ext w w' := by
 subst hv;exact svar_any H sc n cs hs w hA
theorem atW_app (w : Str) (a c : List Rp) : atW w (a ++ c) = atW w a ++ atW w c := List.map_append
theorem frs_at {P : Pb} {w : Str} {l m : List Rp} (hl : NzR l) : frsP (frsP P (atW w l)) (atW w m) = frsP P (atW w (l ++ m)) := by rw [frsP_app (hl.at w),atW_app]
theorem allT_succ {s : Sc} {t : UInt8} {l : List Ex} {k : Nat} {x : Ex} (h : k < l.length) (hx : l[k] = x) : allT s t (l.take (k + 1)) = allT s t (l.take k) ++ rpE (tyE s x) t := by
 rw [take_snoc h,allT,List.flatMap_append,hx];simp [allT]
theorem rp_e {P : Pb} {w : Str} {r : Tr} {t : UInt8} : unlP (repP P w r.nm r.er) w [] 10 (decide (((r.ty.toNat : Nat) : Int) = (t.toNat : Nat))) = frsP P (atW w (rpE r t)) := by
 unfold unlP repP rpE;have e : (if r.er = 0 then [] else [(⟨w,r.nm,r.er⟩ : Pb)]) = atW w (if r.er = 0 then [] else [(r.nm,r.er)]) := by split <;> rfl
 have e2 : rpIf (!decide (((r.ty.toNat : Nat) : Int) = (t.toNat : Nat))) w [] 10 = atW w (if r.ty = t then [] else [([],10)]) := by
  by_cases h : r.ty = t
  ·rw [if_pos h,decide_eq_true (u8e.2 h)];rfl
  ·rw [if_neg h,decide_eq_false (fun k => h (u8e.1 k))];rfl
 rw [e,e2,frs_at]
 split
 ·exact .nil
 ·rename_i h;exact .one h
theorem rp_if {w n : Str} {c : Nat} {g : Bool} : rpIf (!g) w n c = atW w (if g then [] else [(n,c)]) := by cases g <;> rfl
theorem rp_ifp {w n : Str} {c : Nat} {q : Prop} [Decidable q] : rpIf (!decide q) w n c = atW w (if q then [] else [(n,c)]) := by
 rw [rp_if]
 by_cases h : q
 ·rw [if_pos h,decide_eq_true h];rfl
 ·rw [if_neg h,decide_eq_false h];rfl
theorem rep_at {P : Pb} {w n : Str} {c : Nat} (hc : c ≠ 0) : repP P w n c = frsP P (atW w [(n,c)]) := by rw [repP,if_neg hc];rfl
set_option maxRecDepth 100000 in
theorem changed_st {H : Hp} {w0 W : World} {bs : List Res} {b bb : Nat} {f : Ft} {p1 p2 p3 : Option Addr} {c1 c2 c3 : Nat} {wh : Str} {P : Pb} {sc : Sc} {u1 u2 u3 : Option Addr} {v1 v2 v3 : Nat} {own : Cp} {q1 q2 : Option Addr} {d1 d2 : Nat} {pl : Str} {n : Nat} (hP : PbOk P) (ks : ScR H sc [.slice u1 sc.flags.length v1,.slice u2 sc.vars.length v2,.slice u3 sc.ps.length v3]) (nm : Str) (s : St H w0 (.box bb [.pointer (some ⟨b,0,none⟩),.slice u1 sc.flags.length v1,.slice u2 sc.vars.length v2,.slice u3 sc.ps.length v3,strV own.nm,.slice q1 own.vars.length d1,.slice q2 own.vers.length d2,strV pl,.int .i64 (n : Nat)] 191 :: .box b [strV f.nm,.slice p1 f.flags.length c1,.slice p2 f.links.length c2,.slice p3 f.comps.length c3,strV wh,strV P.wh,strV P.nm,.int .i64 (P.er : Nat)] 110 :: bs) W) :
 Calls Tryz.prog 120 #[.pointer (some ⟨bb,0,none⟩),strV nm] W fun e W' => ∃ _ : Unit,True ∧ e = .returned (.int .u8 (chgT sc nm).toNat) ∧ St H w0 (.box bb [.pointer (some ⟨b,0,none⟩),.slice u1 sc.flags.length v1,.slice u2 sc.vars.length v2,.slice u3 sc.ps.length v3,strV own.nm,.slice q1 own.vars.length d1,.slice q2 own.vers.length d2,strV pl,.int .i64 (n : Nat)] 191 :: .box b [strV f.nm,.slice p1 f.flags.length c1,.slice p2 f.links.length c2,.slice p3 f.comps.length c3,strV wh,strV (frsP P (atW wh (chgR sc nm))).wh,strV (frsP P (atW wh (chgR sc nm))).nm,.int .i64 ((frsP P (atW wh (chgR sc nm))).er : Nat)] 110 :: bs) W' := by
 obtain ⟨k1,_,k3⟩ := ks.of3;cases hv : varS sc nm with
 | none =>
  refine Sx.enterS Tryz.func120 rfl Tryz.ntmps120 rfl s ?_;refine .sr<|.a Z Z<|.ns<|.m Z Z<|.yv (.nilCheck Z) Z<|.yv (.fieldAddr Z Fx.field191_1) Z<|.yv (.loadS (vs := [_,_,_]) Z Fx.agg134 (.head _) Z (subL Z)) Z<|.m Z Z<|.yv (.call Fx.call101 Z (fun W s => svar_e hv H _ ks W s.agr)) Z<|.m Z Z<|.yv (.extract Z Z) Z<|.yv (.extract Z Z) Z<|.al Fx.zero100 Z fun b5 => .sW .head Z Z Fx.size100 (by simp [cVr,Value.oneCell',strV]) Z<|.a Z Z<|.nt<|.sq<|.sr<|.m Z Z<|.nt<|.cF Z<|.sk<|.tN<|.sq<|.sr<|.m Z Z<|.yv (.nilCheck Z) Z<|.yv (.fieldAddr Z Fx.field191_1) Z<|.yv (.fieldAddr Z Fx.field134_2) Z<|.yv (.load Z Fx.agg54 (.tail _<|.head _) Z) Z<|.m Z Z<|.yv (.call Fx.call88 Z (fun W s => contains_any H sc.ps nm _ k3 W s.agr)) Z<|.m Z Z<|.b2 (fun h26 => ?_) (fun h26 => ?_)
  ·have hb : (hasB sc.ps nm || flagB sc.flags nm) = true := by rw [h26];rfl
   refine .gF Z Z Z Z<|.gF Z Z Z Z<|.gF Z Z Z Z<|.gF Z Z Z Z<|.gF Z Z Z Z<|.gF Z Z Z Z<|.gF Z Z Z Z<|.yv (.pickT Z Z) Z<|.nt<|.cT Z<|.rg<|.m Z Z<|.yv (.nilCheck Z) Z<|.yv (.fieldAddr Z Fx.field191_0) Z<|.yv (.load Z Fx.agg108 (.tail _<|.head _) Z) Z<|.m Z Z<|.cs (X := Unit) Fx.call25 Z (fun W s => report_st 10 _ hP (s.pickT (hd := [_,_,_]) (tl := bs) (hd' := [_,_,_]) [2,0,1] Z Z)) Z fun _ _ => .ns<|.a Z Z<|.nt<|.rt<|?_
   refine Sx.ret1 (.inl rfl) rfl (.tmp rfl) fun W s => ⟨(),trivial,?_,?_⟩
   ·first
     | (rw [chgT,hv];rfl)
     | (rw [chgT,hv];rfl)
     | (rw [chgT,hv];rfl)
   ·first
     | (rw [show frsP P (atW wh (chgR sc nm)) = P by rw [chgR,hv];exact frsP_nil hP];exact s.pickT (hd := [_,_,_]) (tl := bs) (hd' := [_,_]) [2,0] rfl rfl)
     | (rw [chgR,hv];simp only;rw [if_pos hb,← rep_at (by decide)];exact s.pickT (hd := [_,_,_]) (tl := bs) (hd' := [_,_]) [2,0] rfl rfl)
     | (rw [chgR,hv];simp only;rw [if_neg hb,← rep_at (by decide)];exact s.pickT (hd := [_,_,_]) (tl := bs) (hd' := [_,_]) [2,0] rfl rfl)
  skip
  refine .gd Z Z<|.yv (.move Z) Z<|.gd Z Z<|.yv (.nilCheck Z) Z<|.gd Z Z<|.yv (.fieldAddr Z Fx.field191_1) Z<|.gd Z Z<|.yv (.fieldAddr Z Fx.field134_0) Z<|.gd Z Z<|.yv (.load Z Fx.agg33 (.tail _<|.head _) Z) Z<|.gd Z Z<|.yv (.move Z) Z<|.gd Z Z<|.yv (.call Fx.call54 Z (fun W s => flag_any H sc.flags nm _ k1 W s.agr)) Z<|.yv (.pickF Z Z) Z<|.nt<|.cd Z (fun h34 => ?_) (fun h34 => ?_)
  ·have hb : (hasB sc.ps nm || flagB sc.flags nm) = true := by rw [h26,h34];rfl
   refine .rg<|.m Z Z<|.yv (.nilCheck Z) Z<|.yv (.fieldAddr Z Fx.field191_0) Z<|.yv (.load Z Fx.agg108 (.tail _<|.head _) Z) Z<|.m Z Z<|.cs (X := Unit) Fx.call25 Z (fun W s => report_st 10 _ hP (s.pickT (hd := [_,_,_]) (tl := bs) (hd' := [_,_,_]) [2,0,1] Z Z)) Z fun _ _ => .ns<|.a Z Z<|.nt<|.rt<|?_
   refine Sx.ret1 (.inl rfl) rfl (.tmp rfl) fun W s => ⟨(),trivial,?_,?_⟩
   ·first
     | (rw [chgT,hv];rfl)
     | (rw [chgT,hv];rfl)
     | (rw [chgT,hv];rfl)
   ·first
     | (rw [show frsP P (atW wh (chgR sc nm)) = P by rw [chgR,hv];exact frsP_nil hP];exact s.pickT (hd := [_,_,_]) (tl := bs) (hd' := [_,_]) [2,0] rfl rfl)
     | (rw [chgR,hv];simp only;rw [if_pos hb,← rep_at (by decide)];exact s.pickT (hd := [_,_,_]) (tl := bs) (hd' := [_,_]) [2,0] rfl rfl)
     | (rw [chgR,hv];simp only;rw [if_neg hb,← rep_at (by decide)];exact s.pickT (hd := [_,_,_]) (tl := bs) (hd' := [_,_]) [2,0] rfl rfl)
  have hb : ¬ (hasB sc.ps nm || flagB sc.flags nm) = true := by rw [h26,h34];decide
  refine .rg<|.m Z Z<|.yv (.nilCheck Z) Z<|.yv (.fieldAddr Z Fx.field191_0) Z<|.yv (.load Z Fx.agg108 (.tail _<|.head _) Z) Z<|.m Z Z<|.cs (X := Unit) Fx.call25 Z (fun W s => report_st 9 _ hP (s.pickT (hd := [_,_,_]) (tl := bs) (hd' := [_,_,_]) [2,0,1] Z Z)) Z fun _ _ => .ns<|.a Z Z<|.nt<|.rt<|?_
  refine Sx.ret1 (.inl rfl) rfl (.tmp rfl) fun W s => ⟨(),trivial,?_,?_⟩
  ·first
    | (rw [chgT,hv];rfl)
    | (rw [chgT,hv];rfl)
    | (rw [chgT,hv];rfl)
  ·first
    | (rw [show frsP P (atW wh (chgR sc nm)) = P by rw [chgR,hv];exact frsP_nil hP];exact s.pickT (hd := [_,_,_]) (tl := bs) (hd' := [_,_]) [2,0] rfl rfl)
    | (rw [chgR,hv];simp only;rw [if_pos hb,← rep_at (by decide)];exact s.pickT (hd := [_,_,_]) (tl := bs) (hd' := [_,_]) [2,0] rfl rfl)
    | (rw [chgR,hv];simp only;rw [if_neg hb,← rep_at (by decide)];exact s.pickT (hd := [_,_,_]) (tl := bs) (hd' := [_,_]) [2,0] rfl rfl)
 | some v =>
  refine Sx.enterS Tryz.func120 rfl Tryz.ntmps120 rfl s ?_;refine .sr<|.a Z Z<|.ns<|.m Z Z<|.yv (.nilCheck Z) Z<|.yv (.fieldAddr Z Fx.field191_1) Z<|.yv (.loadS (vs := [_,_,_]) Z Fx.agg134 (.head _) Z (subL Z)) Z<|.m Z Z<|.yv (.call Fx.call101 Z (fun W s => svar_e hv H _ ks W s.agr)) Z<|.m Z Z<|.yv (.extract Z Z) Z<|.yv (.extract Z Z) Z<|.al Fx.zero100 Z fun b5 => .sW .head Z Z Fx.size100 (by simp [cVr,Value.oneCell',strV]) Z<|.a Z Z<|.nt<|.sq<|.sr<|.m Z Z<|.nt<|.cT Z<|.sr<|.yv (.fieldAddr Z Fx.field100_1) Z<|.yv (.load Z Fx.agg62 (.head _) Z) Z<|.a Z Z<|.nt<|.rt<|.tR<|?_
  refine Sx.ret1 (.inl rfl) rfl (.tmp rfl) fun W s => ⟨(),trivial,?_,?_⟩
  ·first
    | (rw [chgT,hv];rfl)
    | (rw [chgT,hv];rfl)
    | (rw [chgT,hv];rfl)
  ·first
    | (rw [show frsP P (atW wh (chgR sc nm)) = P by rw [chgR,hv];exact frsP_nil hP];exact s.pickT (hd := [_,_,_]) (tl := bs) (hd' := [_,_]) [1,2] rfl rfl)
    | (rw [chgR,hv];simp only;rw [if_pos hb,← rep_at (by decide)];exact s.pickT (hd := [_,_,_]) (tl := bs) (hd' := [_,_]) [1,2] rfl rfl)
    | (rw [chgR,hv];simp only;rw [if_neg hb,← rep_at (by decide)];exact s.pickT (hd := [_,_,_]) (tl := bs) (hd' := [_,_]) [1,2] rfl rfl)
set_option maxRecDepth 100000 in
theorem all_st {H : Hp} {w0 W : World} {bs : List Res} {b bb : Nat} {f : Ft} {p1 p2 p3 : Option Addr} {c1 c2 c3 : Nat} {wh : Str} {P : Pb} {sc : Sc} {u1 u2 u3 : Option Addr} {v1 v2 v3 : Nat} {own : Cp} {q1 q2 : Option Addr} {d1 d2 : Nat} {pl : Str} {n : Nat} (hP : PbOk P) (ks : ScR H sc [.slice u1 sc.flags.length v1,.slice u2 sc.vars.length v2,.slice u3 sc.ps.length v3]) (t : UInt8) (es : List Ex) (p : Option Addr) (c : Nat) (hs : Rep H (.seq 4 (es.map (dEx .u8))) [.slice p es.length c]) (s : St H w0 (.box bb [.pointer (some ⟨b,0,none⟩),.slice u1 sc.flags.length v1,.slice u2 sc.vars.length v2,.slice u3 sc.ps.length v3,strV own.nm,.slice q1 own.vars.length d1,.slice q2 own.vers.length d2,strV pl,.int .i64 (n : Nat)] 191 :: .box b [strV f.nm,.slice p1 f.flags.length c1,.slice p2 f.links.length c2,.slice p3 f.comps.length c3,strV wh,strV P.wh,strV P.nm,.int .i64 (P.er : Nat)] 110 :: bs) W) :
 Calls Tryz.prog 121 #[.pointer (some ⟨bb,0,none⟩),.int .u8 t.toNat,.slice p es.length c] W fun e W' => ∃ _ : Unit,True ∧ e = .returned (.tuple #[]) ∧ St H w0 (.box bb [.pointer (some ⟨b,0,none⟩),.slice u1 sc.flags.length v1,.slice u2 sc.vars.length v2,.slice u3 sc.ps.length v3,strV own.nm,.slice q1 own.vars.length d1,.slice q2 own.vers.length d2,strV pl,.int .i64 (n : Nat)] 191 :: .box b [strV f.nm,.slice p1 f.flags.length c1,.slice p2 f.links.length c2,.slice p3 f.comps.length c3,strV wh,strV (frsP P (atW wh (allT sc t es))).wh,strV (frsP P (atW wh (allT sc t es))).nm,.int .i64 ((frsP P (atW wh (allT sc t es))).er : Nat)] 110 :: bs) W' := by
 have hcap := hs.cap;refine Sx.enterS Tryz.func121 rfl Tryz.ntmps121 rfl s ?_;refine .sr<|.m Z Z<|.yv (.lenSl Fx.sl66 Z) Z<|.m Z Z<|.nt<|.bk<|.lp (X := Nat × Pb) [(0,_),(1,_),(11,_),(12,_)] ⟨rfl,rfl,rfl,rfl,trivial⟩ (bs) (fun z => [(13,.int .i64 (z.1 : Nat))]) (fun z => H) (fun z => [.box bb [.pointer (some ⟨b,0,none⟩),.slice u1 sc.flags.length v1,.slice u2 sc.vars.length v2,.slice u3 sc.ps.length v3,strV own.nm,.slice q1 own.vars.length d1,.slice q2 own.vers.length d2,strV pl,.int .i64 (n : Nat)] 191,.box b [strV f.nm,.slice p1 f.flags.length c1,.slice p2 f.links.length c2,.slice p3 f.comps.length c3,strV wh,strV z.2.wh,strV z.2.nm,.int .i64 (z.2.er : Nat)] 110]) (fun z => z.1 ≤ es.length ∧ z.2 = frsP P (atW wh (allT sc t (es.take z.1)))) (fun z => es.length - z.1) (0,P) (fun _ s => s) ⟨rfl,trivial⟩ ⟨Nat.zero_le _,(frsP_nil hP).symm⟩ fun z hC => ?_
 obtain ⟨k,P1⟩ := z;obtain ⟨hk0,hP1⟩ := hC;dsimp only at hk0 hP1 ⊢;have hPo : PbOk P1 := by rw [hP1];exact frsP_ok hP ((NzR.all _ _ _).at _)
 refine .sr<|.yv (.lss Z Z) Z<|.nt<|.sq<|.cd Z (fun h14 => ?_) (fun h14 => ?_)
 ·try simp only [dt] at h14
  have hk : k < es.length := by omega
  obtain ⟨bE,oE,cE,hpE,rE,lE,mE⟩ := hs.elem (map_at (f := dEx .u8) hk);cases hpE;generalize hxE : es[k] = xE at rE;exact .sk<|.tN<|.sq<|.bk<|.sr<|.yv (.indexSl Fx.sl66 Z Z Z (by omega) (q := oE + k * 4) Z) Z<|.yv (.loadMW Z Fx.agg68 mE lE) Z<|.al Fx.zero68 Z fun b7 => .sV .head Z Z Fx.size68 lE rE.one Z<|.nt<|.sq<|.fl (trip := [(_,_,_),(_,_,_),(_,_,_),(_,_,_),(_,_,_),(_,_,_),(_,_,_),(_,_,_),(_,_,_),(_,_,_),(_,_,_),(_,_,_)]) 12 [(0,0),(1,0),(2,0),(3,0),(4,0),(5,0),(6,0),(7,0),(8,0),(9,0),(10,0),(11,0)] (by kernel_rfl) (by kernel_rfl) Z<|.m Z Z<|.yv (.nilCheck Z) Z<|.yv (.fieldAddr Z Fx.field191_1) Z<|.yv (.loadS (vs := [_,_,_]) Z Fx.agg134 (.tail _<|.head _) Z (subL Z)) Z<|.yv (.loadW Z Fx.agg68 (.head _) lE) Z<|.yv (.call Fx.call44 Z (fun W s => typeOf_any H sc _ ks xE cE W rE s.agr)) Z<|.m Z Z<|.yv (.extract Z Z) Z<|.yv (.extract Z Z) Z<|.yv (.extract Z Z) Z<|.a Z Z<|.a Z Z<|.fn (tl := [_]) Z<|.a Z Z<|.ns<|.m Z Z<|.yv (.nilCheck Z) Z<|.yv (.fieldAddr Z Fx.field191_0) Z<|.yv (.load Z Fx.agg108 (.tail _<|.head _) Z) Z<|.m Z Z<|.m Z Z<|.cs (X := Unit) Fx.call25 Z (fun W s => report_st (tyE sc xE).er _ hPo (s.pickT (hd := [_,_,_]) (tl := bs) (hd' := [_,_,_]) [2,0,1] Z Z)) Z fun _ _ => .nt<|.rg<|.m Z Z<|.yv (.nilCheck Z) Z<|.yv (.fieldAddr Z Fx.field191_0) Z<|.yv (.load Z Fx.agg108 (.tail _<|.tail _<|.head _) Z) Z<|.m Z Z<|.m Z Z<|.yv (.eql Z Z) Z<|.cs (X := Unit) Fx.call53 Z (fun W s => unless_st _ 10 [] (frsP_ok hPo (by first | (split;exact .nil;rename_i h;intro x hx;rw [List.mem_singleton.1 hx];exact h))) (by decide) (s.pickT (hd := [_,_,_]) (tl := bs) (hd' := [_,_,_]) [0,1,2] Z Z)) Z fun _ _ => .nl<|.bN<|.tN<|.rg<|.yv (.add Z Z (w6 (by omega))) Z<|.m Z Z<|.nt<|.ag (x := (k,P1)) (k + 1,unlP (repP P1 wh (tyE sc xE).nm (tyE sc xE).er) wh [] 10 (decide ((((tyE sc xE).ty.toNat : Nat) : Int) = (t.toNat : Nat)))) ⟨rfl,trivial⟩ ⟨rfl,rfl,rfl,rfl,trivial⟩ (fun _ s => (s.pickT (hd := [_,_,_]) (tl := bs) (hd' := [_,_]) [2,0] Z Z)) ⟨by dsimp only;omega,by dsimp only;rw [rp_e,allT_succ hk hxE,← frs_at (NzR.all _ _ _),← hP1]⟩ (by dsimp only;omega)
 try simp only [df] at h14
 obtain rfl : k = es.length := by omega
 rw [List.take_length] at hP1;refine .ex<|.tE<|.tE<|.bE<|?_
 refine Sx.retN (.inr rfl) rfl .nil rfl fun W s => ⟨(),trivial,rfl,?_⟩;rw [← hP1];exact s.pickT (hd := [_,_]) (tl := bs) (hd' := [_,_]) [0,1] rfl rfl
set_option maxRecDepth 100000 in
theorem call_st {H : Hp} {w0 W : World} {bs : List Res} {b bb : Nat} {f : Ft} {p1 p2 p3 : Option Addr} {c1 c2 c3 : Nat} {wh : Str} {P : Pb} {sc : Sc} {u1 u2 u3 : Option Addr} {v1 v2 v3 : Nat} {own : Cp} {q1 q2 : Option Addr} {d1 d2 : Nat} {pl : Str} {n : Nat} (hP : PbOk P) (ks : ScR H sc [.slice u1 sc.flags.length v1,.slice u2 sc.vars.length v2,.slice u3 sc.ps.length v3]) (vs : List (List Hd)) (nm : Str) (es : List Ex) (k : Nat) (hk : k ≤ 1) (y1 y2 : Value) (ho : ∀ u ∈ [y1,y2],u.oneCell' = true) (pv : Option Addr) (cv : Nat) (hv : Rep H (.seq 1 (vs.map (dVs .u8))) [.slice pv vs.length cv]) (p : Option Addr) (c : Nat) (hs : Rep H (.seq 4 (es.map (dEx .u8))) [.slice p es.length c]) (s : St H w0 (.box bb [.pointer (some ⟨b,0,none⟩),.slice u1 sc.flags.length v1,.slice u2 sc.vars.length v2,.slice u3 sc.ps.length v3,strV own.nm,.slice q1 own.vars.length d1,.slice q2 own.vers.length d2,strV pl,.int .i64 (n : Nat)] 191 :: .box b [strV f.nm,.slice p1 f.flags.length c1,.slice p2 f.links.length c2,.slice p3 f.comps.length c3,strV wh,strV P.wh,strV P.nm,.int .i64 (P.er : Nat)] 110 :: bs) W) :
 Calls Tryz.prog 122 #[.pointer (some ⟨bb,0,none⟩),.agg [y1,y2,.slice pv vs.length cv].toArray,strV nm,.slice p es.length c,.int .i64 (k : Nat)] W fun e W' => ∃ _ : Unit,True ∧ e = .returned (.tuple #[]) ∧ St H w0 (.box bb [.pointer (some ⟨b,0,none⟩),.slice u1 sc.flags.length v1,.slice u2 sc.vars.length v2,.slice u3 sc.ps.length v3,strV own.nm,.slice q1 own.vars.length d1,.slice q2 own.vers.length d2,strV pl,.int .i64 (n : Nat)] 191 :: .box b [strV f.nm,.slice p1 f.flags.length c1,.slice p2 f.links.length c2,.slice p3 f.comps.length c3,strV wh,strV (frsP P (atW wh (callR sc vs nm es k))).wh,strV (frsP P (atW wh (callR sc vs nm es k))).nm,.int .i64 ((frsP P (atW wh (callR sc vs nm es k))).er : Nat)] 110 :: bs) W' := by
 have hcap := hs.cap;obtain ⟨xh,hxh,hhc⟩ := handler_any H vs nm _ _ _ hv;obtain ⟨z1,z2,n2,z3,z4,rfl,hone,hn2,hn3⟩ := hdx hxh;refine Sx.enterS Tryz.func122 rfl Tryz.ntmps122 rfl s ?_;refine .sr<|.bx Z Z Z fun b6 => .ns<|.yv (.fieldAddr Z Fx.field96_2) Z<|.yv (.load Z Fx.agg94 (.head _) Z) Z<|.m Z Z<|.yv (.call Fx.call60 Z (fun W s => hhc W s.agr)) Z<|.m Z Z<|.yv (.extract Z Z) Z<|.yv (.extract Z Z) Z<|.al Fx.zero107 Z fun b10 => .sW .head Z Z Fx.size107 hone Z<|.a Z Z<|.ns<|.m Z Z<|.yv (.nilCheck Z) Z<|.yv (.fieldAddr Z Fx.field191_0) Z<|.yv (.load Z Fx.agg108 (.tail _<|.tail _<|.head _) Z) Z<|.m Z Z<|.m Z Z<|.cs (X := Unit) Fx.call53 Z (fun W s => unless_st _ 9 _ hP (by decide) (s.pickT (hd := [_,_,_,_]) (tl := bs) (hd' := [_,_,_,_]) [3,0,1,2] Z Z)) Z fun _ _ => .nt<|.sq<|.fl (trip := [(_,_,_),(_,_,_),(_,_,_),(_,_,_),(_,_,_),(_,_,_),(_,_,_),(_,_,_),(_,_,_),(_,_,_),(_,_,_),(_,_,_),(_,_,_)]) 13 [(0,0),(1,0),(2,0),(3,0),(4,0),(5,0),(6,0),(7,0),(8,0),(9,0),(10,0),(11,0),(12,0)] (by kernel_rfl) (by kernel_rfl) Z<|.m Z Z<|.yv (.nilCheck Z) Z<|.yv (.fieldAddr Z Fx.field191_0) Z<|.yv (.load Z Fx.agg108 (.tail _<|.tail _<|.tail _<|.head _) Z) Z<|.m Z Z<|.yv (.lenSl Fx.sl66 Z) Z<|.m Z Z<|.yv (.sub Z Z (w6 (by omega))) Z<|.yv (.fieldAddr Z Fx.field107_1) Z<|.yv (.load Z Fx.agg54 (.tail _<|.head _) Z) Z<|.yv (.lenSl Fx.sl54 Z) Z<|.yv (.eql Z Z) Z<|.m Z Z<|.fn (tl := [_]) Z<|.cs (X := Unit) Fx.call53 Z (fun W s => unless_st _ 10 _ (frsP_ok hP (NzP.if_ (by decide))) (by decide) (s.pickT (hd := [_,_,_,_]) (tl := bs) (hd' := [_,_,_,_]) [0,1,2,3] Z Z)) Z fun _ _ => .nt<|.rg<|.m Z Z<|.m Z Z<|.cs (X := Unit) Fx.call121 Z (fun W s => all_st (frsP_ok (frsP_ok hP (NzP.if_ (by decide))) (NzP.if_ (by decide))) ks 1 es _ _ hs (s.pickT (hd := [_,_,_,_]) (tl := bs) (hd' := [_,_,_,_]) [3,0,1,2] Z Z)) Z fun _ _ => .nl<|?_
 refine Sx.retN (.inr rfl) rfl .nil rfl fun W s => ⟨(),trivial,rfl,?_⟩;rw [rp_ifp,rp_if,frs_at (by split;exact .nil;exact .one (by decide)),frs_at (by split;exact .nil;exact .one (by decide)),hn2] at s;exact s.pickT (hd := [_,_,_,_]) (tl := bs) (hd' := [_,_]) [0,1] rfl rfl
theorem Fx.call120 : callN Tryz.prog 120 = Bool.true := by kernel_rfl
theorem Fx.call122 : callN Tryz.prog 122 = Bool.true := by kernel_rfl
theorem Fx.field191_2 : fieldN Tryz.prog 191 2 = Option.some 4 := by kernel_rfl
section
variable {cs : List Cp} {own : List (List Hd)} {s : Sc} {nm hd : Str} {ex : List Ex} {th el : List Sm}
theorem stR_1 : stR cs own s (.mk 1 nm hd ex th el) = chgR s nm ++ (if chgT s nm = 1 ∨ chgT s nm = 2 then allT s (chgT s nm) ex else [(nm,10)]) := rfl
theorem stR_2 {kd : UInt8} (h : kd = 2 ∨ kd = 3) : stR cs own s (.mk kd nm hd ex th el) = chgR s nm ++ ((if chgT s nm = 3 then [] else [(nm,10)]) ++ allT s 1 ex) := by rcases h with rfl | rfl <;> rfl
theorem stR_9 : stR cs own s (.mk 9 nm hd ex th el) = chgR s nm ++ ((if chgT s nm = 1 then [] else [(nm,10)]) ++ allT s 1 ex) := rfl
theorem stR_4 {kd : UInt8} (h : kd = 4 ∨ kd = 5) : stR cs own s (.mk kd nm hd ex th el) = allT s 2 ex := by rcases h with rfl | rfl <;> rfl
theorem stR_6 : stR cs own s (.mk 6 nm hd ex th el) = (if (cpF cs nm).isSome then [] else [(nm,9)]) ++ callR s (((cpF cs nm).map (·.vers)).getD []) hd ex 0 := rfl
theorem stR_7 : stR cs own s (.mk 7 nm hd ex th el) = callR s own hd ex 1 := rfl
theorem stR_8 : stR cs own s (.mk 8 nm hd ex th el) = allT s 1 ex := rfl
theorem stR_no (kd : UInt8) (h1 : ¬ kd = 1) (h2 : ¬ kd = 2) (h3 : ¬ kd = 3) (h9 : ¬ kd = 9) (h4 : ¬ kd = 4) (h5 : ¬ kd = 5) (h6 : ¬ kd = 6) (h7 : ¬ kd = 7) (h8 : ¬ kd = 8) : stR cs own s (.mk kd nm hd ex th el) = [] := by
 simp only [stR];rw [if_neg h1,if_neg (by rintro (h | h) <;> contradiction),if_neg h9,if_neg (by rintro (h | h) <;> contradiction),if_neg h6,if_neg h7,if_neg h8]
end
theorem rp_u8 {w n : Str} {c : Nat} {a : UInt8} {k : Nat} {z : UInt8} (hz : z = UInt8.ofNat k) (hk : k < 256) : rpIf (!decide (((a.toNat : Nat) : Int) = (k : Nat))) w n c = atW w (if a = z then [] else [(n,c)]) := by
 subst hz;rw [show decide (((a.toNat : Nat) : Int) = (k : Nat)) = decide (a = UInt8.ofNat k) from decide_eq_decide.2 (u8n hk)];exact rp_ifp
theorem cpv {H : Hp} {l : List Cp} {n : Str} {x : List Value} (h : match cpF l n with | some a => Rep H (dCp .u8 a) x | none => x = zCp) : ∃ y1 y2 p c,x = [y1,y2,.slice p (((cpF l n).map (·.vers)).getD []).length c] ∧ (∀ u ∈ [y1,y2],u.oneCell' = true) ∧ Rep H (.seq 1 ((((cpF l n).map (·.vers)).getD []).map (dVs .u8))) [.slice p (((cpF l n).map (·.vers)).getD []).length c] := by
 cases e : cpF l n with
 | none => rw [e] at h;subst h;exact ⟨_,_,_,_,rfl,by simp [Value.oneCell'],Rep.empty (by decide)⟩
 | some a =>
  rw [e] at h;obtain ⟨q1,d1,q2,d2,rfl,_,_,k⟩ := cp_open h;exact ⟨_,_,_,_,rfl,by simp [Value.oneCell',strV],k⟩
set_option maxRecDepth 100000 in
theorem statement_st {H : Hp} {w0 W : World} {bs : List Res} {b bb : Nat} {f : Ft} {p1 p2 p3 : Option Addr} {c1 c2 c3 : Nat} {wh : Str} {P : Pb} {sc : Sc} {u1 u2 u3 : Option Addr} {v1 v2 v3 : Nat} {own : Cp} {q1 q2 : Option Addr} {d1 d2 : Nat} {pl : Str} {n : Nat} (hP : PbOk P) (h3 : Rep H (.seq 3 (f.comps.map (dCp .u8))) [.slice p3 f.comps.length c3]) (ks : ScR H sc [.slice u1 sc.flags.length v1,.slice u2 sc.vars.length v2,.slice u3 sc.ps.length v3]) (g2 : Rep H (.seq 1 (own.vers.map (dVs .u8))) [.slice q2 own.vers.length d2]) (kd : UInt8) (nm hd : Str) (ex : List Ex) (th el : List Sm) (p : Option Addr) (c : Nat) (hs : Rep H (.seq 4 (ex.map (dEx .u8))) [.slice p ex.length c]) (r1 r2 : Value) (s : St H w0 (.box bb [.pointer (some ⟨b,0,none⟩),.slice u1 sc.flags.length v1,.slice u2 sc.vars.length v2,.slice u3 sc.ps.length v3,strV own.nm,.slice q1 own.vars.length d1,.slice q2 own.vers.length d2,strV pl,.int .i64 (n : Nat)] 191 :: .box b [strV f.nm,.slice p1 f.flags.length c1,.slice p2 f.links.length c2,.slice p3 f.comps.length c3,strV wh,strV P.wh,strV P.nm,.int .i64 (P.er : Nat)] 110 :: bs) W) :
 Calls Tryz.prog 105 #[.pointer (some ⟨bb,0,none⟩),.agg [.int .u8 kd.toNat,strV nm,strV hd,.slice p ex.length c,r1,r2].toArray] W fun e W' => ∃ _ : Unit,True ∧ e = .returned (.tuple #[]) ∧ St H w0 (.box bb [.pointer (some ⟨b,0,none⟩),.slice u1 sc.flags.length v1,.slice u2 sc.vars.length v2,.slice u3 sc.ps.length v3,strV own.nm,.slice q1 own.vars.length d1,.slice q2 own.vers.length d2,strV pl,.int .i64 (n : Nat)] 191 :: .box b [strV f.nm,.slice p1 f.flags.length c1,.slice p2 f.links.length c2,.slice p3 f.comps.length c3,strV wh,strV (frsP P (atW wh (stR f.comps own.vers sc (.mk kd nm hd ex th el)))).wh,strV (frsP P (atW wh (stR f.comps own.vers sc (.mk kd nm hd ex th el)))).nm,.int .i64 ((frsP P (atW wh (stR f.comps own.vers sc (.mk kd nm hd ex th el)))).er : Nat)] 110 :: bs) W' := by
 obtain ⟨xc,hxc,hcc⟩ := component_any H f.comps nm _ _ _ h3;obtain ⟨y1,y2,pc,cc,rfl,hone2,hvc⟩ := cpv hxc;have hone : ∀ u ∈ [y1,y2,.slice pc (((cpF f.comps nm).map (·.vers)).getD []).length cc],u.oneCell' = true := by simp only [List.mem_cons,List.not_mem_nil,or_false,forall_eq_or_imp,forall_eq] at hone2 ⊢;exact ⟨hone2.1,hone2.2,rfl⟩
 have hownO : ∀ u ∈ [strV own.nm,.slice q1 own.vars.length d1],u.oneCell' = true := by simp [Value.oneCell',strV]
 refine Sx.enterS Tryz.func105 rfl Tryz.ntmps105 rfl s ?_;refine .sr<|.bx Z Z Z fun b3 => .ns<|.yv (.fieldAddr Z Fx.field150_0) Z<|.yv (.load Z Fx.agg148 (.head _) Z) Z<|.nt<|.bk<|.sr<|.yv (.eql Z Z) Z<|.a Z Z<|.nt<|.cr Z (fun h9 => ?_) (fun h9 => ?_)
 ·have e1 : kd = 1 := (u8n (k := 1) (by decide)).1 (of_decide_eq_true h9);refine .sr<|.m Z Z<|.yv (.fieldAddr Z Fx.field150_1) Z<|.yv (.load Z Fx.agg9 (.head _) Z) Z<|.cs (X := Unit) Fx.call120 Z (fun W s => changed_st hP ks nm (s.pickT (hd := [_,_,_]) (tl := bs) (hd' := [_,_,_]) [1,2,0] Z Z)) Z fun _ _ => .a Z Z<|.ns<|.m Z Z<|.yv (.eql Z Z) Z<|.m Z Z<|.b2 (fun h17 => ?_) (fun h17 => ?_)
  ·have t17 : chgT sc nm = 1 := (u8n (k := 1) (by decide)).1 (of_decide_eq_true h17);have t1 : chgT sc nm = 1 ∨ chgT sc nm = 2 := .inl t17;refine .gF Z Z Z Z<|.gF Z Z Z Z<|.yv (.pickT Z Z) Z<|.nt<|.cT Z<|.rg<|.m Z Z<|.m Z Z<|.yv (.fieldAddr Z Fx.field150_3) Z<|.yv (.load Z Fx.agg66 (.tail _<|.tail _<|.head _) Z) Z<|.cs (X := Unit) Fx.call121 Z (fun W s => all_st (frsP_ok hP ((NzR.chg _ _).at _)) ks (chgT sc nm) ex _ _ hs (s.pickT (hd := [_,_,_]) (tl := bs) (hd' := [_,_,_]) [0,1,2] Z Z)) Z fun _ _ => .nl<|.bN<|?_
   refine Sx.retN (.inr rfl) rfl .nil rfl fun W s => ⟨(),trivial,rfl,?_⟩;obtain rfl := e1
   first
    | (rw [stR_1,if_pos t1,← frs_at (NzR.chg _ _)];exact s.pickT (hd := [_,_,_]) (tl := bs) (hd' := [_,_]) [0,1] rfl rfl)
    | (rw [stR_1,if_neg t1,← frs_at (NzR.chg _ _),← rep_at (by decide)];exact s.pickT (hd := [_,_,_]) (tl := bs) (hd' := [_,_]) [0,1] rfl rfl)
  have t17 : ¬ chgT sc nm = 1 := fun e => of_decide_eq_false h17 ((u8n (k := 1) (by decide)).2 e);refine .gd Z Z<|.yv (.move Z) Z<|.gd Z Z<|.yv (.eql Z Z) Z<|.yv (.pickF Z Z) Z<|.nt<|.cd Z (fun h20 => ?_) (fun h20 => ?_)
  ·have t20 : chgT sc nm = 2 := (u8n (k := 2) (by decide)).1 (of_decide_eq_true h20);have t1 : chgT sc nm = 1 ∨ chgT sc nm = 2 := .inr t20;refine .rg<|.m Z Z<|.m Z Z<|.yv (.fieldAddr Z Fx.field150_3) Z<|.yv (.load Z Fx.agg66 (.tail _<|.tail _<|.head _) Z) Z<|.cs (X := Unit) Fx.call121 Z (fun W s => all_st (frsP_ok hP ((NzR.chg _ _).at _)) ks (chgT sc nm) ex _ _ hs (s.pickT (hd := [_,_,_]) (tl := bs) (hd' := [_,_,_]) [0,1,2] Z Z)) Z fun _ _ => .nl<|.bN<|?_
   refine Sx.retN (.inr rfl) rfl .nil rfl fun W s => ⟨(),trivial,rfl,?_⟩;obtain rfl := e1
   first
    | (rw [stR_1,if_pos t1,← frs_at (NzR.chg _ _)];exact s.pickT (hd := [_,_,_]) (tl := bs) (hd' := [_,_]) [0,1] rfl rfl)
    | (rw [stR_1,if_neg t1,← frs_at (NzR.chg _ _),← rep_at (by decide)];exact s.pickT (hd := [_,_,_]) (tl := bs) (hd' := [_,_]) [0,1] rfl rfl)
  have t20 : ¬ chgT sc nm = 2 := fun e => of_decide_eq_false h20 ((u8n (k := 2) (by decide)).2 e);have t1 : ¬ (chgT sc nm = 1 ∨ chgT sc nm = 2) := by rintro (h | h) <;> contradiction
  refine .fl (trip := [(_,_,_),(_,_,_),(_,_,_),(_,_,_),(_,_,_),(_,_,_)]) 6 [(0,0),(1,0),(2,0),(3,0),(4,0),(5,0)] (by kernel_rfl) (by kernel_rfl) Z<|.m Z Z<|.yv (.nilCheck Z) Z<|.yv (.fieldAddr Z Fx.field191_0) Z<|.yv (.load Z Fx.agg108 (.head _) Z) Z<|.yv (.fieldAddr Z Fx.field150_1) Z<|.yv (.load Z Fx.agg9 (.tail _<|.tail _<|.head _) Z) Z<|.fn (tl := [_]) Z<|.cs (X := Unit) Fx.call25 Z (fun W s => report_st 10 _ (frsP_ok hP ((NzR.chg _ _).at _)) (s.pickT (hd := [_,_,_]) (tl := bs) (hd' := [_,_,_]) [1,0,2] Z Z)) Z fun _ _ => .nl<|.bN<|?_
  refine Sx.retN (.inr rfl) rfl .nil rfl fun W s => ⟨(),trivial,rfl,?_⟩;obtain rfl := e1
  first
   | (rw [stR_1,if_pos t1,← frs_at (NzR.chg _ _)];exact s.pickT (hd := [_,_,_]) (tl := bs) (hd' := [_,_]) [1,0] rfl rfl)
   | (rw [stR_1,if_neg t1,← frs_at (NzR.chg _ _),← rep_at (by decide)];exact s.pickT (hd := [_,_,_]) (tl := bs) (hd' := [_,_]) [1,0] rfl rfl)
 have e1 : ¬ kd = 1 := fun e => of_decide_eq_false h9 ((u8n (k := 1) (by decide)).2 e);refine .sq<|.sr<|.yv (.eql Z Z) Z<|.a Z Z<|.nt<|.cr Z (fun h33 => ?_) (fun h33 => ?_)
 ·have e2 : kd = 2 := (u8n (k := 2) (by decide)).1 (of_decide_eq_true h33);refine .sk<|.tN<|.cT Z<|.sq<|.fl (trip := [(_,_,_),(_,_,_),(_,_,_),(_,_,_),(_,_,_),(_,_,_),(_,_,_),(_,_,_),(_,_,_),(_,_,_),(_,_,_)]) 11 [(0,0),(1,0),(2,0),(3,0),(4,0),(5,0),(6,0),(9,0),(10,0),(7,3),(8,0)] (by kernel_rfl) (by kernel_rfl) Z<|.m Z Z<|.yv (.nilCheck Z) Z<|.yv (.fieldAddr Z Fx.field191_0) Z<|.yv (.load Z Fx.agg108 (.tail _<|.head _) Z) Z<|.m Z Z<|.yv (.fieldAddr Z Fx.field150_1) Z<|.yv (.load Z Fx.agg9 (.head _) Z) Z<|.yv (.fieldAddr Z Fx.field150_1) Z<|.yv (.load Z Fx.agg9 (.head _) Z) Z<|.c3 (X := Unit) Fx.call120 Z (fun W s => changed_st hP ks nm (s.pickT (hd := [_,_,_]) (tl := bs) (hd' := [_,_,_]) [1,2,0] Z Z)) Z (fun _ _ => (.yv (.load Z Fx.agg9 (.tail _<|.tail _<|.head _) Z)<|.yv (.fieldAddr Z Fx.field150_1)<|.done (by kernel_rfl)<|.done (by kernel_rfl)<|.done (by kernel_rfl)<|.yv (.load Z Fx.agg108 (.head _) Z)<|.yv (.fieldAddr Z Fx.field191_0)<|.yv (.nilCheck Z)<|.yv (.move Z)<|.nl)) fun _ _ => .yv (.eql Z Z) Z<|.fn (tl := [_]) Z<|.cs (X := Unit) Fx.call53 Z (fun W s => unless_st _ 10 _ (frsP_ok hP ((NzR.chg _ _).at _)) (by decide) (s.pickT (hd := [_,_,_]) (tl := bs) (hd' := [_,_,_]) [1,0,2] Z Z)) Z fun _ _ => .nt<|.rg<|.m Z Z<|.yv (.fieldAddr Z Fx.field150_3) Z<|.yv (.load Z Fx.agg66 (.tail _<|.tail _<|.head _) Z) Z<|.cs (X := Unit) Fx.call121 Z (fun W s => all_st (frsP_ok (frsP_ok hP ((NzR.chg _ _).at _)) (NzP.if_ (by decide))) ks 1 ex _ _ hs (s.pickT (hd := [_,_,_]) (tl := bs) (hd' := [_,_,_]) [1,0,2] Z Z)) Z fun _ _ => .nl<|.bN<|?_
  refine Sx.retN (.inr rfl) rfl .nil rfl fun W s => ⟨(),trivial,rfl,?_⟩;obtain rfl := e2
  first
   | (rw [stR_2 (.inl rfl),← frs_at (NzR.chg _ _),← frs_at (by split;exact .nil;exact .one (by decide)),← rp_u8 (z := 3) (k := 3) rfl (by decide)];exact s.pickT (hd := [_,_,_]) (tl := bs) (hd' := [_,_]) [0,1] rfl rfl)
 have e2 : ¬ kd = 2 := fun e => of_decide_eq_false h33 ((u8n (k := 2) (by decide)).2 e);refine .rg<|.yv (.eql Z Z) Z<|.a Z Z<|.nt<|.cr Z (fun h33 => ?_) (fun h33 => ?_)
 ·have e3 : kd = 3 := (u8n (k := 3) (by decide)).1 (of_decide_eq_true h33);refine .sq<|.fl (trip := [(_,_,_),(_,_,_),(_,_,_),(_,_,_),(_,_,_),(_,_,_),(_,_,_),(_,_,_),(_,_,_),(_,_,_),(_,_,_)]) 11 [(0,0),(1,0),(2,0),(3,0),(4,0),(5,0),(6,0),(9,0),(10,0),(7,3),(8,0)] (by kernel_rfl) (by kernel_rfl) Z<|.m Z Z<|.yv (.nilCheck Z) Z<|.yv (.fieldAddr Z Fx.field191_0) Z<|.yv (.load Z Fx.agg108 (.tail _<|.head _) Z) Z<|.m Z Z<|.yv (.fieldAddr Z Fx.field150_1) Z<|.yv (.load Z Fx.agg9 (.head _) Z) Z<|.yv (.fieldAddr Z Fx.field150_1) Z<|.yv (.load Z Fx.agg9 (.head _) Z) Z<|.c3 (X := Unit) Fx.call120 Z (fun W s => changed_st hP ks nm (s.pickT (hd := [_,_,_]) (tl := bs) (hd' := [_,_,_]) [1,2,0] Z Z)) Z (fun _ _ => (.yv (.load Z Fx.agg9 (.tail _<|.tail _<|.head _) Z)<|.yv (.fieldAddr Z Fx.field150_1)<|.done (by kernel_rfl)<|.done (by kernel_rfl)<|.done (by kernel_rfl)<|.yv (.load Z Fx.agg108 (.head _) Z)<|.yv (.fieldAddr Z Fx.field191_0)<|.yv (.nilCheck Z)<|.yv (.move Z)<|.nl)) fun _ _ => .yv (.eql Z Z) Z<|.fn (tl := [_]) Z<|.cs (X := Unit) Fx.call53 Z (fun W s => unless_st _ 10 _ (frsP_ok hP ((NzR.chg _ _).at _)) (by decide) (s.pickT (hd := [_,_,_]) (tl := bs) (hd' := [_,_,_]) [1,0,2] Z Z)) Z fun _ _ => .nt<|.rg<|.m Z Z<|.yv (.fieldAddr Z Fx.field150_3) Z<|.yv (.load Z Fx.agg66 (.tail _<|.tail _<|.head _) Z) Z<|.cs (X := Unit) Fx.call121 Z (fun W s => all_st (frsP_ok (frsP_ok hP ((NzR.chg _ _).at _)) (NzP.if_ (by decide))) ks 1 ex _ _ hs (s.pickT (hd := [_,_,_]) (tl := bs) (hd' := [_,_,_]) [1,0,2] Z Z)) Z fun _ _ => .nl<|.bN<|?_
  refine Sx.retN (.inr rfl) rfl .nil rfl fun W s => ⟨(),trivial,rfl,?_⟩;obtain rfl := e3
  first
   | (rw [stR_2 (.inr rfl),← frs_at (NzR.chg _ _),← frs_at (by split;exact .nil;exact .one (by decide)),← rp_u8 (z := 3) (k := 3) rfl (by decide)];exact s.pickT (hd := [_,_,_]) (tl := bs) (hd' := [_,_]) [0,1] rfl rfl)
 have e3 : ¬ kd = 3 := fun e => of_decide_eq_false h33 ((u8n (k := 3) (by decide)).2 e);refine .sr<|.yv (.eql Z Z) Z<|.a Z Z<|.nt<|.cr Z (fun h52 => ?_) (fun h52 => ?_)
 ·have e9 : kd = 9 := (u8n (k := 9) (by decide)).1 (of_decide_eq_true h52);refine .sq<|.fl (trip := [(_,_,_),(_,_,_),(_,_,_),(_,_,_),(_,_,_),(_,_,_),(_,_,_),(_,_,_),(_,_,_),(_,_,_),(_,_,_)]) 11 [(0,0),(1,0),(2,0),(3,0),(4,0),(5,0),(6,0),(9,0),(10,0),(7,3),(8,0)] (by kernel_rfl) (by kernel_rfl) Z<|.m Z Z<|.yv (.nilCheck Z) Z<|.yv (.fieldAddr Z Fx.field191_0) Z<|.yv (.load Z Fx.agg108 (.tail _<|.head _) Z) Z<|.m Z Z<|.yv (.fieldAddr Z Fx.field150_1) Z<|.yv (.load Z Fx.agg9 (.head _) Z) Z<|.yv (.fieldAddr Z Fx.field150_1) Z<|.yv (.load Z Fx.agg9 (.head _) Z) Z<|.c3 (X := Unit) Fx.call120 Z (fun W s => changed_st hP ks nm (s.pickT (hd := [_,_,_]) (tl := bs) (hd' := [_,_,_]) [1,2,0] Z Z)) Z (fun _ _ => (.yv (.load Z Fx.agg9 (.tail _<|.tail _<|.head _) Z)<|.yv (.fieldAddr Z Fx.field150_1)<|.done (by kernel_rfl)<|.done (by kernel_rfl)<|.done (by kernel_rfl)<|.yv (.load Z Fx.agg108 (.head _) Z)<|.yv (.fieldAddr Z Fx.field191_0)<|.yv (.nilCheck Z)<|.yv (.move Z)<|.nl)) fun _ _ => .yv (.eql Z Z) Z<|.fn (tl := [_]) Z<|.cs (X := Unit) Fx.call53 Z (fun W s => unless_st _ 10 _ (frsP_ok hP ((NzR.chg _ _).at _)) (by decide) (s.pickT (hd := [_,_,_]) (tl := bs) (hd' := [_,_,_]) [1,0,2] Z Z)) Z fun _ _ => .nt<|.rg<|.m Z Z<|.yv (.fieldAddr Z Fx.field150_3) Z<|.yv (.load Z Fx.agg66 (.tail _<|.tail _<|.head _) Z) Z<|.cs (X := Unit) Fx.call121 Z (fun W s => all_st (frsP_ok (frsP_ok hP ((NzR.chg _ _).at _)) (NzP.if_ (by decide))) ks 1 ex _ _ hs (s.pickT (hd := [_,_,_]) (tl := bs) (hd' := [_,_,_]) [1,0,2] Z Z)) Z fun _ _ => .nl<|.bN<|?_
  refine Sx.retN (.inr rfl) rfl .nil rfl fun W s => ⟨(),trivial,rfl,?_⟩;obtain rfl := e9
  first
   | (rw [stR_9,← frs_at (NzR.chg _ _),← frs_at (by split;exact .nil;exact .one (by decide)),← rp_u8 (z := 1) (k := 1) rfl (by decide)];exact s.pickT (hd := [_,_,_]) (tl := bs) (hd' := [_,_]) [0,1] rfl rfl)
 have e9 : ¬ kd = 9 := fun e => of_decide_eq_false h52 ((u8n (k := 9) (by decide)).2 e);refine .sq<|.sr<|.yv (.eql Z Z) Z<|.a Z Z<|.nt<|.cr Z (fun h70 => ?_) (fun h70 => ?_)
 ·have e4 : kd = 4 := (u8n (k := 4) (by decide)).1 (of_decide_eq_true h70);refine .sk<|.tN<|.cT Z<|.rg<|.m Z Z<|.yv (.fieldAddr Z Fx.field150_3) Z<|.yv (.load Z Fx.agg66 (.head _) Z) Z<|.cs (X := Unit) Fx.call121 Z (fun W s => all_st (hP) ks 2 ex _ _ hs (s.pickT (hd := [_,_,_]) (tl := bs) (hd' := [_,_,_]) [1,2,0] Z Z)) Z fun _ _ => .nl<|.bN<|?_
  refine Sx.retN (.inr rfl) rfl .nil rfl fun W s => ⟨(),trivial,rfl,?_⟩;obtain rfl := e4
  first
   | (rw [stR_4 (.inl rfl)];exact s.pickT (hd := [_,_,_]) (tl := bs) (hd' := [_,_]) [0,1] rfl rfl)
 have e4 : ¬ kd = 4 := fun e => of_decide_eq_false h70 ((u8n (k := 4) (by decide)).2 e);refine .rg<|.yv (.eql Z Z) Z<|.a Z Z<|.nt<|.cr Z (fun h70 => ?_) (fun h70 => ?_)
 ·have e5 : kd = 5 := (u8n (k := 5) (by decide)).1 (of_decide_eq_true h70);refine .rg<|.m Z Z<|.yv (.fieldAddr Z Fx.field150_3) Z<|.yv (.load Z Fx.agg66 (.head _) Z) Z<|.cs (X := Unit) Fx.call121 Z (fun W s => all_st (hP) ks 2 ex _ _ hs (s.pickT (hd := [_,_,_]) (tl := bs) (hd' := [_,_,_]) [1,2,0] Z Z)) Z fun _ _ => .nl<|.bN<|?_
  refine Sx.retN (.inr rfl) rfl .nil rfl fun W s => ⟨(),trivial,rfl,?_⟩;obtain rfl := e5
  first
   | (rw [stR_4 (.inr rfl)];exact s.pickT (hd := [_,_,_]) (tl := bs) (hd' := [_,_]) [0,1] rfl rfl)
 have e5 : ¬ kd = 5 := fun e => of_decide_eq_false h70 ((u8n (k := 5) (by decide)).2 e);refine .sr<|.yv (.eql Z Z) Z<|.a Z Z<|.nt<|.cr Z (fun h77 => ?_) (fun h77 => ?_)
 ·have e6 : kd = 6 := (u8n (k := 6) (by decide)).1 (of_decide_eq_true h77);refine .sq<|.fl (trip := [(_,_,_),(_,_,_),(_,_,_),(_,_,_),(_,_,_),(_,_,_),(_,_,_),(_,_,_),(_,_,_),(_,_,_),(_,_,_),(_,_,_),(_,_,_),(_,_,_),(_,_,_),(_,_,_)]) 16 [(0,0),(1,0),(2,0),(3,0),(4,0),(5,0),(6,0),(7,0),(8,0),(9,0),(10,0),(11,0),(12,0),(13,0),(14,1),(15,3)] (by kernel_rfl) (by kernel_rfl) Z<|.m Z Z<|.yv (.nilCheck Z) Z<|.yv (.fieldAddr Z Fx.field191_0) Z<|.yv (.load Z Fx.agg108 (.tail _<|.head _) Z) Z<|.yv (.nilCheck Z) Z<|.yv (.fieldAddr Z Fx.field110_0) Z<|.yv (.fieldAddr Z Fx.field37_3) Z<|.yv (.load Z Fx.agg35 (.tail _<|.tail _<|.head _) Z) Z<|.yv (.fieldAddr Z Fx.field150_1) Z<|.yv (.load Z Fx.agg9 (.head _) Z) Z<|.yv (.call Fx.call55 Z (fun W s => hcc W s.agr)) Z<|.m Z Z<|.yv (.extract Z Z) Z<|.yv (.extract Z Z) Z<|.al Fx.zero96 Z fun b5 => .sW .head Z Z Fx.size96 hone Z ((.yv (.extract Z Z)<|.done (by kernel_rfl)<|.done (by kernel_rfl)<|.done (by kernel_rfl)<|.done (by kernel_rfl)<|.done (by kernel_rfl)<|.done (by kernel_rfl)<|.done (by kernel_rfl)<|.done (by kernel_rfl)<|.done (by kernel_rfl)<|.done (by kernel_rfl)<|.done (by kernel_rfl)<|.done (by kernel_rfl)<|.done (by kernel_rfl)<|.nl))<|.fn (tl := [_]) Z<|.a Z Z<|.nt<|.sq<|.fl (trip := [(_,_,_),(_,_,_),(_,_,_),(_,_,_),(_,_,_),(_,_,_),(_,_,_)]) 7 [(0,0),(1,0),(2,0),(3,0),(4,0),(5,0),(6,0)] (by kernel_rfl) (by kernel_rfl) Z<|.m Z Z<|.yv (.nilCheck Z) Z<|.yv (.fieldAddr Z Fx.field191_0) Z<|.yv (.load Z Fx.agg108 (.tail _<|.tail _<|.head _) Z) Z<|.m Z Z<|.yv (.fieldAddr Z Fx.field150_1) Z<|.yv (.load Z Fx.agg9 (.tail _<|.head _) Z) Z<|.fn (tl := [_]) Z<|.cs (X := Unit) Fx.call53 Z (fun W s => unless_st _ 9 _ (hP) (by decide) (s.pickT (hd := [_,_,_,_]) (tl := bs) (hd' := [_,_,_,_]) [3,0,1,2] Z Z)) Z fun _ _ => .nt<|.rg<|.m Z Z<|.yv (.loadW Z Fx.agg96 (.tail _<|.head _) Z) Z<|.yv (.fieldAddr Z Fx.field150_2) Z<|.yv (.load Z Fx.agg9 (.tail _<|.tail _<|.head _) Z) Z<|.yv (.fieldAddr Z Fx.field150_3) Z<|.yv (.load Z Fx.agg66 (.tail _<|.tail _<|.head _) Z) Z<|.cs (X := Unit) Fx.call122 Z (fun W s => call_st (frsP_ok hP (NzP.if_ (by decide))) ks _ hd ex 0 (by omega) _ _ hone2 _ _ hvc _ _ hs (s.pickT (hd := [_,_,_,_]) (tl := bs) (hd' := [_,_,_,_]) [3,0,1,2] Z Z)) Z fun _ _ => .nl<|.bN<|?_
  refine Sx.retN (.inr rfl) rfl .nil rfl fun W s => ⟨(),trivial,rfl,?_⟩;obtain rfl := e6
  first
   | (rw [stR_6,← frs_at (by split;exact .nil;exact .one (by decide)),← rp_if];exact s.pickT (hd := [_,_,_,_]) (tl := bs) (hd' := [_,_]) [0,1] rfl rfl)
 have e6 : ¬ kd = 6 := fun e => of_decide_eq_false h77 ((u8n (k := 6) (by decide)).2 e);refine .sr<|.yv (.eql Z Z) Z<|.a Z Z<|.nt<|.cr Z (fun h108 => ?_) (fun h108 => ?_)
 ·have e7 : kd = 7 := (u8n (k := 7) (by decide)).1 (of_decide_eq_true h108);refine .fl (trip := [(_,_,_),(_,_,_),(_,_,_),(_,_,_),(_,_,_),(_,_,_),(_,_,_),(_,_,_),(_,_,_)]) 9 [(0,0),(1,0),(2,0),(3,0),(4,0),(5,0),(6,0),(7,0),(8,0)] (by kernel_rfl) (by kernel_rfl) Z<|.m Z Z<|.m Z Z<|.yv (.nilCheck Z) Z<|.yv (.fieldAddr Z Fx.field191_2) Z<|.yv (.loadS (vs := [_,_,_]) Z Fx.agg96 (.tail _<|.head _) Z (subL Z)) Z<|.yv (.fieldAddr Z Fx.field150_2) Z<|.yv (.load Z Fx.agg9 (.head _) Z) Z<|.yv (.fieldAddr Z Fx.field150_3) Z<|.yv (.load Z Fx.agg66 (.head _) Z) Z<|.fn (tl := [_]) Z<|.cs (X := Unit) Fx.call122 Z (fun W s => call_st hP ks own.vers hd ex 1 (by omega) _ _ hownO _ _ g2 _ _ hs (s.pickT (hd := [_,_,_]) (tl := bs) (hd' := [_,_,_]) [1,2,0] Z Z)) Z fun _ _ => .nl<|.bN<|?_
  refine Sx.retN (.inr rfl) rfl .nil rfl fun W s => ⟨(),trivial,rfl,?_⟩;obtain rfl := e7
  first
   | (rw [stR_7];exact s.pickT (hd := [_,_,_]) (tl := bs) (hd' := [_,_]) [0,1] rfl rfl)
 have e7 : ¬ kd = 7 := fun e => of_decide_eq_false h108 ((u8n (k := 7) (by decide)).2 e);refine .sr<|.yv (.eql Z Z) Z<|.a Z Z<|.nt<|.cr Z (fun h120 => ?_) (fun h120 => ?_)
 ·have e8 : kd = 8 := (u8n (k := 8) (by decide)).1 (of_decide_eq_true h120);refine .rg<|.m Z Z<|.yv (.fieldAddr Z Fx.field150_3) Z<|.yv (.load Z Fx.agg66 (.head _) Z) Z<|.cs (X := Unit) Fx.call121 Z (fun W s => all_st (hP) ks 1 ex _ _ hs (s.pickT (hd := [_,_,_]) (tl := bs) (hd' := [_,_,_]) [1,2,0] Z Z)) Z fun _ _ => .nl<|.bN<|?_
  refine Sx.retN (.inr rfl) rfl .nil rfl fun W s => ⟨(),trivial,rfl,?_⟩;obtain rfl := e8
  first
   | (rw [stR_8];exact s.pickT (hd := [_,_,_]) (tl := bs) (hd' := [_,_]) [0,1] rfl rfl)
 have e8 : ¬ kd = 8 := fun e => of_decide_eq_false h120 ((u8n (k := 8) (by decide)).2 e);refine .sk<|.bN<|?_
 refine Sx.retN (.inr rfl) rfl .nil rfl fun W s => ⟨(),trivial,rfl,?_⟩
 first
  | (rw [stR_no kd (by assumption) (by assumption) (by assumption) (by assumption) (by assumption) (by assumption) (by assumption) (by assumption) (by assumption),show frsP P (atW wh []) = P from frsP_nil hP];exact s.pickT (hd := [_,_,_]) (tl := bs) (hd' := [_,_]) [1,2] rfl rfl)
theorem Fx.call59 : callN Tryz.prog 59 = Bool.true := by kernel_rfl
theorem Fx.call89 : callN Tryz.prog 89 = Bool.true := by kernel_rfl
theorem Fx.call105 : callN Tryz.prog 105 = Bool.true := by kernel_rfl
theorem Fx.field191_3 : fieldN Tryz.prog 191 3 = Option.some 7 := by kernel_rfl
theorem Fx.field191_4 : fieldN Tryz.prog 191 4 = Option.some 8 := by kernel_rfl
theorem itoaN_dec (k : Nat) : itoaN k = Lib.decDigits k := by rw [itoaN,Lib.itoa,if_neg (by omega),Int.toNat_natCast]
theorem itoaN_le {k : Nat} (h : k < 100) : (itoaN k).length ≤ 21 := Lib.itoa_length_le _ (by omega) (by omega)
theorem itoaS_any (H : Hp) (k : Nat) (hk : k < 100) (w : World) (hA : Agr H w) : Calls Tryz.prog 59 #[.int .i64 (k : Nat)] w fun r w' => r = .returned (strV (itoaN k)) ∧ Ext w w' :=
 (Tryz.strconv_Itoa_small k hk w).mono fun _ _ ⟨he,hw⟩ => ⟨by rw [he,itoaN_dec];rfl,hw ▸ .refl _⟩
theorem scs_succ {l : List Sm} {k : Nat} {x : Sm} (h : k < l.length) (hx : l[k] = x) : Sm.counts (l.take (k + 1)) = Sm.counts (l.take k) + Sm.count x := by
 rw [take_snoc h,hx]
 have key : ∀ a c : List Sm,Sm.counts (a ++ c) = Sm.counts a + Sm.counts c := by
  intro a c;induction a with
  | nil => simp [Sm.counts]
  | cons e r ih => simp only [List.cons_append,Sm.counts,ih];omega
 rw [key];simp [Sm.counts]
theorem scs_le {l : List Sm} {k : Nat} {x : Sm} (h : k < l.length) (hx : l[k] = x) : Sm.counts (l.take k) + Sm.count x ≤ Sm.counts l := by
 have e : l = l.take (k + 1) ++ l.drop (k + 1) := (List.take_append_drop _ _).symm
 have key : ∀ a c : List Sm,Sm.counts (a ++ c) = Sm.counts a + Sm.counts c := by
  intro a c;induction a with
  | nil => simp [Sm.counts]
  | cons e r ih => simp only [List.cons_append,Sm.counts,ih];omega
 rw [← scs_succ h hx];have := congrArg Sm.counts e;rw [key] at this;omega
theorem stLs_done {cs : List Cp} {own : List (List Hd)} {s : Sc} {pl : Str} {n k : Nat} {l : List Sm} {P : Pb} (h : (frsP P (stLs cs own s pl n (l.take k))).er ≠ 0) : frsP P (stLs cs own s pl n l) = frsP P (stLs cs own s pl n (l.take k)) := by
 have e : l = l.take k ++ l.drop k := (List.take_append_drop _ _).symm;rw [show stLs cs own s pl n l = stLs cs own s pl n (l.take k ++ l.drop k) by rw [← e],stLs_app,← frsP_app (NzP.sts _ _ _ _ _ _),frsP_keep h]
theorem stLs_next {cs : List Cp} {own : List (List Hd)} {s : Sc} {pl : Str} {n k : Nat} {l : List Sm} {x : Sm} (h : k < l.length) (hx : l[k] = x) : stLs cs own s pl n (l.take (k + 1)) = stLs cs own s pl n (l.take k) ++ stL cs own s pl (n + Sm.counts (l.take k)) x := by
 rw [take_snoc h,hx,stLs_app];simp [stLs]
theorem par1_at {f : Ft} {c : Cp} {n : Nat} {h : Hd} {k : Nat} {p : Str} (hk : k < h.ps.length) (hx : h.ps[k] = p) : par1 f c n h k = rpIf ((varF c.vars p).isSome || flagB f.flags p || hasB (h.ps.take k) p) (hdlW c n h) p 5 := by
 unfold par1;rw [List.getElem?_eq_getElem hk,hx]
def StsFn (H : Hp) (w0 : World) (b bb : Nat) (f : Ft) (p1 p2 p3 : Option Addr) (c1 c2 c3 : Nat) (sc : Sc) (u1 u2 u3 : Option Addr) (v1 v2 v3 : Nat) (own : Cp) (q1 q2 : Option Addr) (d1 d2 : Nat) (pl : Str) (l : List Sm) : Prop := ∀ (bs : List Res) (W : World) (wh : Str) (P : Pb) (n : Nat) (p : Option Addr) (c : Nat),PbOk P → n + Sm.counts l ≤ 100 → Rep H (.seq 6 (l.map (dSm .u8))) [.slice p l.length c] → St H w0 (.box bb [.pointer (some ⟨b,0,none⟩),.slice u1 sc.flags.length v1,.slice u2 sc.vars.length v2,.slice u3 sc.ps.length v3,strV own.nm,.slice q1 own.vars.length d1,.slice q2 own.vers.length d2,strV pl,.int .i64 (n : Nat)] 191 :: .box b [strV f.nm,.slice p1 f.flags.length c1,.slice p2 f.links.length c2,.slice p3 f.comps.length c3,strV wh,strV P.wh,strV P.nm,.int .i64 (P.er : Nat)] 110 :: bs) W →
 Calls Tryz.prog 89 #[.pointer (some ⟨bb,0,none⟩),.slice p l.length c] W fun e W' => ∃ z : Str × Nat,(((frsP P (stLs f.comps own.vers sc pl n l)).er = 0 → z.2 = n + Sm.counts l) ∧ z.2 ≤ n + Sm.counts l) ∧ e = .returned (.tuple #[]) ∧ St H w0 (.box bb [.pointer (some ⟨b,0,none⟩),.slice u1 sc.flags.length v1,.slice u2 sc.vars.length v2,.slice u3 sc.ps.length v3,strV own.nm,.slice q1 own.vars.length d1,.slice q2 own.vers.length d2,strV pl,.int .i64 (z.2 : Nat)] 191 :: .box b [strV f.nm,.slice p1 f.flags.length c1,.slice p2 f.links.length c2,.slice p3 f.comps.length c3,strV z.1,strV (frsP P (stLs f.comps own.vers sc pl n l)).wh,strV (frsP P (stLs f.comps own.vers sc pl n l)).nm,.int .i64 ((frsP P (stLs f.comps own.vers sc pl n l)).er : Nat)] 110 :: bs) W'
set_option maxRecDepth 100000 in
theorem sts_walk (H : Hp) (w0 : World) (b bb : Nat) (f : Ft) (p1 p2 p3 : Option Addr) (c1 c2 c3 : Nat) (sc : Sc) (u1 u2 u3 : Option Addr) (v1 v2 v3 : Nat) (own : Cp) (q1 q2 : Option Addr) (d1 d2 : Nat) (pl : Str) (h3 : Rep H (.seq 3 (f.comps.map (dCp .u8))) [.slice p3 f.comps.length c3]) (ks : ScR H sc [.slice u1 sc.flags.length v1,.slice u2 sc.vars.length v2,.slice u3 sc.ps.length v3]) (g2 : Rep H (.seq 1 (own.vers.map (dVs .u8))) [.slice q2 own.vers.length d2]) (hpl : pl.length ≤ 1000000000) (l : List Sm) (hall : ∀ x ∈ l,match x with | .mk _ _ _ _ th el => StsFn H w0 b bb f p1 p2 p3 c1 c2 c3 sc u1 u2 u3 v1 v2 v3 own q1 q2 d1 d2 pl th ∧ StsFn H w0 b bb f p1 p2 p3 c1 c2 c3 sc u1 u2 u3 v1 v2 v3 own q1 q2 d1 d2 pl el) : StsFn H w0 b bb f p1 p2 p3 c1 c2 c3 sc u1 u2 u3 v1 v2 v3 own q1 q2 d1 d2 pl l := by
 intro bs W wh P n p c hP hn hs s;have hcap := hs.cap;refine Sx.enterS Tryz.func89 rfl Tryz.ntmps89 rfl s ?_;refine .sr<|.m Z Z<|.yv (.lenSl Fx.sl104 Z) Z<|.m Z Z<|.nt<|.bk<|.lp (X := Nat × Str × Pb × Nat) [(0,_),(6,_),(7,_)] ⟨rfl,rfl,rfl,trivial⟩ (bs) (fun z => [(8,.int .i64 (z.1 : Nat))]) (fun z => H) (fun z => [.box bb [.pointer (some ⟨b,0,none⟩),.slice u1 sc.flags.length v1,.slice u2 sc.vars.length v2,.slice u3 sc.ps.length v3,strV own.nm,.slice q1 own.vars.length d1,.slice q2 own.vers.length d2,strV pl,.int .i64 (z.2.2.2 : Nat)] 191,.box b [strV f.nm,.slice p1 f.flags.length c1,.slice p2 f.links.length c2,.slice p3 f.comps.length c3,strV z.2.1,strV z.2.2.1.wh,strV z.2.2.1.nm,.int .i64 (z.2.2.1.er : Nat)] 110]) (fun z => z.1 ≤ l.length ∧ z.2.2.1 = frsP P (stLs f.comps own.vers sc pl n (l.take z.1)) ∧ (z.2.2.1.er = 0 → z.2.2.2 = n + Sm.counts (l.take z.1)) ∧ z.2.2.2 ≤ n + Sm.counts (l.take z.1)) (fun z => l.length - z.1) (0,wh,P,n) (fun _ s => s) ⟨rfl,trivial⟩ ⟨Nat.zero_le _,(frsP_nil hP).symm,fun _ => rfl,Nat.le_refl _⟩ fun z hC => ?_
 obtain ⟨k,wh1,P1,m⟩ := z;obtain ⟨hk0,hP1,hm1,hm2⟩ := hC;dsimp only at hk0 hP1 hm1 hm2 ⊢;have hPo : PbOk P1 := by rw [hP1];exact frsP_ok hP (NzP.sts _ _ _ _ _ _)
 refine .sr<|.yv (.lss Z Z) Z<|.nt<|.sq<|.cd Z (fun h9 => ?_) (fun h9 => ?_)
 ·try simp only [dt] at h9
  have hk : k < l.length := by omega
  obtain ⟨bE,oE,cE,hpE,rE,lE,mE⟩ := hs.elem (map_at (f := dSm .u8) hk);cases hpE;have hIH := hall l[k] (List.getElem_mem hk);generalize hxE : l[k] = xE at rE hIH;obtain ⟨kd,nm,hd,ex,th,el⟩ := xE;obtain ⟨e1,f1,e2,f2,e3,f3,rfl,r1,r2,r3,_,_⟩ := sm_open rE;obtain ⟨ih1,ih2⟩ := hIH;have hcn := scs_le hk hxE;have hcn2 := scs_succ hk hxE;rw [scount_mk] at hcn hcn2;have hil := itoaN_le (k := m) (by omega);refine .sk<|.tN<|.sq<|.bk<|.sr<|.yv (.indexSl Fx.sl104 Z Z Z (by omega) (q := oE + k * 6) Z) Z<|.yv (.loadMW Z Fx.agg150 mE Z) Z<|.al Fx.zero150 Z fun b5 => .sW .head Z Z Fx.size150 (by simp [Value.oneCell',strV]) Z<|.nt<|.sq<|.sq<|.fl (trip := [(_,_,_),(_,_,_),(_,_,_),(_,_,_),(_,_,_),(_,_,_),(_,_,_),(_,_,_),(_,_,_),(_,_,_),(_,_,_),(_,_,_),(_,_,_),(_,_,_),(_,_,_)]) 15 [(0,0),(1,0),(2,0),(3,0),(4,0),(5,0),(6,0),(7,0),(8,0),(9,0),(10,0),(11,0),(12,0),(13,0),(14,3)] (by kernel_rfl) (by kernel_rfl) Z<|.m Z Z<|.yv (.nilCheck Z) Z<|.yv (.fieldAddr Z Fx.field191_0) Z<|.yv (.load Z Fx.agg108 (.tail _<|.head _) Z) Z<|.m Z Z<|.yv (.nilCheck Z) Z<|.yv (.fieldAddr Z Fx.field191_3) Z<|.yv (.load Z Fx.agg9 (.tail _<|.head _) Z) Z<|.m Z Z<|.yv (.nilCheck Z) Z<|.yv (.fieldAddr Z Fx.field191_4) Z<|.yv (.load Z Fx.agg3 (.tail _<|.head _) Z) Z<|.yv (.call Fx.call59 Z (fun W s => itoaS_any H m (by omega) W s.agr)) Z<|.yv (.app Z Z (by omega)) Z<|.c3 (X := Unit) Fx.call52 Z (fun W s => at_st (pl ++ itoaN m) (s.pickT (hd := [_,_,_]) (tl := bs) (hd' := [_,_,_]) [2,0,1] Z Z)) Z (fun _ _ => (.done (by kernel_rfl)<|.done (by kernel_rfl)<|.done (by kernel_rfl)<|.done (by kernel_rfl)<|.done (by kernel_rfl)<|.done (by kernel_rfl)<|.done (by kernel_rfl)<|.done (by kernel_rfl)<|.done (by kernel_rfl)<|.done (by kernel_rfl)<|.done (by kernel_rfl)<|.done (by kernel_rfl)<|.done (by kernel_rfl)<|.done (by kernel_rfl)<|.nl)) fun _ _ => .fn (tl := [_]) Z<|.yv (.not Z) Z<|.nt<|.cd Z (fun h27 => ?_) (fun h27 => ?_)
  ·try simp only [dt] at h27
   have hne : P1.er ≠ 0 := by simpa using h27
   refine .rt<|.tR<|.bR<|.tR<|.tR<|.bR<|?_
   refine Sx.retN (.inl rfl) rfl .nil rfl fun W s => ⟨(pl ++ itoaN m,m),?_,rfl,?_⟩
   ·rw [stLs_done (hP1 ▸ hne)];exact ⟨fun e => absurd e (hP1 ▸ hne),by dsimp only;omega⟩
   rw [stLs_done (hP1 ▸ hne),← hP1];exact s.pickT (hd := [_,_,_]) (tl := bs) (hd' := [_,_]) [2,0] rfl rfl
  try simp only [df] at h27
  have hz : P1.er = 0 := by simpa using h27
  have hm := hm1 hz;have eLast : frsP P (stLs f.comps own.vers sc pl n (l.take (k + 1))) = frsP (frsP (frsP P1 (atW (pl ++ itoaN m) (stR f.comps own.vers sc (.mk kd nm hd ex th el)))) (stLs f.comps own.vers sc pl (m + 1) th)) (stLs f.comps own.vers sc pl (m + 1 + Sm.counts th) el) := by rw [stLs_next hk hxE,← frsP_app (NzP.sts _ _ _ _ _ _),← hP1,← hm,stL_mk,← frsP_app ((NzR.st _ _ _ _).at _),← frsP_app (NzP.sts _ _ _ _ _ _)]
  have hPa : PbOk (frsP P1 (atW (pl ++ itoaN m) (stR f.comps own.vers sc (.mk kd nm hd ex th el)))) := frsP_ok hPo ((NzR.st _ _ _ _).at _);have hPb := frsP_ok hPa (NzP.sts f.comps own.vers sc pl (m + 1) th);refine .sk<|.tN<|.sr<|.m Z Z<|.yv (.nilCheck Z) Z<|.yv (.fieldAddr Z Fx.field191_4) Z<|.yv (.load Z Fx.agg3 (.tail _<|.tail _<|.head _) Z) Z<|.yv (.add Z Z (w6 (by omega))) Z<|.yv (.nilCheck Z) Z<|.yv (.fieldAddr Z Fx.field191_4) Z<|.st (.tail<|.tail<|.head) Z Z Fx.size3 Z (nb Z) Z<|.ns<|.m Z Z<|.yv (.loadW Z Fx.agg150 (.tail _<|.head _) Z) Z<|.cs (X := Unit) Fx.call105 Z (fun W s => statement_st hPo h3 ks g2 kd nm hd ex th el _ _ r1 _ _ (s.pickT (hd := [_,_,_]) (tl := bs) (hd' := [_,_,_]) [2,0,1] Z Z)) Z fun _ _ => .ns<|.m Z Z<|.yv (.fieldAddr Z Fx.field150_4) Z<|.yv (.load Z Fx.agg104 (.tail _<|.tail _<|.head _) Z) Z<|.cs (X := Str × Nat) Fx.call89 Z (fun W s => ih1 _ _ _ _ (m + 1) _ _ hPa (by omega) r2 (s.pickT (hd := [_,_,_]) (tl := bs) (hd' := [_,_,_]) [0,1,2] Z Z)) Z fun z1 h1z => ?_
  obtain ⟨hz1,hz1b⟩ := h1z
  have eN : frsP (frsP (frsP P1 (atW (pl ++ itoaN m) (stR f.comps own.vers sc (.mk kd nm hd ex th el)))) (stLs f.comps own.vers sc pl (m + 1) th)) (stLs f.comps own.vers sc pl z1.2 el) = frsP (frsP (frsP P1 (atW (pl ++ itoaN m) (stR f.comps own.vers sc (.mk kd nm hd ex th el)))) (stLs f.comps own.vers sc pl (m + 1) th)) (stLs f.comps own.vers sc pl (m + 1 + Sm.counts th) el) := by
   by_cases h0 : (frsP (frsP P1 (atW (pl ++ itoaN m) (stR f.comps own.vers sc (.mk kd nm hd ex th el)))) (stLs f.comps own.vers sc pl (m + 1) th)).er = 0
   ·rw [hz1 h0]
   ·rw [frsP_keep h0,frsP_keep h0]
  rw [← eN] at eLast;refine .nt<|.rg<|.m Z Z<|.yv (.fieldAddr Z Fx.field150_5) Z<|.yv (.load Z Fx.agg104 (.tail _<|.tail _<|.head _) Z) Z<|.cs (X := Str × Nat) Fx.call89 Z (fun W s => ih2 _ _ _ _ z1.2 _ _ hPb (by omega) r3 (s.pickT (hd := [_,_,_]) (tl := bs) (hd' := [_,_,_]) [0,1,2] Z Z)) Z fun z2 h2z => ?_
  obtain ⟨hz2,hz2b⟩ := h2z
  have eZ : (frsP (frsP (frsP P1 (atW (pl ++ itoaN m) (stR f.comps own.vers sc (.mk kd nm hd ex th el)))) (stLs f.comps own.vers sc pl (m + 1) th)) (stLs f.comps own.vers sc pl z1.2 el)).er = 0 → z2.2 = n + Sm.counts (l.take (k + 1)) := fun e => by
   have e1 := hz2 e
   by_cases h0 : (frsP (frsP P1 (atW (pl ++ itoaN m) (stR f.comps own.vers sc (.mk kd nm hd ex th el)))) (stLs f.comps own.vers sc pl (m + 1) th)).er = 0
   ·have e2 := hz1 h0;omega
   ·rw [frsP_keep h0] at e;exact absurd e h0
  exact .nl<|.bN<|.tN<|.rg<|.yv (.add Z Z (w6 (by omega))) Z<|.m Z Z<|.nt<|.ag (x := (k,wh1,P1,m)) (k + 1,z2.1,frsP (frsP (frsP P1 (atW (pl ++ itoaN m) (stR f.comps own.vers sc (.mk kd nm hd ex th el)))) (stLs f.comps own.vers sc pl (m + 1) th)) (stLs f.comps own.vers sc pl z1.2 el),z2.2) ⟨rfl,trivial⟩ ⟨rfl,rfl,rfl,trivial⟩ (fun _ s => (s.pickT (hd := [_,_,_]) (tl := bs) (hd' := [_,_]) [0,1] Z Z)) ⟨by dsimp only;omega,by dsimp only;rw [eLast],fun e => by dsimp only at e ⊢;have := eZ e;omega,by dsimp only;omega⟩ (by dsimp only;omega)
 try simp only [df] at h9
 obtain rfl : k = l.length := by omega
 rw [List.take_length] at hP1 hm1 hm2;refine .ex<|.tE<|.tE<|.bE<|?_
 refine Sx.retN (.inr rfl) rfl .nil rfl fun W s => ⟨(wh1,m),?_,rfl,?_⟩
 ·rw [← hP1];exact ⟨hm1,hm2⟩
 rw [← hP1];exact s.pickT (hd := [_,_]) (tl := bs) (hd' := [_,_]) [0,1] rfl rfl
theorem sts_all (H : Hp) (w0 : World) (b bb : Nat) (f : Ft) (p1 p2 p3 : Option Addr) (c1 c2 c3 : Nat) (sc : Sc) (u1 u2 u3 : Option Addr) (v1 v2 v3 : Nat) (own : Cp) (q1 q2 : Option Addr) (d1 d2 : Nat) (pl : Str) (h3 : Rep H (.seq 3 (f.comps.map (dCp .u8))) [.slice p3 f.comps.length c3]) (ks : ScR H sc [.slice u1 sc.flags.length v1,.slice u2 sc.vars.length v2,.slice u3 sc.ps.length v3]) (g2 : Rep H (.seq 1 (own.vers.map (dVs .u8))) [.slice q2 own.vers.length d2]) (hpl : pl.length ≤ 1000000000) (l : List Sm) : StsFn H w0 b bb f p1 p2 p3 c1 c2 c3 sc u1 u2 u3 v1 v2 v3 own q1 q2 d1 d2 pl l := by
 have key : ∀ x : Sm,match x with | .mk _ _ _ _ th el => StsFn H w0 b bb f p1 p2 p3 c1 c2 c3 sc u1 u2 u3 v1 v2 v3 own q1 q2 d1 d2 pl th ∧ StsFn H w0 b bb f p1 p2 p3 c1 c2 c3 sc u1 u2 u3 v1 v2 v3 own q1 q2 d1 d2 pl el := by
  intro x;induction x using Sm.ind with
  | _ kd nm hd ex th el i1 i2 => exact ⟨sts_walk H w0 b bb f p1 p2 p3 c1 c2 c3 sc u1 u2 u3 v1 v2 v3 own q1 q2 d1 d2 pl h3 ks g2 hpl th fun x hx => i1 x hx,sts_walk H w0 b bb f p1 p2 p3 c1 c2 c3 sc u1 u2 u3 v1 v2 v3 own q1 q2 d1 d2 pl h3 ks g2 hpl el fun x hx => i2 x hx⟩
 exact sts_walk H w0 b bb f p1 p2 p3 c1 c2 c3 sc u1 u2 u3 v1 v2 v3 own q1 q2 d1 d2 pl h3 ks g2 hpl l fun x _ => key x
theorem Fx.bld134_0_1_2 (x0p : Option Addr) (x0n x0c : Nat) (x1p : Option Addr) (x1n x1c : Nat) (x2p : Option Addr) (x2n x2c : Nat) : buildN Tryz.prog 134 [(0,.slice x0p x0n x0c),(1,.slice x1p x1n x1c),(2,.slice x2p x2n x2c)] = some [.slice x0p x0n x0c,.slice x1p x1n x1c,.slice x2p x2n x2c] := by kernel_rfl
theorem Fx.bld191_0_2_1 (x0 : Option Addr) (x20 x21 x22 : Value) (x10 x11 x12 : Value) : buildN Tryz.prog 191 [(0,.pointer x0),(2,.agg [x20,x21,x22].toArray),(1,.agg [x10,x11,x12].toArray)] = some [.pointer x0,x10,x11,x12,x20,x21,x22,.string ⟨#[]⟩,.int .i64 0] := by kernel_rfl
set_option maxRecDepth 100000 in
theorem unless_b {H : Hp} {w0 W : World} {bs : List Res} {b : Nat} {c0 c1 c2 c3 : Value} {wh : Str} {P : Pb} (g : Bool) (cd : Nat) (n : Str) (hP : PbOk P) (hc : cd ≠ 0) {B : Bool} (hg : g = !B) (s : St H w0 (.box b [c0,c1,c2,c3,strV wh,strV P.wh,strV P.nm,.int .i64 (P.er : Nat)] 110 :: bs) W) :
 Calls Tryz.prog 53 #[.pointer (some ⟨b,0,none⟩),.bool g,.int .i64 (cd : Nat),strV n] W fun e W' => ∃ _ : Unit,True ∧ e = .returned (.bool (decide ((frsP P (rpIf B wh n cd)).er = 0))) ∧ St H w0 (.box b [c0,c1,c2,c3,strV wh,strV (frsP P (rpIf B wh n cd)).wh,strV (frsP P (rpIf B wh n cd)).nm,.int .i64 ((frsP P (rpIf B wh n cd)).er : Nat)] 110 :: bs) W' := by
 subst hg;have := unless_st (!B) cd n hP hc s;simp only [unlP,Bool.not_not] at this;exact this
set_option maxRecDepth 100000 in
theorem body_st {H : Hp} {w0 W : World} {bs : List Res} {b : Nat} {f : Ft} {p1 p2 p3 : Option Addr} {c1 c2 c3 : Nat} {wh : Str} {P : Pb} (hP : PbOk P) (h1 : Rep H (.seq 2 (f.flags.map dFg)) [.slice p1 f.flags.length c1]) (h2 : Rep H (.seq 3 (f.links.map dLk)) [.slice p2 f.links.length c2]) (h3 : Rep H (.seq 3 (f.comps.map (dCp .u8))) [.slice p3 f.comps.length c3]) (own : Cp) (q1 q2 : Option Addr) (d1 d2 : Nat) (g1 : Rep H (.seq 3 (own.vars.map (dVr .u8))) [.slice q1 own.vars.length d1]) (g2 : Rep H (.seq 1 (own.vers.map (dVs .u8))) [.slice q2 own.vers.length d2]) (hh : Hd) (t1 t2 : Option Addr) (w1 w2 : Nat) (m1 : Rep H (.seq 1 (hh.ps.map dStr)) [.slice t1 hh.ps.length w1]) (m2 : Rep H (.seq 6 (hh.body.map (dSm .u8))) [.slice t2 hh.body.length w2])
 (nv : Nat) (hnv : nv < 99) (hwh : wh = hdlW own nv hh) (hn1 : own.nm.length ≤ 1000000) (hn2 : hh.nm.length ≤ 1000000) (hct : Sm.counts hh.body ≤ 100) (s : St H w0 (.box b [strV f.nm,.slice p1 f.flags.length c1,.slice p2 f.links.length c2,.slice p3 f.comps.length c3,strV wh,strV P.wh,strV P.nm,.int .i64 (P.er : Nat)] 110 :: bs) W) :
 Calls Tryz.prog 61 #[.pointer (some ⟨b,0,none⟩),.agg [strV own.nm,.slice q1 own.vars.length d1,.slice q2 own.vers.length d2].toArray,.agg [strV hh.nm,.slice t1 hh.ps.length w1,.slice t2 hh.body.length w2].toArray,strV ([32] ++ itoaN (nv + 1))] W fun e W' => ∃ wh' : Str,True ∧ e = .returned (.tuple #[]) ∧ St H w0 (.box b [strV f.nm,.slice p1 f.flags.length c1,.slice p2 f.links.length c2,.slice p3 f.comps.length c3,strV wh',strV (frsP P ((List.range hh.ps.length).flatMap (par1 f own nv hh) ++ stLs f.comps own.vers ⟨f.flags,own.vars,hh.ps⟩ (stmW own nv hh) 0 hh.body)).wh,strV (frsP P ((List.range hh.ps.length).flatMap (par1 f own nv hh) ++ stLs f.comps own.vers ⟨f.flags,own.vars,hh.ps⟩ (stmW own nv hh) 0 hh.body)).nm,.int .i64 ((frsP P ((List.range hh.ps.length).flatMap (par1 f own nv hh) ++ stLs f.comps own.vers ⟨f.flags,own.vars,hh.ps⟩ (stmW own nv hh) 0 hh.body)).er : Nat)] 110 :: bs) W' := by
 have hcap := m1.cap;have hil := itoaN_le (k := nv + 1) (by omega);refine Sx.enterS Tryz.func61 rfl Tryz.ntmps61 rfl s ?_;refine .sr<|.bx Z Z Z fun b5 => .bx Z Z Z fun b6 => .nt<|.sq<|.sr<|.yv (.fieldAddr Z Fx.field107_1) Z<|.yv (.load Z Fx.agg54 (.head _) Z) Z<|.yv (.lenSl Fx.sl54 Z) Z<|.m Z Z<|.nt<|.bk<|.lp (X := Nat × Pb) [(0,_),(3,_),(5,_),(6,_),(14,_),(15,_)] ⟨rfl,rfl,rfl,rfl,rfl,rfl,trivial⟩ (_ :: _ :: bs) (fun z => [(16,.int .i64 (z.1 : Nat))]) (fun z => H) (fun z => [.box b [strV f.nm,.slice p1 f.flags.length c1,.slice p2 f.links.length c2,.slice p3 f.comps.length c3,strV wh,strV z.2.wh,strV z.2.nm,.int .i64 (z.2.er : Nat)] 110]) (fun z => z.1 ≤ hh.ps.length ∧ z.2 = frsP P ((List.range z.1).flatMap (par1 f own nv hh))) (fun z => hh.ps.length - z.1) (0,P) (fun _ s => (s.pickT (hd := [_,_,_]) (tl := bs) (hd' := [_,_,_]) [2,0,1] Z Z)) ⟨rfl,trivial⟩ ⟨Nat.zero_le _,(frsP_nil hP).symm⟩ fun z hC => ?_
 obtain ⟨k,P1⟩ := z;obtain ⟨hk0,hP1⟩ := hC;dsimp only at hk0 hP1 ⊢;have hPo : PbOk P1 := by rw [hP1];exact frsP_ok hP (.flat fun _ => .par _ _ _ _ _)
 refine .sr<|.yv (.lss Z Z) Z<|.nt<|.sq<|.cd Z (fun h17 => ?_) (fun h17 => ?_)
 ·try simp only [dt] at h17
  have hk : k < hh.ps.length := by omega
  obtain ⟨bE,oE,cE,hpE,rE,lE,mE⟩ := m1.elem (map_at (f := dStr) hk);cases hpE;generalize hxE : hh.ps[k] = x at rE;obtain ⟨rfl,hnx⟩ := str_open rE;refine .sk<|.tN<|.sq<|.bk<|.sr<|.m Z Z<|.yv (.indexSl Fx.sl54 Z Z Z (by omega) (q := oE + k * 1) Z) Z<|.yv (.loadM Z Fx.agg9 mE (k := 0) Z Z) Z<|.a Z Z<|.a Z Z<|.ns<|.yv (.fieldAddr Z Fx.field96_1) Z<|.yv (.load Z Fx.agg93 (.tail _<|.tail _<|.head _) Z) Z<|.m Z Z<|.yv (.call Fx.call58 Z (fun W s => variable_v H own.vars x _ _ _ g1 W s.agr)) Z<|.m Z Z<|.yv (.extract Z Z) Z<|.yv (.extract Z Z) Z<|.al Fx.zero100 Z fun b10 => .sW .head Z Z Fx.size100 (by simp [cVr,Value.oneCell',strV]) Z<|.a Z Z<|.nt<|.rg<|.m Z Z<|.m Z Z<|.yv (.not Z) Z<|.m Z Z<|.b2 (fun h31 => ?_) (fun h31 => ?_)
  ·have a31 : (varF own.vars x).isSome = false := by simpa using h31
   refine .gd Z Z<|.yv (.move Z) Z<|.gd Z Z<|.yv (.nilCheck Z) Z<|.gd Z Z<|.yv (.fieldAddr Z Fx.field110_0) Z<|.gd Z Z<|.yv (.fieldAddr Z Fx.field37_1) Z<|.gd Z Z<|.yv (.load Z Fx.agg33 (.tail _<|.head _) Z) Z<|.gd Z Z<|.yv (.move Z) Z<|.gd Z Z<|.yv (.call Fx.call54 Z (fun W s => flag_any H f.flags x _ h1 W s.agr)) Z<|.gd Z Z<|.yv (.not Z) Z<|.yv (.pickT Z Z) Z<|.m Z Z<|.b2 (fun h41 => ?_) (fun h41 => ?_)
   ·have a41 : flagB f.flags x = false := by simpa using h41
    exact .gd Z Z<|.yv (.fieldAddr Z Fx.field107_1) Z<|.gd Z Z<|.yv (.load Z Fx.agg54 (.tail _<|.tail _<|.head _) Z) Z<|.gd Z Z<|.yv (.move Z) Z<|.gd Z Z<|.yv (.cutHi2 Fx.sl54 Z Z (h := k) Z (by have := m1.len.2.1;omega)) Z<|.gd Z Z<|.yv (.move Z) Z<|.gd Z Z<|.yv (.call Fx.call88 Z (fun W s => contains_any H (hh.ps.take k) x _ (by rw [List.map_take];exact rep_take2 (rep_long m1) (by omega)) W s.agr)) Z<|.gd Z Z<|.yv (.not Z) Z<|.yv (.pickT Z Z) Z<|.m Z Z<|.cs (X := Unit) Fx.call53 Z (fun W s => unless_b _ 5 _ hPo (by decide) (by rw [a31];first | rfl | (rw [a41];rfl)) (s.pickT (hd := [_,_,_,_]) (tl := bs) (hd' := [_,_,_,_]) [1,0,2,3] Z Z)) Z fun _ _ => .nl<|.bN<|.tN<|.rg<|.yv (.add Z Z (w6 (by omega))) Z<|.m Z Z<|.nt<|.ag (x := (k,P1)) (k + 1,frsP P1 (rpIf ((varF own.vars x).isSome || flagB f.flags x || hasB (hh.ps.take k) x) wh x 5)) ⟨rfl,trivial⟩ ⟨rfl,rfl,rfl,rfl,rfl,rfl,trivial⟩ (fun _ s => (s.pickT (hd := [_,_,_,_]) (tl := bs) (hd' := [_,_,_]) [0,2,3] Z Z)) ⟨by dsimp only;omega,by dsimp only;rw [flat_succ',← frsP_app (.flat fun _ => .par _ _ _ _ _),← hP1,par1_at hk hxE,hwh]⟩ (by dsimp only;omega)
   have a41 : flagB f.flags x = true := by simpa using h41
   exact .gF Z Z Z Z<|.gF Z Z Z Z<|.gF Z Z Z Z<|.gF Z Z Z Z<|.gF Z Z Z Z<|.gF Z Z Z Z<|.gF Z Z Z Z<|.yv (.pickF Z Z) Z<|.m Z Z<|.cs (X := Unit) Fx.call53 Z (fun W s => unless_b _ 5 _ hPo (by decide) (by rw [a31];first | rfl | (rw [a41];rfl)) (s.pickT (hd := [_,_,_,_]) (tl := bs) (hd' := [_,_,_,_]) [1,0,2,3] Z Z)) Z fun _ _ => .nl<|.bN<|.tN<|.rg<|.yv (.add Z Z (w6 (by omega))) Z<|.m Z Z<|.nt<|.ag (x := (k,P1)) (k + 1,frsP P1 (rpIf ((varF own.vars x).isSome || flagB f.flags x || hasB (hh.ps.take k) x) wh x 5)) ⟨rfl,trivial⟩ ⟨rfl,rfl,rfl,rfl,rfl,rfl,trivial⟩ (fun _ s => (s.pickT (hd := [_,_,_,_]) (tl := bs) (hd' := [_,_,_]) [0,2,3] Z Z)) ⟨by dsimp only;omega,by dsimp only;rw [flat_succ',← frsP_app (.flat fun _ => .par _ _ _ _ _),← hP1,par1_at hk hxE,hwh]⟩ (by dsimp only;omega)
  have a31 : (varF own.vars x).isSome = true := by simpa using h31
  exact .gF Z Z Z Z<|.gF Z Z Z Z<|.gF Z Z Z Z<|.gF Z Z Z Z<|.gF Z Z Z Z<|.gF Z Z Z Z<|.gF Z Z Z Z<|.gF Z Z Z Z<|.yv (.pickF Z Z) Z<|.m Z Z<|.gF Z Z Z Z<|.gF Z Z Z Z<|.gF Z Z Z Z<|.gF Z Z Z Z<|.gF Z Z Z Z<|.gF Z Z Z Z<|.gF Z Z Z Z<|.yv (.pickF Z Z) Z<|.m Z Z<|.cs (X := Unit) Fx.call53 Z (fun W s => unless_b _ 5 _ hPo (by decide) (by rw [a31];first | rfl | (rw [a41];rfl)) (s.pickT (hd := [_,_,_,_]) (tl := bs) (hd' := [_,_,_,_]) [1,0,2,3] Z Z)) Z fun _ _ => .nl<|.bN<|.tN<|.rg<|.yv (.add Z Z (w6 (by omega))) Z<|.m Z Z<|.nt<|.ag (x := (k,P1)) (k + 1,frsP P1 (rpIf ((varF own.vars x).isSome || flagB f.flags x || hasB (hh.ps.take k) x) wh x 5)) ⟨rfl,trivial⟩ ⟨rfl,rfl,rfl,rfl,rfl,rfl,trivial⟩ (fun _ s => (s.pickT (hd := [_,_,_,_]) (tl := bs) (hd' := [_,_,_]) [0,2,3] Z Z)) ⟨by dsimp only;omega,by dsimp only;rw [flat_succ',← frsP_app (.flat fun _ => .par _ _ _ _ _),← hP1,par1_at hk hxE,hwh]⟩ (by dsimp only;omega)
 try simp only [df] at h17
 obtain rfl : k = hh.ps.length := by omega
 subst hP1;refine .ex<|.tE<|.tE<|.bE<|.tN<|.sq<|.fl (trip := [(_,_,_),(_,_,_),(_,_,_),(_,_,_),(_,_,_),(_,_,_),(_,_,_),(_,_,_),(_,_,_),(_,_,_),(_,_,_),(_,_,_),(_,_,_),(_,_,_)]) 14 [(0,0),(1,0),(2,0),(3,0),(4,0),(5,0),(6,0),(7,0),(8,0),(9,0),(10,0),(11,0),(12,0),(13,1)] (by kernel_rfl) (by kernel_rfl) Z<|.m Z Z<|.yv (.loadW Z Fx.agg96 (.tail _<|.tail _<|.head _) Z) Z<|.m Z Z<|.yv (.nilCheck Z) Z<|.yv (.fieldAddr Z Fx.field110_0) Z<|.yv (.fieldAddr Z Fx.field37_1) Z<|.yv (.load Z Fx.agg33 (.head _) Z) Z<|.yv (.fieldAddr Z Fx.field96_1) Z<|.yv (.load Z Fx.agg93 (.tail _<|.tail _<|.head _) Z) Z<|.yv (.fieldAddr Z Fx.field107_1) Z<|.yv (.load Z Fx.agg54 (.tail _<|.head _) Z) Z<|.yv (.build Z (Fx.bld134_0_1_2 _ _ _ _ _ _ _ _ _)) Z<|.yv (.build Z (Fx.bld191_0_2_1 _ _ _ _ _ _ _)) Z<|.bx Z Z Z fun b66 => .fn (tl := [_]) Z<|.a Z Z<|.ns<|.m Z Z<|.yv (.fieldAddr Z Fx.field96_0) Z<|.yv (.load Z Fx.agg9 (.tail _<|.tail _<|.tail _<|.head _) Z) Z<|.yv (.app Z Z (by simp;omega)) Z<|.yv (.app Z Z (by simp;omega)) Z<|.yv (.fieldAddr Z Fx.field107_0) Z<|.yv (.load Z Fx.agg9 (.tail _<|.tail _<|.head _) Z) Z<|.yv (.app Z Z (by simp;omega)) Z<|.m Z Z<|.yv (.app Z Z (by simp;omega)) Z<|.yv (.app Z Z (by simp;omega)) Z<|.yv (.nilCheck Z) Z<|.yv (.fieldAddr Z Fx.field191_3) Z<|.st .head Z Z Fx.size9 Z (nb Z) Z<|.nt<|.rg<|.m Z Z<|.yv (.fieldAddr Z Fx.field107_2) Z<|.yv (.load Z Fx.agg104 (.tail _<|.tail _<|.head _) Z) Z<|.cs (X := Str × Nat) Fx.call89 Z (fun W s => sts_all H w0 b b66 f p1 p2 p3 c1 c2 c3 ⟨f.flags,own.vars,hh.ps⟩ p1 q1 t1 c1 d1 w1 own q1 q2 d1 d2 (stmW own nv hh) h3 ⟨_,_,_,_,_,_,rfl,h1,g1,rep_long m1⟩ g2 (by have := itoaN_le (k := nv + 1) (by omega);simp [stmW];omega) hh.body _ _ _ _ 0 _ _ (frsP_ok hP (.flat fun _ => .par _ _ _ _ _)) (by omega) m2 (s.pickT (hd := [_,_,_,_]) (tl := bs) (hd' := [_,_,_,_]) [0,1,2,3] Z Z)) Z fun z83 hz83 => .nl<|?_
 refine Sx.retN (.inr rfl) rfl .nil rfl fun W s => ⟨z83.1,trivial,rfl,?_⟩;rw [frsP_app (.flat fun _ => .par _ _ _ _ _)] at s;exact s.pickT (hd := [_,_,_,_]) (tl := bs) (hd' := [_]) [1] rfl rfl
theorem Fx.call61 : callN Tryz.prog 61 = Bool.true := by kernel_rfl
theorem Fx.bld103_0 (x0p : Option Addr) (x0n x0c : Nat) : buildN Tryz.prog 103 [(0,.slice x0p x0n x0c)] = some [.slice x0p x0n x0c] := by kernel_rfl
theorem nB_t {b : Bool} (h : (!b) = true) : b = false := by cases b <;> simp_all
theorem nB_f {b : Bool} (h : (!b) = false) : b = true := by cases b <;> simp_all
theorem var1_at {f : Ft} {c : Cp} {i : Nat} {v : Vr} (hi : i < c.vars.length) (hx : c.vars[i] = v) : var1 f c i = rpIf ((varF (c.vars.take i) v.nm).isSome || flagB f.flags v.nm) ([118,97,114,105,97,98,108,101,32] ++ c.nm ++ [46] ++ v.nm) v.nm 5 := by
 unfold var1;rw [List.getElem?_eq_getElem hi,hx]
theorem ver1_at {f : Ft} {c : Cp} {i : Nat} {v : List Hd} (hi : i < c.vers.length) (hx : c.vers[i] = v) : ver1 f c i = (List.range v.length).flatMap (hdl1 f c i v) := by
 unfold ver1;rw [List.getElem?_eq_getElem hi,hx]
theorem hdl1_at {f : Ft} {c : Cp} {n i : Nat} {v : List Hd} {h : Hd} (hi : i < v.length) (hx : v[i] = h) : hdl1 f c n v i = rpIf (hdF [v.take i] h.nm).isSome (hdlW c n h) h.nm 5 ++ (rpIf (befB c n h) (hdlW c n h) h.nm 10 ++ ((List.range h.ps.length).flatMap (par1 f c n h) ++ stLs f.comps c.vers ⟨f.flags,c.vars,h.ps⟩ (stmW c n h) 0 h.body)) := by
 unfold hdl1;rw [List.getElem?_eq_getElem hi,hx]
def cmpA (f : Ft) (k : Nat) (c : Cp) : List Pb := rpIf ((cpF (f.comps.take k) c.nm).isSome || flagB f.flags c.nm) ([99,111,109,112,111,110,101,110,116,32] ++ c.nm) c.nm 5
theorem cmp1_at {f : Ft} {k : Nat} {c : Cp} (hk : k < f.comps.length) (hx : f.comps[k] = c) : cmp1 f k = cmpA f k c ++ ((List.range c.vars.length).flatMap (var1 f c) ++ (List.range c.vers.length).flatMap (ver1 f c)) := by
 unfold cmp1;rw [List.getElem?_eq_getElem hk,hx];rfl
theorem NzP.cmpA (f : Ft) (k : Nat) (c : Cp) : NzP (cmpA f k c) := .if_ (by decide)
def CpSm (c : Cp) : Prop := c.nm.length ≤ 1000000 ∧ c.vers.length < 99 ∧ ∀ v ∈ c.vers,∀ h ∈ v,Sm.counts h.body ≤ 100
theorem befB_eq {c : Cp} {n : Nat} {h : Hd} {m : Nat} (hm : m = ((hdF (c.vers.take n) h.nm).map (·.ps.length)).getD 0) : (hdF (c.vers.take n) h.nm).isSome = true → decide (((m : Nat) : Int) = (h.ps.length : Nat)) = !befB c n h := by
 intro hs;unfold befB;cases e : hdF (c.vers.take n) h.nm with
 | none => rw [e] at hs;cases hs
 | some b =>
  rw [e] at hm;simp only [Option.map_some,Option.getD_some] at hm;simp only [Bool.not_not];rw [decide_eq_decide,hm];omega
theorem befB_no {c : Cp} {n : Nat} {h : Hd} (hs : (hdF (c.vers.take n) h.nm).isSome = false) : befB c n h = false := by
 unfold befB;cases e : hdF (c.vers.take n) h.nm with
 | none => rfl
 | some b => rw [e] at hs;cases hs
set_option maxHeartbeats 4000000 in
set_option maxRecDepth 100000 in
theorem component_st {H : Hp} {w0 W : World} {bs : List Res} {b : Nat} {f : Ft} {p1 p2 p3 : Option Addr} {c1 c2 c3 : Nat} {wh : Str} {P : Pb} (hP : PbOk P) (h1 : Rep H (.seq 2 (f.flags.map dFg)) [.slice p1 f.flags.length c1]) (h2 : Rep H (.seq 3 (f.links.map dLk)) [.slice p2 f.links.length c2]) (h3 : Rep H (.seq 3 (f.comps.map (dCp .u8))) [.slice p3 f.comps.length c3]) (k : Nat) (hk : k < f.comps.length) (hsm0 : CpSm f.comps[k]) (s : St H w0 (.box b [strV f.nm,.slice p1 f.flags.length c1,.slice p2 f.links.length c2,.slice p3 f.comps.length c3,strV wh,strV P.wh,strV P.nm,.int .i64 (P.er : Nat)] 110 :: bs) W) :
 Calls Tryz.prog 28 #[.pointer (some ⟨b,0,none⟩),.int .i64 (k : Nat)] W fun e W' => ∃ wh' : Str,True ∧ e = .returned (.tuple #[]) ∧ St H w0 (.box b [strV f.nm,.slice p1 f.flags.length c1,.slice p2 f.links.length c2,.slice p3 f.comps.length c3,strV wh',strV (frsP P (cmp1 f k)).wh,strV (frsP P (cmp1 f k)).nm,.int .i64 ((frsP P (cmp1 f k)).er : Nat)] 110 :: bs) W' := by
 have hcap := h3.cap;obtain ⟨bE,oE,cE,hpE,rE,lE,mE⟩ := h3.elem (map_at (f := dCp .u8) hk);cases hpE;generalize hxE : f.comps[k] = x at rE hsm0;obtain ⟨q1,d1,q2,d2,rfl,hnx,g1,g2⟩ := cp_open rE;have hsm := hsm0;have hcap1 := g1.cap;have hcap2 := g2.cap;refine Sx.enterS Tryz.func28 rfl Tryz.ntmps28 rfl s ?_;refine .sr<|.m Z Z<|.yv (.nilCheck Z) Z<|.yv (.fieldAddr Z Fx.field110_0) Z<|.yv (.fieldAddr Z Fx.field37_3) Z<|.yv (.load Z Fx.agg35 (.head _) Z) Z<|.m Z Z<|.yv (.indexSl Fx.sl35 Z Z Z (by omega) (q := oE + k * 3) Z) Z<|.yv (.loadMW Z Fx.agg96 mE Z) Z<|.al Fx.zero96 Z fun b4 => .sW .head Z Z Fx.size96 (by simp [Value.oneCell',strV]) Z<|.nt<|.sq<|.sr<|.m Z Z<|.yv (.fieldAddr Z Fx.field96_0) Z<|.yv (.load Z Fx.agg9 (.head _) Z) Z<|.yv (.app Z Z (by first | omega | (simp;omega))) Z<|.cs (X := Unit) Fx.call52 Z (fun W s => at_st ([99,111,109,112,111,110,101,110,116,32] ++ x.nm) (s.pickT (hd := [_,_]) (tl := bs) (hd' := [_,_]) [1,0] Z Z)) Z fun _ _ => .yv (.not Z) Z<|.nt<|.cd Z (fun h31 => ?_) (fun h31 => ?_)
 ·try simp only [dt] at h31
  have hne : P.er ≠ 0 := by simpa using h31
  refine .rt<|.tR<|?_
  refine Sx.retN (.inl rfl) rfl .nil rfl fun W s => ⟨([99,111,109,112,111,110,101,110,116,32] ++ x.nm),trivial,rfl,?_⟩;rw [frsP_keep hne];exact s.pickT (hd := [_,_]) (tl := bs) (hd' := [_]) [0] rfl rfl
 skip
 refine .sk<|.tN<|.sq<|?_
 obtain ⟨xc,hxc,hcc⟩ := component_any H (f.comps.take k) x.nm _ _ _ (by rw [List.map_take];exact rep_take2 h3 (Nat.le_of_lt hk));obtain ⟨y1,y2,y3,rfl,hone⟩ := cpx hxc;refine .fl (trip := [(_,_,_),(_,_,_),(_,_,_),(_,_,_),(_,_,_),(_,_,_),(_,_,_),(_,_,_),(_,_,_),(_,_,_),(_,_,_),(_,_,_),(_,_,_),(_,_,_),(_,_,_)]) 15 [(0,0),(1,0),(2,0),(3,0),(4,0),(5,0),(6,0),(7,0),(8,0),(9,0),(10,0),(11,0),(12,0),(13,1),(14,3)] (by kernel_rfl) (by kernel_rfl) Z<|.m Z Z<|.yv (.nilCheck Z) Z<|.yv (.fieldAddr Z Fx.field110_0) Z<|.yv (.fieldAddr Z Fx.field37_3) Z<|.yv (.load Z Fx.agg35 (.head _) Z) Z<|.m Z Z<|.yv (.cutHi2 Fx.sl35 Z Z (h := k) Z (by have := h3.len.2.1;omega)) Z<|.yv (.fieldAddr Z Fx.field96_0) Z<|.yv (.load Z Fx.agg9 (.tail _<|.head _) Z) Z<|.yv (.call Fx.call55 Z (fun W s => hcc W s.agr)) Z<|.m Z Z<|.yv (.extract Z Z) Z<|.yv (.extract Z Z) Z<|.al Fx.zero96 Z fun b5 => .sW .head Z Z Fx.size96 hone Z ((.yv (.extract Z Z)<|.done (by kernel_rfl)<|.done (by kernel_rfl)<|.done (by kernel_rfl)<|.done (by kernel_rfl)<|.done (by kernel_rfl)<|.done (by kernel_rfl)<|.done (by kernel_rfl)<|.done (by kernel_rfl)<|.done (by kernel_rfl)<|.done (by kernel_rfl)<|.done (by kernel_rfl)<|.done (by kernel_rfl)<|.nl))<|.fn (tl := [_]) Z<|.a Z Z<|.nt<|.sq<|.fl (trip := [(_,_,_),(_,_,_),(_,_,_),(_,_,_),(_,_,_),(_,_,_),(_,_,_),(_,_,_),(_,_,_),(_,_,_),(_,_,_),(_,_,_),(_,_,_),(_,_,_),(_,_,_),(_,_,_)]) 16 [(0,0),(1,0),(2,0),(3,0),(4,0),(5,0),(6,0),(7,0),(8,0),(9,0),(10,0),(11,0),(12,0),(13,0),(14,0),(15,0)] (by kernel_rfl) (by kernel_rfl) Z<|.m Z Z<|.m Z Z<|.yv (.not Z) Z<|.m Z Z<|.b2 (fun h48 => ?_) (fun h48 => ?_)
 ·have a48 : (cpF (f.comps.take k) x.nm).isSome = false := nB_t h48;refine .yg Z Z (.move Z) Z<|.yg Z Z (.nilCheck Z) Z<|.yg Z Z (.fieldAddr Z Fx.field110_0) Z<|.yg Z Z (.fieldAddr Z Fx.field37_1) Z<|.yg Z Z (.load Z Fx.agg33 (.tail _<|.head _) Z) Z<|.yg Z Z (.fieldAddr Z Fx.field96_0) Z<|.yg Z Z (.load Z Fx.agg9 (.tail _<|.tail _<|.head _) Z) Z<|.yg Z Z (.call Fx.call54 Z (fun W s => flag_any H f.flags x.nm _ h1 W s.agr)) Z<|.yg Z Z (.not Z) Z<|.yv (.pickT Z Z) Z<|.yv (.fieldAddr Z Fx.field96_0) Z<|.yv (.load Z Fx.agg9 (.tail _<|.tail _<|.head _) Z) Z<|.fn (tl := [_]) Z<|.cs (X := Unit) Fx.call53 Z (fun W s => unless_b _ 5 _ hP (by decide) (B := (cpF (f.comps.take k) x.nm).isSome || flagB f.flags x.nm) (by rw [a48];first | rfl | simp) (s.pickT (hd := [_,_,_]) (tl := bs) (hd' := [_,_,_]) [1,0,2] Z Z)) Z fun _ _ => .nt<|.sq<|.sr<|.yv (.fieldAddr Z Fx.field96_1) Z<|.yv (.load Z Fx.agg93 (.tail _<|.tail _<|.head _) Z) Z<|.yv (.lenSl Fx.sl93 Z) Z<|.m Z Z<|.nt<|.bk<|.lp (X := Nat × Str × Pb) [(0,_),(4,_),(63,_),(64,_)] ⟨rfl,rfl,rfl,rfl,trivial⟩ (_ :: _ :: bs) (fun z => [(65,.int .i64 (z.1 : Nat))]) (fun z => H) (fun z => [.box b [strV f.nm,.slice p1 f.flags.length c1,.slice p2 f.links.length c2,.slice (some ⟨bE,oE,none⟩) f.comps.length c3,strV z.2.1,strV z.2.2.wh,strV z.2.2.nm,.int .i64 (z.2.2.er : Nat)] 110]) (fun z => z.1 ≤ x.vars.length ∧ z.2.2 = frsP (frsP P (cmpA f k x)) ((List.range z.1).flatMap (var1 f x))) (fun z => x.vars.length - z.1) (0,([99,111,109,112,111,110,101,110,116,32] ++ x.nm),frsP P (cmpA f k x)) (fun _ s => s) ⟨rfl,trivial⟩ ⟨Nat.zero_le _,(frsP_nil (frsP_ok hP (NzP.cmpA _ _ _))).symm⟩ fun z hC => ?_
  obtain ⟨i,wh1,P1⟩ := z;obtain ⟨hi0,hP1⟩ := hC;dsimp only at hi0 hP1 ⊢;have hPo : PbOk P1 := by rw [hP1];exact frsP_ok (frsP_ok hP (NzP.cmpA _ _ _)) (.flat fun _ => .var _ _ _)
  refine .sr<|.yv (.lss Z Z) Z<|.nt<|.sq<|.cd Z (fun h66 => ?_) (fun h66 => ?_)
  ·try simp only [dt] at h66
   have hi : i < x.vars.length := by omega
   obtain ⟨bF,oF,cF,hpF,rF,lF,mF⟩ := g1.elem (map_at (f := dVr .u8) hi);cases hpF;generalize hxv : x.vars[i] = xv at rF;obtain ⟨rfl,nv⟩ := vr_open rF;refine .sk<|.tN<|.sq<|.bk<|.sr<|.m Z Z<|.yv (.indexSl Fx.sl93 Z Z Z (by omega) (q := oF + i * 3) Z) Z<|.yv (.loadMW Z Fx.agg100 mF Z) Z<|.al Fx.zero100 Z fun b8 => .a Z Z<|.sW .head Z Z Fx.size100 (by simp [Value.oneCell',strV]) Z<|.nt<|.sq<|.sr<|.m Z Z<|.yv (.fieldAddr Z Fx.field96_0) Z<|.yv (.load Z Fx.agg9 (.tail _<|.tail _<|.tail _<|.head _) Z) Z<|.yv (.app Z Z (by first | omega | (simp;omega))) Z<|.yv (.app Z Z (by first | omega | (simp;omega))) Z<|.yv (.fieldAddr Z Fx.field100_0) Z<|.yv (.load Z Fx.agg9 (.head _) Z) Z<|.yv (.app Z Z (by first | omega | (simp;omega))) Z<|.cs (X := Unit) Fx.call52 Z (fun W s => at_st ([118,97,114,105,97,98,108,101,32] ++ x.nm ++ [46] ++ xv.nm) (s.pickT (hd := [_,_,_,_]) (tl := bs) (hd' := [_,_,_,_]) [1,0,2,3] Z Z)) Z fun _ _ => .yv (.not Z) Z<|.nt<|.cd Z (fun h79 => ?_) (fun h79 => ?_)
   ·try simp only [dt] at h79
    have hne : P1.er ≠ 0 := by simpa using h79
    refine .rt<|.tR<|.bR<|.tR<|.tR<|.bR<|.tR<|?_
    refine Sx.retN (.inl rfl) rfl .nil rfl fun W s => ⟨([118,97,114,105,97,98,108,101,32] ++ x.nm ++ [46] ++ xv.nm),trivial,rfl,?_⟩;rw [cmp1_at hk hxE,← frsP_app (NzP.cmpA _ _ _),← frsP_app (.flat fun _ => .var _ _ _),frs_done (P := frsP P (cmpA f k x)) (fun i => NzP.var f x i) (Nat.le_of_lt hi) (hP1 ▸ hne),← hP1,frsP_keep hne];exact s.pickT (hd := [_,_,_,_]) (tl := bs) (hd' := [_]) [0] rfl rfl
   skip
   refine .sk<|.tN<|.sq<|.fl (trip := [(_,_,_),(_,_,_),(_,_,_),(_,_,_),(_,_,_),(_,_,_),(_,_,_),(_,_,_),(_,_,_),(_,_,_),(_,_,_),(_,_,_)]) 12 [(0,0),(1,0),(2,0),(3,0),(4,0),(5,0),(6,0),(7,0),(8,0),(9,0),(10,1),(11,3)] (by kernel_rfl) (by kernel_rfl) Z<|.yv (.fieldAddr Z Fx.field96_1) Z<|.yv (.load Z Fx.agg93 (.tail _<|.tail _<|.tail _<|.head _) Z) Z<|.m Z Z<|.yv (.cutHi2 Fx.sl93 Z Z (h := i) Z (by have := g1.len.2.1;omega)) Z<|.yv (.fieldAddr Z Fx.field100_0) Z<|.yv (.load Z Fx.agg9 (.tail _<|.head _) Z) Z<|.yv (.call Fx.call58 Z (fun W s => variable_v H (x.vars.take i) xv.nm _ _ _ (by rw [List.map_take];exact rep_take2 g1 (by omega)) W s.agr)) Z<|.m Z Z<|.yv (.extract Z Z) Z<|.yv (.extract Z Z) Z<|.al Fx.zero100 Z fun b9 => .sW .head Z Z Fx.size100 (by simp [cVr,Value.oneCell',strV]) Z ((.yv (.extract Z Z)<|.done (by kernel_rfl)<|.done (by kernel_rfl)<|.done (by kernel_rfl)<|.done (by kernel_rfl)<|.done (by kernel_rfl)<|.done (by kernel_rfl)<|.done (by kernel_rfl)<|.done (by kernel_rfl)<|.done (by kernel_rfl)<|.nl))<|.fn (tl := [_]) Z<|.a Z Z<|.nt<|.fl (trip := [(_,_,_),(_,_,_),(_,_,_),(_,_,_),(_,_,_),(_,_,_),(_,_,_),(_,_,_),(_,_,_),(_,_,_),(_,_,_),(_,_,_),(_,_,_),(_,_,_),(_,_,_),(_,_,_)]) 16 [(0,0),(1,0),(2,0),(3,0),(4,0),(5,0),(6,0),(7,0),(8,0),(9,0),(10,0),(11,0),(12,0),(13,0),(14,0),(15,0)] (by kernel_rfl) (by kernel_rfl) Z<|.m Z Z<|.m Z Z<|.yv (.not Z) Z<|.m Z Z<|.b2 (fun h93 => ?_) (fun h93 => ?_)
   ·have a93 : (varF (x.vars.take i) xv.nm).isSome = false := nB_t h93;exact .yg Z Z (.move Z) Z<|.yg Z Z (.nilCheck Z) Z<|.yg Z Z (.fieldAddr Z Fx.field110_0) Z<|.yg Z Z (.fieldAddr Z Fx.field37_1) Z<|.yg Z Z (.load Z Fx.agg33 (.tail _<|.head _) Z) Z<|.yg Z Z (.fieldAddr Z Fx.field100_0) Z<|.yg Z Z (.load Z Fx.agg9 (.tail _<|.tail _<|.head _) Z) Z<|.yg Z Z (.call Fx.call54 Z (fun W s => flag_any H f.flags xv.nm _ h1 W s.agr)) Z<|.yg Z Z (.not Z) Z<|.yv (.pickT Z Z) Z<|.yv (.fieldAddr Z Fx.field100_0) Z<|.yv (.load Z Fx.agg9 (.tail _<|.tail _<|.head _) Z) Z<|.fn (tl := [_]) Z<|.cs (X := Unit) Fx.call53 Z (fun W s => unless_b _ 5 _ hPo (by decide) (B := (varF (x.vars.take i) xv.nm).isSome || flagB f.flags xv.nm) (by rw [a93];first | rfl | simp) (s.pickT (hd := [_,_,_,_,_]) (tl := bs) (hd' := [_,_,_,_,_]) [1,0,2,3,4] Z Z)) Z fun _ _ => .nl<|.bN<|.tN<|.rg<|.yv (.add Z Z (w6 (by omega))) Z<|.m Z Z<|.nt<|.ag (x := (i,wh1,P1)) (i + 1,([118,97,114,105,97,98,108,101,32] ++ x.nm ++ [46] ++ xv.nm),frsP P1 (rpIf ((varF (x.vars.take i) xv.nm).isSome || flagB f.flags xv.nm) ([118,97,114,105,97,98,108,101,32] ++ x.nm ++ [46] ++ xv.nm) xv.nm 5)) ⟨rfl,trivial⟩ ⟨rfl,rfl,rfl,rfl,trivial⟩ (fun _ s => (s.pickT (hd := [_,_,_,_,_]) (tl := bs) (hd' := [_,_,_]) [0,3,4] Z Z)) ⟨by dsimp only;omega,by dsimp only;rw [flat_succ',← frsP_app (.flat fun _ => .var _ _ _),← hP1,var1_at hi hxv]⟩ (by dsimp only;omega)
   have a93 : (varF (x.vars.take i) xv.nm).isSome = true := nB_f h93;exact .gF Z Z Z Z<|.gF Z Z Z Z<|.gF Z Z Z Z<|.gF Z Z Z Z<|.gF Z Z Z Z<|.gF Z Z Z Z<|.gF Z Z Z Z<|.gF Z Z Z Z<|.gF Z Z Z Z<|.yv (.pickF Z Z) Z<|.yv (.fieldAddr Z Fx.field100_0) Z<|.yv (.load Z Fx.agg9 (.tail _<|.tail _<|.head _) Z) Z<|.fn (tl := [_]) Z<|.cs (X := Unit) Fx.call53 Z (fun W s => unless_b _ 5 _ hPo (by decide) (B := (varF (x.vars.take i) xv.nm).isSome || flagB f.flags xv.nm) (by rw [a93];first | rfl | simp) (s.pickT (hd := [_,_,_,_,_]) (tl := bs) (hd' := [_,_,_,_,_]) [1,0,2,3,4] Z Z)) Z fun _ _ => .nl<|.bN<|.tN<|.rg<|.yv (.add Z Z (w6 (by omega))) Z<|.m Z Z<|.nt<|.ag (x := (i,wh1,P1)) (i + 1,([118,97,114,105,97,98,108,101,32] ++ x.nm ++ [46] ++ xv.nm),frsP P1 (rpIf ((varF (x.vars.take i) xv.nm).isSome || flagB f.flags xv.nm) ([118,97,114,105,97,98,108,101,32] ++ x.nm ++ [46] ++ xv.nm) xv.nm 5)) ⟨rfl,trivial⟩ ⟨rfl,rfl,rfl,rfl,trivial⟩ (fun _ s => (s.pickT (hd := [_,_,_,_,_]) (tl := bs) (hd' := [_,_,_]) [0,3,4] Z Z)) ⟨by dsimp only;omega,by dsimp only;rw [flat_succ',← frsP_app (.flat fun _ => .var _ _ _),← hP1,var1_at hi hxv]⟩ (by dsimp only;omega)
  try simp only [df] at h66
  obtain rfl : i = x.vars.length := by omega
  obtain ⟨P2,hP2⟩ : ∃ P2,P2 = P1 := ⟨_,rfl⟩;subst hP2;refine .ex<|.tE<|.tE<|.bE<|.tN<|.sr<|.yv (.fieldAddr Z Fx.field96_2) Z<|.yv (.load Z Fx.agg94 (.tail _<|.tail _<|.head _) Z) Z<|.yv (.lenSl Fx.sl94 Z) Z<|.m Z Z<|.nt<|.bk<|.lp (X := Nat × Str × Pb) [(0,_),(4,_),(109,_),(110,_)] ⟨rfl,rfl,rfl,rfl,trivial⟩ (_ :: _ :: bs) (fun z => [(111,.int .i64 (z.1 : Nat))]) (fun z => H) (fun z => [.box b [strV f.nm,.slice p1 f.flags.length c1,.slice p2 f.links.length c2,.slice (some ⟨bE,oE,none⟩) f.comps.length c3,strV z.2.1,strV z.2.2.wh,strV z.2.2.nm,.int .i64 (z.2.2.er : Nat)] 110]) (fun z => z.1 ≤ x.vers.length ∧ z.2.2 = frsP P2 ((List.range z.1).flatMap (ver1 f x))) (fun z => x.vers.length - z.1) (0,wh1,P2) (fun _ s => s) ⟨rfl,trivial⟩ ⟨Nat.zero_le _,(frsP_nil hPo).symm⟩ fun z hC => ?_
  obtain ⟨j,wh3,P3⟩ := z;obtain ⟨hj0,hP3⟩ := hC;dsimp only at hj0 hP3 ⊢;have hPo3 : PbOk P3 := by rw [hP3];exact frsP_ok hPo (.flat fun _ => .ver _ _ _)
  refine .sr<|.yv (.lss Z Z) Z<|.nt<|.sq<|.cd Z (fun h112 => ?_) (fun h112 => ?_)
  ·try simp only [dt] at h112
   have hj : j < x.vers.length := by omega
   obtain ⟨bG,oG,cG,hpG,rG,lG,mG⟩ := g2.elem (map_at (f := dVs .u8) hj);cases hpG;have hsv := hsm.2.2 x.vers[j] (List.getElem_mem hj);generalize hxr : x.vers[j] = v at rG hsv;obtain ⟨pv,cv,rfl,gv⟩ := vs_open rG;have hcapv := gv.cap;refine .sk<|.tN<|.sq<|.bk<|.sr<|.m Z Z<|.yv (.indexSl Fx.sl94 Z Z Z (by omega) (q := oG + j * 1) Z) Z<|.yv (.loadMW Z Fx.agg103 mG Z) Z<|.al Fx.zero103 Z fun b12 => .a Z Z<|.sW .head Z Z Fx.size103 (by simp [Value.oneCell',strV]) Z<|.ns<|.yv (.fieldAddr Z Fx.field103_0) Z<|.yv (.load Z Fx.agg101 (.head _) Z) Z<|.yv (.lenSl Fx.sl101 Z) Z<|.m Z Z<|.nt<|.bk<|.lp (X := Nat × Str × Pb) [(0,_),(4,_),(11,_),(12,_),(109,_),(110,_),(111,_),(117,_),(118,_)] ⟨rfl,rfl,rfl,rfl,rfl,rfl,rfl,rfl,rfl,trivial⟩ (_ :: _ :: _ :: bs) (fun z => [(119,.int .i64 (z.1 : Nat))]) (fun z => H) (fun z => [.box b [strV f.nm,.slice p1 f.flags.length c1,.slice p2 f.links.length c2,.slice (some ⟨bE,oE,none⟩) f.comps.length c3,strV z.2.1,strV z.2.2.wh,strV z.2.2.nm,.int .i64 (z.2.2.er : Nat)] 110]) (fun z => z.1 ≤ v.length ∧ z.2.2 = frsP P3 ((List.range z.1).flatMap (hdl1 f x j v))) (fun z => v.length - z.1) (0,wh3,P3) (fun _ s => (s.pickT (hd := [_,_,_,_]) (tl := bs) (hd' := [_,_,_,_]) [1,0,2,3] Z Z)) ⟨rfl,trivial⟩ ⟨Nat.zero_le _,(frsP_nil hPo3).symm⟩ fun z hC => ?_
   obtain ⟨i,wh4,P4⟩ := z;obtain ⟨hi0,hP4⟩ := hC;dsimp only at hi0 hP4 ⊢;have hPo4 : PbOk P4 := by rw [hP4];exact frsP_ok hPo3 (.flat fun _ => .hdl _ _ _ _ _)
   refine .sr<|.yv (.lss Z Z) Z<|.nt<|.sq<|.cd Z (fun h120 => ?_) (fun h120 => ?_)
   ·try simp only [dt] at h120
    have hi : i < v.length := by omega
    obtain ⟨bK,oK,cK,hpK,rK,lK,mK⟩ := gv.elem (map_at (f := dHd .u8) hi);cases hpK;have hsh := hsv v[i] (List.getElem_mem hi);generalize hxh : v[i] = hh at rK hsh;obtain ⟨t1,w1,t2,w2,rfl,nh,m1,m2⟩ := hd_open rK;have hil := itoaN_le (k := j + 1) (by have := hsm.2.1;omega);refine .sk<|.tN<|.sq<|.bk<|.sr<|.m Z Z<|.yv (.indexSl Fx.sl101 Z Z Z (by omega) (q := oK + i * 3) Z) Z<|.yv (.loadMW Z Fx.agg107 mK Z) Z<|.al Fx.zero107 Z fun b14 => .a Z Z<|.sW .head Z Z Fx.size107 (by simp [Value.oneCell',strV]) Z<|.nt<|.sq<|.sq<|.fl (trip := [(_,_,_),(_,_,_),(_,_,_),(_,_,_),(_,_,_),(_,_,_),(_,_,_),(_,_,_),(_,_,_),(_,_,_),(_,_,_),(_,_,_),(_,_,_),(_,_,_)]) 14 [(0,0),(1,0),(2,0),(3,0),(4,0),(5,0),(6,0),(7,0),(8,0),(9,0),(10,0),(11,0),(12,0),(13,2)] (by kernel_rfl) (by kernel_rfl) Z<|.m Z Z<|.yv (.fieldAddr Z Fx.field96_0) Z<|.yv (.load Z Fx.agg9 (.tail _<|.tail _<|.tail _<|.tail _<|.head _) Z) Z<|.yv (.app Z Z (by first | omega | (simp;omega))) Z<|.yv (.app Z Z (by first | omega | (simp;omega))) Z<|.yv (.fieldAddr Z Fx.field107_0) Z<|.yv (.load Z Fx.agg9 (.head _) Z) Z<|.yv (.app Z Z (by first | omega | (simp;omega))) Z<|.yv (.app Z Z (by first | omega | (simp;omega))) Z<|.m Z Z<|.yv (.add Z Z (w6 (by omega))) Z<|.yv (.call Fx.call59 Z (fun W s => itoaS_any H (j + 1) (by have := hsm.2.1;omega) W s.agr)) Z<|.yv (.app Z Z (by first | omega | (simp;omega))) Z<|.cs (X := Unit) Fx.call52 Z (fun W s => at_st (hdlW x j hh) (s.pickT (hd := [_,_,_,_,_]) (tl := bs) (hd' := [_,_,_,_,_]) [1,0,2,3,4] Z Z)) Z fun _ _ => .fn (tl := [_]) Z<|.yv (.not Z) Z<|.nt<|.cd Z (fun h138 => ?_) (fun h138 => ?_)
    ·try simp only [dt] at h138
     have hne : P4.er ≠ 0 := by simpa using h138
     refine .rt<|.tR<|.bR<|.tR<|.tR<|.bR<|.bR<|.tR<|.tR<|.bR<|?_
     refine Sx.retN (.inl rfl) rfl .nil rfl fun W s => ⟨(hdlW x j hh),trivial,rfl,?_⟩;have e4 : P4 = frsP P2 ((List.range (j + 1)).flatMap (ver1 f x)) := by rw [flat_succ',← frsP_app (.flat fun _ => .ver _ _ _),← hP3,ver1_at hj hxr,frs_done (P := P3) (fun i => NzP.hdl f x j v i) (Nat.le_of_lt hi) (hP4 ▸ hne),← hP4]
     rw [cmp1_at hk hxE,← frsP_app (NzP.cmpA _ _ _),← frsP_app (.flat fun _ => .var _ _ _),← hP1,frs_done (P := P2) (fun i => NzP.ver f x i) (by omega) (e4 ▸ hne),← e4];exact s.pickT (hd := [_,_,_,_,_]) (tl := bs) (hd' := [_]) [0] rfl rfl
    skip
    refine .sk<|.tN<|.sq<|.ft (p := .light _ _ (.light _ _ (.light _ _ (.light _ _ (.light _ _ (.light _ _ (.light _ _ (.alt _ _ _ (.light _ _ (.light _ _ (.light _ _ (.light _ _ (.alt _ _ _ (.alt _ _ _ (.done) (.no)) (.no)))))) (.alt _ _ _ (.alt _ _ _ (.light _ _ (.light _ _ (.light _ _ (.light _ _ (.alt _ _ _ (.done) (.no)))))) (.no)) (.no)))))))))) 14 (.light 0 (.light 1 (.light 2 (.light 3 (.light 4 (.light 6 (.light 7 (.alt 5 0 (.light 8 (.light 9 (.light 10 (.light 11 (.alt 12 0 (.alt 13 2 (.done) (.no)) (.no)))))) (.alt 12 0 (.alt 5 0 (.light 8 (.light 9 (.light 10 (.light 11 (.alt 13 2 (.done) (.no)))))) (.no)) (.no)))))))))) (by kernel_rfl) (by kernel_rfl) Z<|.yv (.fieldAddr Z Fx.field103_0) Z<|.yv (.load Z Fx.agg101 (.tail _<|.tail _<|.head _) Z) Z<|.m Z Z<|.yv (.cutHi2 Fx.sl101 Z Z (h := i) Z (by have := gv.len.2.1;omega)) Z<|.yv (.build Z (Fx.bld103_0 _ _ _)) Z<|.yv (.fieldAddr Z Fx.field107_0) Z<|.yv (.load Z Fx.agg9 (.tail _<|.head _) Z) Z<|.h ?_ (.h ?_ .nn)
    ·
     refine .blF Z (Fx.bsl94_1 _) Z fun b145 H1 u1 mm => ?_;have rv : Rep H1 (.seq 1 ([v.take i].map (dVs .u8))) [.slice (some ⟨b145,0,none⟩) 1 1] := Rep.mk (n := 1) (c := 1) mm (RepZ.single (by rw [dVs,List.map_take];exact rep_take2 (gv.up u1.up) (by omega)) rfl) rfl (Nat.le_refl _) (by decide);obtain ⟨xh,hxh2,hhc⟩ := handler_any H1 [v.take i] hh.nm _ _ _ rv;obtain ⟨z1,z2,n2,z3,z4,rfl,hone2,hn2,hn3⟩ := hdx hxh2;refine .yv (.call Fx.call60 Z (fun W s => hhc W s.agr)) Z<|.m Z Z<|.yv (.extract Z Z) Z<|.yv (.extract Z Z) Z<|.h1<|.al Fx.zero107 Z fun b15 => .h1<|.sW .head Z Z Fx.size107 hone2 Z ((.yv (.extract Z Z)<|.done (by kernel_rfl)<|.done (by kernel_rfl)<|.done (by kernel_rfl)<|.done (by kernel_rfl)<|.done (by kernel_rfl)<|.done (by kernel_rfl)<|.done (by kernel_rfl)<|.done (by kernel_rfl)<|.done (by kernel_rfl)<|.done (by kernel_rfl)<|.nl))<|.fn (tl := [_]) Z<|.a Z Z<|.ns<|.m Z Z<|.m Z Z<|.yv (.not Z) Z<|.yv (.fieldAddr Z Fx.field107_0) Z<|.yv (.load Z Fx.agg9 (.tail _<|.tail _<|.head _) Z) Z<|.cs (X := Unit) Fx.call53 Z (fun W s => unless_b _ 5 _ hPo4 (by decide) (B := (hdF [v.take i] hh.nm).isSome) Z (s.pickT (hd := [_,_,_,_,_,_]) (tl := bs) (hd' := [_,_,_,_,_,_]) [1,0,2,3,4,5] Z Z)) Z fun _ _ => .nt<|.sq<|?_
     obtain ⟨xg,hxg,hgc⟩ := handler_any H1 (x.vers.take j) hh.nm _ _ _ (by rw [List.map_take];exact rep_take2 (g2.up u1.up) (by omega));obtain ⟨z5,z6,n7,z8,z9,rfl,hone3,hn7,hn8⟩ := hdx hxg;refine .fl (trip := [(_,_,_),(_,_,_),(_,_,_),(_,_,_),(_,_,_),(_,_,_),(_,_,_),(_,_,_),(_,_,_),(_,_,_),(_,_,_),(_,_,_)]) 12 [(0,0),(1,0),(2,0),(3,0),(4,0),(5,0),(6,0),(7,0),(8,0),(9,0),(10,1),(11,3)] (by kernel_rfl) (by kernel_rfl) Z<|.yv (.fieldAddr Z Fx.field96_2) Z<|.yv (.load Z Fx.agg94 (.tail _<|.tail _<|.tail _<|.tail _<|.tail _<|.head _) Z) Z<|.m Z Z<|.yv (.cutHi2 Fx.sl94 Z Z (h := j) Z (by have := g2.len.2.1;omega)) Z<|.yv (.fieldAddr Z Fx.field107_0) Z<|.yv (.load Z Fx.agg9 (.tail _<|.tail _<|.head _) Z) Z<|.yv (.call Fx.call60 Z (fun W s => hgc W s.agr)) Z<|.m Z Z<|.yv (.extract Z Z) Z<|.yv (.extract Z Z) Z<|.al Fx.zero107 Z fun b17 => .sW .head Z Z Fx.size107 hone3 Z ((.yv (.extract Z Z)<|.done (by kernel_rfl)<|.done (by kernel_rfl)<|.done (by kernel_rfl)<|.done (by kernel_rfl)<|.done (by kernel_rfl)<|.done (by kernel_rfl)<|.done (by kernel_rfl)<|.done (by kernel_rfl)<|.done (by kernel_rfl)<|.nl))<|.fn (tl := [_]) Z<|.a Z Z<|.ns<|.m Z Z<|.m Z Z<|.yv (.not Z) Z<|.m Z Z<|.b2 (fun h170 => ?_) (fun h170 => ?_)
     ·have a170 : (hdF (x.vers.take j) hh.nm).isSome = false := nB_t h170;have hgB : true = !befB x j hh := by rw [befB_no a170];rfl
      exact .gF Z Z Z Z<|.gF Z Z Z Z<|.gF Z Z Z Z<|.gF Z Z Z Z<|.gF Z Z Z Z<|.gF Z Z Z Z<|.gF Z Z Z Z<|.yv (.pickT Z Z) Z<|.yv (.fieldAddr Z Fx.field107_0) Z<|.yv (.load Z Fx.agg9 (.tail _<|.tail _<|.tail _<|.head _) Z) Z<|.cs (X := Unit) Fx.call53 Z (fun W s => unless_b _ 10 _ (frsP_ok hPo4 (NzP.if_ (by decide))) (by decide) hgB (s.pickT (hd := [_,_,_,_,_,_,_]) (tl := bs) (hd' := [_,_,_,_,_,_,_]) [1,0,2,3,4,5,6] Z Z)) Z fun _ _ => .nt<|.fl (trip := [(_,_,_),(_,_,_),(_,_,_),(_,_,_),(_,_,_),(_,_,_),(_,_,_)]) 7 [(0,0),(1,0),(2,0),(3,0),(4,0),(5,0),(6,0)] (by kernel_rfl) (by kernel_rfl) Z<|.m Z Z<|.yv (.loadW Z Fx.agg96 (.tail _<|.tail _<|.tail _<|.tail _<|.tail _<|.tail _<|.head _) Z) Z<|.yv (.loadW Z Fx.agg107 (.tail _<|.tail _<|.tail _<|.head _) Z) Z<|.m Z Z<|.yv (.add Z Z (w6 (by omega))) Z<|.yv (.call Fx.call59 Z (fun W s => itoaS_any H1 (j + 1) (by have := hsm.2.1;omega) W s.agr)) Z<|.yv (.app Z Z (by first | omega | (simp;omega))) Z<|.fn (tl := [_]) Z<|.cs (X := Str) Fx.call61 Z (fun W s => body_st (frsP_ok (frsP_ok hPo4 (NzP.if_ (by decide))) (NzP.if_ (by decide))) (h1.up u1.up) (h2.up u1.up) (h3.up u1.up) x _ _ _ _ (g1.up u1.up) (g2.up u1.up) hh _ _ _ _ (m1.up u1.up) (m2.up u1.up) j (by have := hsm.2.1;omega) Z hnx nh (hsh) (s.pickT (hd := [_,_,_,_,_,_,_]) (tl := bs) (hd' := [_,_,_,_,_,_,_]) [0,1,2,3,4,5,6] Z Z)) Z fun z189 _ => .nl<|.bN<|.tN<|.rg<|.yv (.add Z Z (w6 (by omega))) Z<|.m Z Z<|.nt<|.ag (x := (i,wh4,P4)) (i + 1,z189,frsP (frsP (frsP P4 (rpIf (hdF [v.take i] hh.nm).isSome (hdlW x j hh) hh.nm 5)) (rpIf (befB x j hh) (hdlW x j hh) hh.nm 10)) ((List.range hh.ps.length).flatMap (par1 f x j hh) ++ stLs f.comps x.vers ⟨f.flags,x.vars,hh.ps⟩ (stmW x j hh) 0 hh.body)) ⟨rfl,trivial⟩ ⟨rfl,rfl,rfl,rfl,rfl,rfl,rfl,rfl,rfl,trivial⟩ (fun _ s => weakH u1.up (s.pickT (hd := [_,_,_,_,_,_,_]) (tl := bs) (hd' := [_,_,_,_]) [0,4,5,6] Z Z)) ⟨by dsimp only;omega,by dsimp only;rw [flat_succ',← frsP_app (.flat fun _ => .hdl _ _ _ _ _),← hP4,hdl1_at hi hxh,← frsP_app (NzP.if_ (by decide)),← frsP_app (NzP.if_ (by decide))]⟩ (by dsimp only;omega)
     have a170 : (hdF (x.vers.take j) hh.nm).isSome = true := nB_f h170;have hgB := befB_eq (h := hh) hn7 a170;exact .gd Z Z<|.yv (.fieldAddr Z Fx.field107_1) Z<|.gd Z Z<|.yv (.load Z Fx.agg54 (.head _) Z) Z<|.gd Z Z<|.yv (.lenSl Fx.sl54 Z) Z<|.gd Z Z<|.yv (.fieldAddr Z Fx.field107_1) Z<|.gd Z Z<|.yv (.load Z Fx.agg54 (.tail _<|.tail _<|.tail _<|.head _) Z) Z<|.gd Z Z<|.yv (.lenSl Fx.sl54 Z) Z<|.gd Z Z<|.yv (.eql Z Z) Z<|.yv (.pickF Z Z) Z<|.yv (.fieldAddr Z Fx.field107_0) Z<|.yv (.load Z Fx.agg9 (.tail _<|.tail _<|.tail _<|.head _) Z) Z<|.cs (X := Unit) Fx.call53 Z (fun W s => unless_b _ 10 _ (frsP_ok hPo4 (NzP.if_ (by decide))) (by decide) hgB (s.pickT (hd := [_,_,_,_,_,_,_]) (tl := bs) (hd' := [_,_,_,_,_,_,_]) [1,0,2,3,4,5,6] Z Z)) Z fun _ _ => .nt<|.fl (trip := [(_,_,_),(_,_,_),(_,_,_),(_,_,_),(_,_,_),(_,_,_),(_,_,_)]) 7 [(0,0),(1,0),(2,0),(3,0),(4,0),(5,0),(6,0)] (by kernel_rfl) (by kernel_rfl) Z<|.m Z Z<|.yv (.loadW Z Fx.agg96 (.tail _<|.tail _<|.tail _<|.tail _<|.tail _<|.tail _<|.head _) Z) Z<|.yv (.loadW Z Fx.agg107 (.tail _<|.tail _<|.tail _<|.head _) Z) Z<|.m Z Z<|.yv (.add Z Z (w6 (by omega))) Z<|.yv (.call Fx.call59 Z (fun W s => itoaS_any H1 (j + 1) (by have := hsm.2.1;omega) W s.agr)) Z<|.yv (.app Z Z (by first | omega | (simp;omega))) Z<|.fn (tl := [_]) Z<|.cs (X := Str) Fx.call61 Z (fun W s => body_st (frsP_ok (frsP_ok hPo4 (NzP.if_ (by decide))) (NzP.if_ (by decide))) (h1.up u1.up) (h2.up u1.up) (h3.up u1.up) x _ _ _ _ (g1.up u1.up) (g2.up u1.up) hh _ _ _ _ (m1.up u1.up) (m2.up u1.up) j (by have := hsm.2.1;omega) Z hnx nh (hsh) (s.pickT (hd := [_,_,_,_,_,_,_]) (tl := bs) (hd' := [_,_,_,_,_,_,_]) [0,1,2,3,4,5,6] Z Z)) Z fun z189 _ => .nl<|.bN<|.tN<|.rg<|.yv (.add Z Z (w6 (by omega))) Z<|.m Z Z<|.nt<|.ag (x := (i,wh4,P4)) (i + 1,z189,frsP (frsP (frsP P4 (rpIf (hdF [v.take i] hh.nm).isSome (hdlW x j hh) hh.nm 5)) (rpIf (befB x j hh) (hdlW x j hh) hh.nm 10)) ((List.range hh.ps.length).flatMap (par1 f x j hh) ++ stLs f.comps x.vers ⟨f.flags,x.vars,hh.ps⟩ (stmW x j hh) 0 hh.body)) ⟨rfl,trivial⟩ ⟨rfl,rfl,rfl,rfl,rfl,rfl,rfl,rfl,rfl,trivial⟩ (fun _ s => weakH u1.up (s.pickT (hd := [_,_,_,_,_,_,_]) (tl := bs) (hd' := [_,_,_,_]) [0,4,5,6] Z Z)) ⟨by dsimp only;omega,by dsimp only;rw [flat_succ',← frsP_app (.flat fun _ => .hdl _ _ _ _ _),← hP4,hdl1_at hi hxh,← frsP_app (NzP.if_ (by decide)),← frsP_app (NzP.if_ (by decide))]⟩ (by dsimp only;omega)
    refine .al Fx.zero107 Z fun b15 => .h1<|.blF Z (Fx.bsl94_1 _) Z fun b145 H1 u1 mm => ?_
    have rv : Rep H1 (.seq 1 ([v.take i].map (dVs .u8))) [.slice (some ⟨b145,0,none⟩) 1 1] := Rep.mk (n := 1) (c := 1) mm (RepZ.single (by rw [dVs,List.map_take];exact rep_take2 (gv.up u1.up) (by omega)) rfl) rfl (Nat.le_refl _) (by decide);obtain ⟨xh,hxh2,hhc⟩ := handler_any H1 [v.take i] hh.nm _ _ _ rv;obtain ⟨z1,z2,n2,z3,z4,rfl,hone2,hn2,hn3⟩ := hdx hxh2;refine .yv (.call Fx.call60 Z (fun W s => hhc W s.agr)) Z<|.m Z Z<|.yv (.extract Z Z) Z<|.yv (.extract Z Z) Z<|.h1<|.sW .head Z Z Fx.size107 hone2 Z ((.yv (.extract Z Z)<|.done (by kernel_rfl)<|.done (by kernel_rfl)<|.done (by kernel_rfl)<|.done (by kernel_rfl)<|.done (by kernel_rfl)<|.done (by kernel_rfl)<|.done (by kernel_rfl)<|.done (by kernel_rfl)<|.done (by kernel_rfl)<|.done (by kernel_rfl)<|.nl))<|.fn (tl := [_]) Z<|.a Z Z<|.ns<|.m Z Z<|.m Z Z<|.yv (.not Z) Z<|.yv (.fieldAddr Z Fx.field107_0) Z<|.yv (.load Z Fx.agg9 (.tail _<|.tail _<|.head _) Z) Z<|.cs (X := Unit) Fx.call53 Z (fun W s => unless_b _ 5 _ hPo4 (by decide) (B := (hdF [v.take i] hh.nm).isSome) Z (s.pickT (hd := [_,_,_,_,_,_]) (tl := bs) (hd' := [_,_,_,_,_,_]) [1,0,2,3,4,5] Z Z)) Z fun _ _ => .nt<|.sq<|?_
    obtain ⟨xg,hxg,hgc⟩ := handler_any H1 (x.vers.take j) hh.nm _ _ _ (by rw [List.map_take];exact rep_take2 (g2.up u1.up) (by omega));obtain ⟨z5,z6,n7,z8,z9,rfl,hone3,hn7,hn8⟩ := hdx hxg;refine .fl (trip := [(_,_,_),(_,_,_),(_,_,_),(_,_,_),(_,_,_),(_,_,_),(_,_,_),(_,_,_),(_,_,_),(_,_,_),(_,_,_),(_,_,_)]) 12 [(0,0),(1,0),(2,0),(3,0),(4,0),(5,0),(6,0),(7,0),(8,0),(9,0),(10,1),(11,3)] (by kernel_rfl) (by kernel_rfl) Z<|.yv (.fieldAddr Z Fx.field96_2) Z<|.yv (.load Z Fx.agg94 (.tail _<|.tail _<|.tail _<|.tail _<|.tail _<|.head _) Z) Z<|.m Z Z<|.yv (.cutHi2 Fx.sl94 Z Z (h := j) Z (by have := g2.len.2.1;omega)) Z<|.yv (.fieldAddr Z Fx.field107_0) Z<|.yv (.load Z Fx.agg9 (.tail _<|.tail _<|.head _) Z) Z<|.yv (.call Fx.call60 Z (fun W s => hgc W s.agr)) Z<|.m Z Z<|.yv (.extract Z Z) Z<|.yv (.extract Z Z) Z<|.al Fx.zero107 Z fun b17 => .sW .head Z Z Fx.size107 hone3 Z ((.yv (.extract Z Z)<|.done (by kernel_rfl)<|.done (by kernel_rfl)<|.done (by kernel_rfl)<|.done (by kernel_rfl)<|.done (by kernel_rfl)<|.done (by kernel_rfl)<|.done (by kernel_rfl)<|.done (by kernel_rfl)<|.done (by kernel_rfl)<|.nl))<|.fn (tl := [_]) Z<|.a Z Z<|.ns<|.m Z Z<|.m Z Z<|.yv (.not Z) Z<|.m Z Z<|.b2 (fun h170 => ?_) (fun h170 => ?_)
    ·have a170 : (hdF (x.vers.take j) hh.nm).isSome = false := nB_t h170;have hgB : true = !befB x j hh := by rw [befB_no a170];rfl
     exact .gF Z Z Z Z<|.gF Z Z Z Z<|.gF Z Z Z Z<|.gF Z Z Z Z<|.gF Z Z Z Z<|.gF Z Z Z Z<|.gF Z Z Z Z<|.yv (.pickT Z Z) Z<|.yv (.fieldAddr Z Fx.field107_0) Z<|.yv (.load Z Fx.agg9 (.tail _<|.tail _<|.tail _<|.head _) Z) Z<|.cs (X := Unit) Fx.call53 Z (fun W s => unless_b _ 10 _ (frsP_ok hPo4 (NzP.if_ (by decide))) (by decide) hgB (s.pickT (hd := [_,_,_,_,_,_,_]) (tl := bs) (hd' := [_,_,_,_,_,_,_]) [1,0,2,3,4,5,6] Z Z)) Z fun _ _ => .nt<|.fl (trip := [(_,_,_),(_,_,_),(_,_,_),(_,_,_),(_,_,_),(_,_,_),(_,_,_)]) 7 [(0,0),(1,0),(2,0),(3,0),(4,0),(5,0),(6,0)] (by kernel_rfl) (by kernel_rfl) Z<|.m Z Z<|.yv (.loadW Z Fx.agg96 (.tail _<|.tail _<|.tail _<|.tail _<|.tail _<|.tail _<|.head _) Z) Z<|.yv (.loadW Z Fx.agg107 (.tail _<|.tail _<|.tail _<|.head _) Z) Z<|.m Z Z<|.yv (.add Z Z (w6 (by omega))) Z<|.yv (.call Fx.call59 Z (fun W s => itoaS_any H1 (j + 1) (by have := hsm.2.1;omega) W s.agr)) Z<|.yv (.app Z Z (by first | omega | (simp;omega))) Z<|.fn (tl := [_]) Z<|.cs (X := Str) Fx.call61 Z (fun W s => body_st (frsP_ok (frsP_ok hPo4 (NzP.if_ (by decide))) (NzP.if_ (by decide))) (h1.up u1.up) (h2.up u1.up) (h3.up u1.up) x _ _ _ _ (g1.up u1.up) (g2.up u1.up) hh _ _ _ _ (m1.up u1.up) (m2.up u1.up) j (by have := hsm.2.1;omega) Z hnx nh (hsh) (s.pickT (hd := [_,_,_,_,_,_,_]) (tl := bs) (hd' := [_,_,_,_,_,_,_]) [0,1,2,3,4,5,6] Z Z)) Z fun z189 _ => .nl<|.bN<|.tN<|.rg<|.yv (.add Z Z (w6 (by omega))) Z<|.m Z Z<|.nt<|.ag (x := (i,wh4,P4)) (i + 1,z189,frsP (frsP (frsP P4 (rpIf (hdF [v.take i] hh.nm).isSome (hdlW x j hh) hh.nm 5)) (rpIf (befB x j hh) (hdlW x j hh) hh.nm 10)) ((List.range hh.ps.length).flatMap (par1 f x j hh) ++ stLs f.comps x.vers ⟨f.flags,x.vars,hh.ps⟩ (stmW x j hh) 0 hh.body)) ⟨rfl,trivial⟩ ⟨rfl,rfl,rfl,rfl,rfl,rfl,rfl,rfl,rfl,trivial⟩ (fun _ s => weakH u1.up (s.pickT (hd := [_,_,_,_,_,_,_]) (tl := bs) (hd' := [_,_,_,_]) [0,4,5,6] Z Z)) ⟨by dsimp only;omega,by dsimp only;rw [flat_succ',← frsP_app (.flat fun _ => .hdl _ _ _ _ _),← hP4,hdl1_at hi hxh,← frsP_app (NzP.if_ (by decide)),← frsP_app (NzP.if_ (by decide))]⟩ (by dsimp only;omega)
    have a170 : (hdF (x.vers.take j) hh.nm).isSome = true := nB_f h170;have hgB := befB_eq (h := hh) hn7 a170;exact .gd Z Z<|.yv (.fieldAddr Z Fx.field107_1) Z<|.gd Z Z<|.yv (.load Z Fx.agg54 (.head _) Z) Z<|.gd Z Z<|.yv (.lenSl Fx.sl54 Z) Z<|.gd Z Z<|.yv (.fieldAddr Z Fx.field107_1) Z<|.gd Z Z<|.yv (.load Z Fx.agg54 (.tail _<|.tail _<|.tail _<|.head _) Z) Z<|.gd Z Z<|.yv (.lenSl Fx.sl54 Z) Z<|.gd Z Z<|.yv (.eql Z Z) Z<|.yv (.pickF Z Z) Z<|.yv (.fieldAddr Z Fx.field107_0) Z<|.yv (.load Z Fx.agg9 (.tail _<|.tail _<|.tail _<|.head _) Z) Z<|.cs (X := Unit) Fx.call53 Z (fun W s => unless_b _ 10 _ (frsP_ok hPo4 (NzP.if_ (by decide))) (by decide) hgB (s.pickT (hd := [_,_,_,_,_,_,_]) (tl := bs) (hd' := [_,_,_,_,_,_,_]) [1,0,2,3,4,5,6] Z Z)) Z fun _ _ => .nt<|.fl (trip := [(_,_,_),(_,_,_),(_,_,_),(_,_,_),(_,_,_),(_,_,_),(_,_,_)]) 7 [(0,0),(1,0),(2,0),(3,0),(4,0),(5,0),(6,0)] (by kernel_rfl) (by kernel_rfl) Z<|.m Z Z<|.yv (.loadW Z Fx.agg96 (.tail _<|.tail _<|.tail _<|.tail _<|.tail _<|.tail _<|.head _) Z) Z<|.yv (.loadW Z Fx.agg107 (.tail _<|.tail _<|.tail _<|.head _) Z) Z<|.m Z Z<|.yv (.add Z Z (w6 (by omega))) Z<|.yv (.call Fx.call59 Z (fun W s => itoaS_any H1 (j + 1) (by have := hsm.2.1;omega) W s.agr)) Z<|.yv (.app Z Z (by first | omega | (simp;omega))) Z<|.fn (tl := [_]) Z<|.cs (X := Str) Fx.call61 Z (fun W s => body_st (frsP_ok (frsP_ok hPo4 (NzP.if_ (by decide))) (NzP.if_ (by decide))) (h1.up u1.up) (h2.up u1.up) (h3.up u1.up) x _ _ _ _ (g1.up u1.up) (g2.up u1.up) hh _ _ _ _ (m1.up u1.up) (m2.up u1.up) j (by have := hsm.2.1;omega) Z hnx nh (hsh) (s.pickT (hd := [_,_,_,_,_,_,_]) (tl := bs) (hd' := [_,_,_,_,_,_,_]) [0,1,2,3,4,5,6] Z Z)) Z fun z189 _ => .nl<|.bN<|.tN<|.rg<|.yv (.add Z Z (w6 (by omega))) Z<|.m Z Z<|.nt<|.ag (x := (i,wh4,P4)) (i + 1,z189,frsP (frsP (frsP P4 (rpIf (hdF [v.take i] hh.nm).isSome (hdlW x j hh) hh.nm 5)) (rpIf (befB x j hh) (hdlW x j hh) hh.nm 10)) ((List.range hh.ps.length).flatMap (par1 f x j hh) ++ stLs f.comps x.vers ⟨f.flags,x.vars,hh.ps⟩ (stmW x j hh) 0 hh.body)) ⟨rfl,trivial⟩ ⟨rfl,rfl,rfl,rfl,rfl,rfl,rfl,rfl,rfl,trivial⟩ (fun _ s => weakH u1.up (s.pickT (hd := [_,_,_,_,_,_,_]) (tl := bs) (hd' := [_,_,_,_]) [0,4,5,6] Z Z)) ⟨by dsimp only;omega,by dsimp only;rw [flat_succ',← frsP_app (.flat fun _ => .hdl _ _ _ _ _),← hP4,hdl1_at hi hxh,← frsP_app (NzP.if_ (by decide)),← frsP_app (NzP.if_ (by decide))]⟩ (by dsimp only;omega)
   try simp only [df] at h120
   obtain rfl : i = v.length := by omega
   exact .ex<|.tE<|.tE<|.bE<|.bN<|.tN<|.rg<|.yv (.add Z Z (w6 (by omega))) Z<|.m Z Z<|.nt<|.ag (x := (j,wh3,P3)) (j + 1,wh4,P4) ⟨rfl,trivial⟩ ⟨rfl,rfl,rfl,rfl,trivial⟩ (fun _ s => (s.pickT (hd := [_,_,_,_]) (tl := bs) (hd' := [_,_,_]) [0,2,3] Z Z)) ⟨by dsimp only;omega,by dsimp only;rw [flat_succ',← frsP_app (.flat fun _ => .ver _ _ _),← hP3,ver1_at hj hxr,← hP4]⟩ (by dsimp only;omega)
  try simp only [df] at h112
  obtain rfl : j = x.vers.length := by omega
  refine .ex<|.tE<|.tE<|.bE<|?_
  refine Sx.retN (.inr rfl) rfl .nil rfl fun W s => ⟨wh3,trivial,rfl,?_⟩;rw [cmp1_at hk hxE,← frsP_app (NzP.cmpA _ _ _),← frsP_app (.flat fun _ => .var _ _ _),← hP1,← hP3];exact s.pickT (hd := [_,_,_]) (tl := bs) (hd' := [_]) [0] rfl rfl
 have a48 : (cpF (f.comps.take k) x.nm).isSome = true := nB_f h48;refine .gF Z Z Z Z<|.gF Z Z Z Z<|.gF Z Z Z Z<|.gF Z Z Z Z<|.gF Z Z Z Z<|.gF Z Z Z Z<|.gF Z Z Z Z<|.gF Z Z Z Z<|.gF Z Z Z Z<|.yv (.pickF Z Z) Z<|.yv (.fieldAddr Z Fx.field96_0) Z<|.yv (.load Z Fx.agg9 (.tail _<|.tail _<|.head _) Z) Z<|.fn (tl := [_]) Z<|.cs (X := Unit) Fx.call53 Z (fun W s => unless_b _ 5 _ hP (by decide) (B := (cpF (f.comps.take k) x.nm).isSome || flagB f.flags x.nm) (by rw [a48];first | rfl | simp) (s.pickT (hd := [_,_,_]) (tl := bs) (hd' := [_,_,_]) [1,0,2] Z Z)) Z fun _ _ => .nt<|.sq<|.sr<|.yv (.fieldAddr Z Fx.field96_1) Z<|.yv (.load Z Fx.agg93 (.tail _<|.tail _<|.head _) Z) Z<|.yv (.lenSl Fx.sl93 Z) Z<|.m Z Z<|.nt<|.bk<|.lp (X := Nat × Str × Pb) [(0,_),(4,_),(63,_),(64,_)] ⟨rfl,rfl,rfl,rfl,trivial⟩ (_ :: _ :: bs) (fun z => [(65,.int .i64 (z.1 : Nat))]) (fun z => H) (fun z => [.box b [strV f.nm,.slice p1 f.flags.length c1,.slice p2 f.links.length c2,.slice (some ⟨bE,oE,none⟩) f.comps.length c3,strV z.2.1,strV z.2.2.wh,strV z.2.2.nm,.int .i64 (z.2.2.er : Nat)] 110]) (fun z => z.1 ≤ x.vars.length ∧ z.2.2 = frsP (frsP P (cmpA f k x)) ((List.range z.1).flatMap (var1 f x))) (fun z => x.vars.length - z.1) (0,([99,111,109,112,111,110,101,110,116,32] ++ x.nm),frsP P (cmpA f k x)) (fun _ s => s) ⟨rfl,trivial⟩ ⟨Nat.zero_le _,(frsP_nil (frsP_ok hP (NzP.cmpA _ _ _))).symm⟩ fun z hC => ?_
 obtain ⟨i,wh1,P1⟩ := z;obtain ⟨hi0,hP1⟩ := hC;dsimp only at hi0 hP1 ⊢;have hPo : PbOk P1 := by rw [hP1];exact frsP_ok (frsP_ok hP (NzP.cmpA _ _ _)) (.flat fun _ => .var _ _ _)
 refine .sr<|.yv (.lss Z Z) Z<|.nt<|.sq<|.cd Z (fun h66 => ?_) (fun h66 => ?_)
 ·try simp only [dt] at h66
  have hi : i < x.vars.length := by omega
  obtain ⟨bF,oF,cF,hpF,rF,lF,mF⟩ := g1.elem (map_at (f := dVr .u8) hi);cases hpF;generalize hxv : x.vars[i] = xv at rF;obtain ⟨rfl,nv⟩ := vr_open rF;refine .sk<|.tN<|.sq<|.bk<|.sr<|.m Z Z<|.yv (.indexSl Fx.sl93 Z Z Z (by omega) (q := oF + i * 3) Z) Z<|.yv (.loadMW Z Fx.agg100 mF Z) Z<|.al Fx.zero100 Z fun b8 => .a Z Z<|.sW .head Z Z Fx.size100 (by simp [Value.oneCell',strV]) Z<|.nt<|.sq<|.sr<|.m Z Z<|.yv (.fieldAddr Z Fx.field96_0) Z<|.yv (.load Z Fx.agg9 (.tail _<|.tail _<|.tail _<|.head _) Z) Z<|.yv (.app Z Z (by first | omega | (simp;omega))) Z<|.yv (.app Z Z (by first | omega | (simp;omega))) Z<|.yv (.fieldAddr Z Fx.field100_0) Z<|.yv (.load Z Fx.agg9 (.head _) Z) Z<|.yv (.app Z Z (by first | omega | (simp;omega))) Z<|.cs (X := Unit) Fx.call52 Z (fun W s => at_st ([118,97,114,105,97,98,108,101,32] ++ x.nm ++ [46] ++ xv.nm) (s.pickT (hd := [_,_,_,_]) (tl := bs) (hd' := [_,_,_,_]) [1,0,2,3] Z Z)) Z fun _ _ => .yv (.not Z) Z<|.nt<|.cd Z (fun h79 => ?_) (fun h79 => ?_)
  ·try simp only [dt] at h79
   have hne : P1.er ≠ 0 := by simpa using h79
   refine .rt<|.tR<|.bR<|.tR<|.tR<|.bR<|.tR<|?_
   refine Sx.retN (.inl rfl) rfl .nil rfl fun W s => ⟨([118,97,114,105,97,98,108,101,32] ++ x.nm ++ [46] ++ xv.nm),trivial,rfl,?_⟩;rw [cmp1_at hk hxE,← frsP_app (NzP.cmpA _ _ _),← frsP_app (.flat fun _ => .var _ _ _),frs_done (P := frsP P (cmpA f k x)) (fun i => NzP.var f x i) (Nat.le_of_lt hi) (hP1 ▸ hne),← hP1,frsP_keep hne];exact s.pickT (hd := [_,_,_,_]) (tl := bs) (hd' := [_]) [0] rfl rfl
  skip
  refine .sk<|.tN<|.sq<|.fl (trip := [(_,_,_),(_,_,_),(_,_,_),(_,_,_),(_,_,_),(_,_,_),(_,_,_),(_,_,_),(_,_,_),(_,_,_),(_,_,_),(_,_,_)]) 12 [(0,0),(1,0),(2,0),(3,0),(4,0),(5,0),(6,0),(7,0),(8,0),(9,0),(10,1),(11,3)] (by kernel_rfl) (by kernel_rfl) Z<|.yv (.fieldAddr Z Fx.field96_1) Z<|.yv (.load Z Fx.agg93 (.tail _<|.tail _<|.tail _<|.head _) Z) Z<|.m Z Z<|.yv (.cutHi2 Fx.sl93 Z Z (h := i) Z (by have := g1.len.2.1;omega)) Z<|.yv (.fieldAddr Z Fx.field100_0) Z<|.yv (.load Z Fx.agg9 (.tail _<|.head _) Z) Z<|.yv (.call Fx.call58 Z (fun W s => variable_v H (x.vars.take i) xv.nm _ _ _ (by rw [List.map_take];exact rep_take2 g1 (by omega)) W s.agr)) Z<|.m Z Z<|.yv (.extract Z Z) Z<|.yv (.extract Z Z) Z<|.al Fx.zero100 Z fun b9 => .sW .head Z Z Fx.size100 (by simp [cVr,Value.oneCell',strV]) Z ((.yv (.extract Z Z)<|.done (by kernel_rfl)<|.done (by kernel_rfl)<|.done (by kernel_rfl)<|.done (by kernel_rfl)<|.done (by kernel_rfl)<|.done (by kernel_rfl)<|.done (by kernel_rfl)<|.done (by kernel_rfl)<|.done (by kernel_rfl)<|.nl))<|.fn (tl := [_]) Z<|.a Z Z<|.nt<|.fl (trip := [(_,_,_),(_,_,_),(_,_,_),(_,_,_),(_,_,_),(_,_,_),(_,_,_),(_,_,_),(_,_,_),(_,_,_),(_,_,_),(_,_,_),(_,_,_),(_,_,_),(_,_,_),(_,_,_)]) 16 [(0,0),(1,0),(2,0),(3,0),(4,0),(5,0),(6,0),(7,0),(8,0),(9,0),(10,0),(11,0),(12,0),(13,0),(14,0),(15,0)] (by kernel_rfl) (by kernel_rfl) Z<|.m Z Z<|.m Z Z<|.yv (.not Z) Z<|.m Z Z<|.b2 (fun h93 => ?_) (fun h93 => ?_)
  ·have a93 : (varF (x.vars.take i) xv.nm).isSome = false := nB_t h93;exact .yg Z Z (.move Z) Z<|.yg Z Z (.nilCheck Z) Z<|.yg Z Z (.fieldAddr Z Fx.field110_0) Z<|.yg Z Z (.fieldAddr Z Fx.field37_1) Z<|.yg Z Z (.load Z Fx.agg33 (.tail _<|.head _) Z) Z<|.yg Z Z (.fieldAddr Z Fx.field100_0) Z<|.yg Z Z (.load Z Fx.agg9 (.tail _<|.tail _<|.head _) Z) Z<|.yg Z Z (.call Fx.call54 Z (fun W s => flag_any H f.flags xv.nm _ h1 W s.agr)) Z<|.yg Z Z (.not Z) Z<|.yv (.pickT Z Z) Z<|.yv (.fieldAddr Z Fx.field100_0) Z<|.yv (.load Z Fx.agg9 (.tail _<|.tail _<|.head _) Z) Z<|.fn (tl := [_]) Z<|.cs (X := Unit) Fx.call53 Z (fun W s => unless_b _ 5 _ hPo (by decide) (B := (varF (x.vars.take i) xv.nm).isSome || flagB f.flags xv.nm) (by rw [a93];first | rfl | simp) (s.pickT (hd := [_,_,_,_,_]) (tl := bs) (hd' := [_,_,_,_,_]) [1,0,2,3,4] Z Z)) Z fun _ _ => .nl<|.bN<|.tN<|.rg<|.yv (.add Z Z (w6 (by omega))) Z<|.m Z Z<|.nt<|.ag (x := (i,wh1,P1)) (i + 1,([118,97,114,105,97,98,108,101,32] ++ x.nm ++ [46] ++ xv.nm),frsP P1 (rpIf ((varF (x.vars.take i) xv.nm).isSome || flagB f.flags xv.nm) ([118,97,114,105,97,98,108,101,32] ++ x.nm ++ [46] ++ xv.nm) xv.nm 5)) ⟨rfl,trivial⟩ ⟨rfl,rfl,rfl,rfl,trivial⟩ (fun _ s => (s.pickT (hd := [_,_,_,_,_]) (tl := bs) (hd' := [_,_,_]) [0,3,4] Z Z)) ⟨by dsimp only;omega,by dsimp only;rw [flat_succ',← frsP_app (.flat fun _ => .var _ _ _),← hP1,var1_at hi hxv]⟩ (by dsimp only;omega)
  have a93 : (varF (x.vars.take i) xv.nm).isSome = true := nB_f h93;exact .gF Z Z Z Z<|.gF Z Z Z Z<|.gF Z Z Z Z<|.gF Z Z Z Z<|.gF Z Z Z Z<|.gF Z Z Z Z<|.gF Z Z Z Z<|.gF Z Z Z Z<|.gF Z Z Z Z<|.yv (.pickF Z Z) Z<|.yv (.fieldAddr Z Fx.field100_0) Z<|.yv (.load Z Fx.agg9 (.tail _<|.tail _<|.head _) Z) Z<|.fn (tl := [_]) Z<|.cs (X := Unit) Fx.call53 Z (fun W s => unless_b _ 5 _ hPo (by decide) (B := (varF (x.vars.take i) xv.nm).isSome || flagB f.flags xv.nm) (by rw [a93];first | rfl | simp) (s.pickT (hd := [_,_,_,_,_]) (tl := bs) (hd' := [_,_,_,_,_]) [1,0,2,3,4] Z Z)) Z fun _ _ => .nl<|.bN<|.tN<|.rg<|.yv (.add Z Z (w6 (by omega))) Z<|.m Z Z<|.nt<|.ag (x := (i,wh1,P1)) (i + 1,([118,97,114,105,97,98,108,101,32] ++ x.nm ++ [46] ++ xv.nm),frsP P1 (rpIf ((varF (x.vars.take i) xv.nm).isSome || flagB f.flags xv.nm) ([118,97,114,105,97,98,108,101,32] ++ x.nm ++ [46] ++ xv.nm) xv.nm 5)) ⟨rfl,trivial⟩ ⟨rfl,rfl,rfl,rfl,trivial⟩ (fun _ s => (s.pickT (hd := [_,_,_,_,_]) (tl := bs) (hd' := [_,_,_]) [0,3,4] Z Z)) ⟨by dsimp only;omega,by dsimp only;rw [flat_succ',← frsP_app (.flat fun _ => .var _ _ _),← hP1,var1_at hi hxv]⟩ (by dsimp only;omega)
 try simp only [df] at h66
 obtain rfl : i = x.vars.length := by omega
 obtain ⟨P2,hP2⟩ : ∃ P2,P2 = P1 := ⟨_,rfl⟩;subst hP2;refine .ex<|.tE<|.tE<|.bE<|.tN<|.sr<|.yv (.fieldAddr Z Fx.field96_2) Z<|.yv (.load Z Fx.agg94 (.tail _<|.tail _<|.head _) Z) Z<|.yv (.lenSl Fx.sl94 Z) Z<|.m Z Z<|.nt<|.bk<|.lp (X := Nat × Str × Pb) [(0,_),(4,_),(109,_),(110,_)] ⟨rfl,rfl,rfl,rfl,trivial⟩ (_ :: _ :: bs) (fun z => [(111,.int .i64 (z.1 : Nat))]) (fun z => H) (fun z => [.box b [strV f.nm,.slice p1 f.flags.length c1,.slice p2 f.links.length c2,.slice (some ⟨bE,oE,none⟩) f.comps.length c3,strV z.2.1,strV z.2.2.wh,strV z.2.2.nm,.int .i64 (z.2.2.er : Nat)] 110]) (fun z => z.1 ≤ x.vers.length ∧ z.2.2 = frsP P2 ((List.range z.1).flatMap (ver1 f x))) (fun z => x.vers.length - z.1) (0,wh1,P2) (fun _ s => s) ⟨rfl,trivial⟩ ⟨Nat.zero_le _,(frsP_nil hPo).symm⟩ fun z hC => ?_
 obtain ⟨j,wh3,P3⟩ := z;obtain ⟨hj0,hP3⟩ := hC;dsimp only at hj0 hP3 ⊢;have hPo3 : PbOk P3 := by rw [hP3];exact frsP_ok hPo (.flat fun _ => .ver _ _ _)
 refine .sr<|.yv (.lss Z Z) Z<|.nt<|.sq<|.cd Z (fun h112 => ?_) (fun h112 => ?_)
 ·try simp only [dt] at h112
  have hj : j < x.vers.length := by omega
  obtain ⟨bG,oG,cG,hpG,rG,lG,mG⟩ := g2.elem (map_at (f := dVs .u8) hj);cases hpG;have hsv := hsm.2.2 x.vers[j] (List.getElem_mem hj);generalize hxr : x.vers[j] = v at rG hsv;obtain ⟨pv,cv,rfl,gv⟩ := vs_open rG;have hcapv := gv.cap;refine .sk<|.tN<|.sq<|.bk<|.sr<|.m Z Z<|.yv (.indexSl Fx.sl94 Z Z Z (by omega) (q := oG + j * 1) Z) Z<|.yv (.loadMW Z Fx.agg103 mG Z) Z<|.al Fx.zero103 Z fun b12 => .a Z Z<|.sW .head Z Z Fx.size103 (by simp [Value.oneCell',strV]) Z<|.ns<|.yv (.fieldAddr Z Fx.field103_0) Z<|.yv (.load Z Fx.agg101 (.head _) Z) Z<|.yv (.lenSl Fx.sl101 Z) Z<|.m Z Z<|.nt<|.bk<|.lp (X := Nat × Str × Pb) [(0,_),(4,_),(11,_),(12,_),(109,_),(110,_),(111,_),(117,_),(118,_)] ⟨rfl,rfl,rfl,rfl,rfl,rfl,rfl,rfl,rfl,trivial⟩ (_ :: _ :: _ :: bs) (fun z => [(119,.int .i64 (z.1 : Nat))]) (fun z => H) (fun z => [.box b [strV f.nm,.slice p1 f.flags.length c1,.slice p2 f.links.length c2,.slice (some ⟨bE,oE,none⟩) f.comps.length c3,strV z.2.1,strV z.2.2.wh,strV z.2.2.nm,.int .i64 (z.2.2.er : Nat)] 110]) (fun z => z.1 ≤ v.length ∧ z.2.2 = frsP P3 ((List.range z.1).flatMap (hdl1 f x j v))) (fun z => v.length - z.1) (0,wh3,P3) (fun _ s => (s.pickT (hd := [_,_,_,_]) (tl := bs) (hd' := [_,_,_,_]) [1,0,2,3] Z Z)) ⟨rfl,trivial⟩ ⟨Nat.zero_le _,(frsP_nil hPo3).symm⟩ fun z hC => ?_
  obtain ⟨i,wh4,P4⟩ := z;obtain ⟨hi0,hP4⟩ := hC;dsimp only at hi0 hP4 ⊢;have hPo4 : PbOk P4 := by rw [hP4];exact frsP_ok hPo3 (.flat fun _ => .hdl _ _ _ _ _)
  refine .sr<|.yv (.lss Z Z) Z<|.nt<|.sq<|.cd Z (fun h120 => ?_) (fun h120 => ?_)
  ·try simp only [dt] at h120
   have hi : i < v.length := by omega
   obtain ⟨bK,oK,cK,hpK,rK,lK,mK⟩ := gv.elem (map_at (f := dHd .u8) hi);cases hpK;have hsh := hsv v[i] (List.getElem_mem hi);generalize hxh : v[i] = hh at rK hsh;obtain ⟨t1,w1,t2,w2,rfl,nh,m1,m2⟩ := hd_open rK;have hil := itoaN_le (k := j + 1) (by have := hsm.2.1;omega);refine .sk<|.tN<|.sq<|.bk<|.sr<|.m Z Z<|.yv (.indexSl Fx.sl101 Z Z Z (by omega) (q := oK + i * 3) Z) Z<|.yv (.loadMW Z Fx.agg107 mK Z) Z<|.al Fx.zero107 Z fun b14 => .a Z Z<|.sW .head Z Z Fx.size107 (by simp [Value.oneCell',strV]) Z<|.nt<|.sq<|.sq<|.fl (trip := [(_,_,_),(_,_,_),(_,_,_),(_,_,_),(_,_,_),(_,_,_),(_,_,_),(_,_,_),(_,_,_),(_,_,_),(_,_,_),(_,_,_),(_,_,_),(_,_,_)]) 14 [(0,0),(1,0),(2,0),(3,0),(4,0),(5,0),(6,0),(7,0),(8,0),(9,0),(10,0),(11,0),(12,0),(13,2)] (by kernel_rfl) (by kernel_rfl) Z<|.m Z Z<|.yv (.fieldAddr Z Fx.field96_0) Z<|.yv (.load Z Fx.agg9 (.tail _<|.tail _<|.tail _<|.tail _<|.head _) Z) Z<|.yv (.app Z Z (by first | omega | (simp;omega))) Z<|.yv (.app Z Z (by first | omega | (simp;omega))) Z<|.yv (.fieldAddr Z Fx.field107_0) Z<|.yv (.load Z Fx.agg9 (.head _) Z) Z<|.yv (.app Z Z (by first | omega | (simp;omega))) Z<|.yv (.app Z Z (by first | omega | (simp;omega))) Z<|.m Z Z<|.yv (.add Z Z (w6 (by omega))) Z<|.yv (.call Fx.call59 Z (fun W s => itoaS_any H (j + 1) (by have := hsm.2.1;omega) W s.agr)) Z<|.yv (.app Z Z (by first | omega | (simp;omega))) Z<|.cs (X := Unit) Fx.call52 Z (fun W s => at_st (hdlW x j hh) (s.pickT (hd := [_,_,_,_,_]) (tl := bs) (hd' := [_,_,_,_,_]) [1,0,2,3,4] Z Z)) Z fun _ _ => .fn (tl := [_]) Z<|.yv (.not Z) Z<|.nt<|.cd Z (fun h138 => ?_) (fun h138 => ?_)
   ·try simp only [dt] at h138
    have hne : P4.er ≠ 0 := by simpa using h138
    refine .rt<|.tR<|.bR<|.tR<|.tR<|.bR<|.bR<|.tR<|.tR<|.bR<|?_
    refine Sx.retN (.inl rfl) rfl .nil rfl fun W s => ⟨(hdlW x j hh),trivial,rfl,?_⟩;have e4 : P4 = frsP P2 ((List.range (j + 1)).flatMap (ver1 f x)) := by rw [flat_succ',← frsP_app (.flat fun _ => .ver _ _ _),← hP3,ver1_at hj hxr,frs_done (P := P3) (fun i => NzP.hdl f x j v i) (Nat.le_of_lt hi) (hP4 ▸ hne),← hP4]
    rw [cmp1_at hk hxE,← frsP_app (NzP.cmpA _ _ _),← frsP_app (.flat fun _ => .var _ _ _),← hP1,frs_done (P := P2) (fun i => NzP.ver f x i) (by omega) (e4 ▸ hne),← e4];exact s.pickT (hd := [_,_,_,_,_]) (tl := bs) (hd' := [_]) [0] rfl rfl
   skip
   refine .sk<|.tN<|.sq<|.ft (p := .light _ _ (.light _ _ (.light _ _ (.light _ _ (.light _ _ (.light _ _ (.light _ _ (.alt _ _ _ (.light _ _ (.light _ _ (.light _ _ (.light _ _ (.alt _ _ _ (.alt _ _ _ (.done) (.no)) (.no)))))) (.alt _ _ _ (.alt _ _ _ (.light _ _ (.light _ _ (.light _ _ (.light _ _ (.alt _ _ _ (.done) (.no)))))) (.no)) (.no)))))))))) 14 (.light 0 (.light 1 (.light 2 (.light 3 (.light 4 (.light 6 (.light 7 (.alt 5 0 (.light 8 (.light 9 (.light 10 (.light 11 (.alt 12 0 (.alt 13 2 (.done) (.no)) (.no)))))) (.alt 12 0 (.alt 5 0 (.light 8 (.light 9 (.light 10 (.light 11 (.alt 13 2 (.done) (.no)))))) (.no)) (.no)))))))))) (by kernel_rfl) (by kernel_rfl) Z<|.yv (.fieldAddr Z Fx.field103_0) Z<|.yv (.load Z Fx.agg101 (.tail _<|.tail _<|.head _) Z) Z<|.m Z Z<|.yv (.cutHi2 Fx.sl101 Z Z (h := i) Z (by have := gv.len.2.1;omega)) Z<|.yv (.build Z (Fx.bld103_0 _ _ _)) Z<|.yv (.fieldAddr Z Fx.field107_0) Z<|.yv (.load Z Fx.agg9 (.tail _<|.head _) Z) Z<|.h ?_ (.h ?_ .nn)
   ·
    refine .blF Z (Fx.bsl94_1 _) Z fun b145 H1 u1 mm => ?_;have rv : Rep H1 (.seq 1 ([v.take i].map (dVs .u8))) [.slice (some ⟨b145,0,none⟩) 1 1] := Rep.mk (n := 1) (c := 1) mm (RepZ.single (by rw [dVs,List.map_take];exact rep_take2 (gv.up u1.up) (by omega)) rfl) rfl (Nat.le_refl _) (by decide);obtain ⟨xh,hxh2,hhc⟩ := handler_any H1 [v.take i] hh.nm _ _ _ rv;obtain ⟨z1,z2,n2,z3,z4,rfl,hone2,hn2,hn3⟩ := hdx hxh2;refine .yv (.call Fx.call60 Z (fun W s => hhc W s.agr)) Z<|.m Z Z<|.yv (.extract Z Z) Z<|.yv (.extract Z Z) Z<|.h1<|.al Fx.zero107 Z fun b15 => .h1<|.sW .head Z Z Fx.size107 hone2 Z ((.yv (.extract Z Z)<|.done (by kernel_rfl)<|.done (by kernel_rfl)<|.done (by kernel_rfl)<|.done (by kernel_rfl)<|.done (by kernel_rfl)<|.done (by kernel_rfl)<|.done (by kernel_rfl)<|.done (by kernel_rfl)<|.done (by kernel_rfl)<|.done (by kernel_rfl)<|.nl))<|.fn (tl := [_]) Z<|.a Z Z<|.ns<|.m Z Z<|.m Z Z<|.yv (.not Z) Z<|.yv (.fieldAddr Z Fx.field107_0) Z<|.yv (.load Z Fx.agg9 (.tail _<|.tail _<|.head _) Z) Z<|.cs (X := Unit) Fx.call53 Z (fun W s => unless_b _ 5 _ hPo4 (by decide) (B := (hdF [v.take i] hh.nm).isSome) Z (s.pickT (hd := [_,_,_,_,_,_]) (tl := bs) (hd' := [_,_,_,_,_,_]) [1,0,2,3,4,5] Z Z)) Z fun _ _ => .nt<|.sq<|?_
    obtain ⟨xg,hxg,hgc⟩ := handler_any H1 (x.vers.take j) hh.nm _ _ _ (by rw [List.map_take];exact rep_take2 (g2.up u1.up) (by omega));obtain ⟨z5,z6,n7,z8,z9,rfl,hone3,hn7,hn8⟩ := hdx hxg;refine .fl (trip := [(_,_,_),(_,_,_),(_,_,_),(_,_,_),(_,_,_),(_,_,_),(_,_,_),(_,_,_),(_,_,_),(_,_,_),(_,_,_),(_,_,_)]) 12 [(0,0),(1,0),(2,0),(3,0),(4,0),(5,0),(6,0),(7,0),(8,0),(9,0),(10,1),(11,3)] (by kernel_rfl) (by kernel_rfl) Z<|.yv (.fieldAddr Z Fx.field96_2) Z<|.yv (.load Z Fx.agg94 (.tail _<|.tail _<|.tail _<|.tail _<|.tail _<|.head _) Z) Z<|.m Z Z<|.yv (.cutHi2 Fx.sl94 Z Z (h := j) Z (by have := g2.len.2.1;omega)) Z<|.yv (.fieldAddr Z Fx.field107_0) Z<|.yv (.load Z Fx.agg9 (.tail _<|.tail _<|.head _) Z) Z<|.yv (.call Fx.call60 Z (fun W s => hgc W s.agr)) Z<|.m Z Z<|.yv (.extract Z Z) Z<|.yv (.extract Z Z) Z<|.al Fx.zero107 Z fun b17 => .sW .head Z Z Fx.size107 hone3 Z ((.yv (.extract Z Z)<|.done (by kernel_rfl)<|.done (by kernel_rfl)<|.done (by kernel_rfl)<|.done (by kernel_rfl)<|.done (by kernel_rfl)<|.done (by kernel_rfl)<|.done (by kernel_rfl)<|.done (by kernel_rfl)<|.done (by kernel_rfl)<|.nl))<|.fn (tl := [_]) Z<|.a Z Z<|.ns<|.m Z Z<|.m Z Z<|.yv (.not Z) Z<|.m Z Z<|.b2 (fun h170 => ?_) (fun h170 => ?_)
    ·have a170 : (hdF (x.vers.take j) hh.nm).isSome = false := nB_t h170;have hgB : true = !befB x j hh := by rw [befB_no a170];rfl
     exact .gF Z Z Z Z<|.gF Z Z Z Z<|.gF Z Z Z Z<|.gF Z Z Z Z<|.gF Z Z Z Z<|.gF Z Z Z Z<|.gF Z Z Z Z<|.yv (.pickT Z Z) Z<|.yv (.fieldAddr Z Fx.field107_0) Z<|.yv (.load Z Fx.agg9 (.tail _<|.tail _<|.tail _<|.head _) Z) Z<|.cs (X := Unit) Fx.call53 Z (fun W s => unless_b _ 10 _ (frsP_ok hPo4 (NzP.if_ (by decide))) (by decide) hgB (s.pickT (hd := [_,_,_,_,_,_,_]) (tl := bs) (hd' := [_,_,_,_,_,_,_]) [1,0,2,3,4,5,6] Z Z)) Z fun _ _ => .nt<|.fl (trip := [(_,_,_),(_,_,_),(_,_,_),(_,_,_),(_,_,_),(_,_,_),(_,_,_)]) 7 [(0,0),(1,0),(2,0),(3,0),(4,0),(5,0),(6,0)] (by kernel_rfl) (by kernel_rfl) Z<|.m Z Z<|.yv (.loadW Z Fx.agg96 (.tail _<|.tail _<|.tail _<|.tail _<|.tail _<|.tail _<|.head _) Z) Z<|.yv (.loadW Z Fx.agg107 (.tail _<|.tail _<|.tail _<|.head _) Z) Z<|.m Z Z<|.yv (.add Z Z (w6 (by omega))) Z<|.yv (.call Fx.call59 Z (fun W s => itoaS_any H1 (j + 1) (by have := hsm.2.1;omega) W s.agr)) Z<|.yv (.app Z Z (by first | omega | (simp;omega))) Z<|.fn (tl := [_]) Z<|.cs (X := Str) Fx.call61 Z (fun W s => body_st (frsP_ok (frsP_ok hPo4 (NzP.if_ (by decide))) (NzP.if_ (by decide))) (h1.up u1.up) (h2.up u1.up) (h3.up u1.up) x _ _ _ _ (g1.up u1.up) (g2.up u1.up) hh _ _ _ _ (m1.up u1.up) (m2.up u1.up) j (by have := hsm.2.1;omega) Z hnx nh (hsh) (s.pickT (hd := [_,_,_,_,_,_,_]) (tl := bs) (hd' := [_,_,_,_,_,_,_]) [0,1,2,3,4,5,6] Z Z)) Z fun z189 _ => .nl<|.bN<|.tN<|.rg<|.yv (.add Z Z (w6 (by omega))) Z<|.m Z Z<|.nt<|.ag (x := (i,wh4,P4)) (i + 1,z189,frsP (frsP (frsP P4 (rpIf (hdF [v.take i] hh.nm).isSome (hdlW x j hh) hh.nm 5)) (rpIf (befB x j hh) (hdlW x j hh) hh.nm 10)) ((List.range hh.ps.length).flatMap (par1 f x j hh) ++ stLs f.comps x.vers ⟨f.flags,x.vars,hh.ps⟩ (stmW x j hh) 0 hh.body)) ⟨rfl,trivial⟩ ⟨rfl,rfl,rfl,rfl,rfl,rfl,rfl,rfl,rfl,trivial⟩ (fun _ s => weakH u1.up (s.pickT (hd := [_,_,_,_,_,_,_]) (tl := bs) (hd' := [_,_,_,_]) [0,4,5,6] Z Z)) ⟨by dsimp only;omega,by dsimp only;rw [flat_succ',← frsP_app (.flat fun _ => .hdl _ _ _ _ _),← hP4,hdl1_at hi hxh,← frsP_app (NzP.if_ (by decide)),← frsP_app (NzP.if_ (by decide))]⟩ (by dsimp only;omega)
    have a170 : (hdF (x.vers.take j) hh.nm).isSome = true := nB_f h170;have hgB := befB_eq (h := hh) hn7 a170;exact .gd Z Z<|.yv (.fieldAddr Z Fx.field107_1) Z<|.gd Z Z<|.yv (.load Z Fx.agg54 (.head _) Z) Z<|.gd Z Z<|.yv (.lenSl Fx.sl54 Z) Z<|.gd Z Z<|.yv (.fieldAddr Z Fx.field107_1) Z<|.gd Z Z<|.yv (.load Z Fx.agg54 (.tail _<|.tail _<|.tail _<|.head _) Z) Z<|.gd Z Z<|.yv (.lenSl Fx.sl54 Z) Z<|.gd Z Z<|.yv (.eql Z Z) Z<|.yv (.pickF Z Z) Z<|.yv (.fieldAddr Z Fx.field107_0) Z<|.yv (.load Z Fx.agg9 (.tail _<|.tail _<|.tail _<|.head _) Z) Z<|.cs (X := Unit) Fx.call53 Z (fun W s => unless_b _ 10 _ (frsP_ok hPo4 (NzP.if_ (by decide))) (by decide) hgB (s.pickT (hd := [_,_,_,_,_,_,_]) (tl := bs) (hd' := [_,_,_,_,_,_,_]) [1,0,2,3,4,5,6] Z Z)) Z fun _ _ => .nt<|.fl (trip := [(_,_,_),(_,_,_),(_,_,_),(_,_,_),(_,_,_),(_,_,_),(_,_,_)]) 7 [(0,0),(1,0),(2,0),(3,0),(4,0),(5,0),(6,0)] (by kernel_rfl) (by kernel_rfl) Z<|.m Z Z<|.yv (.loadW Z Fx.agg96 (.tail _<|.tail _<|.tail _<|.tail _<|.tail _<|.tail _<|.head _) Z) Z<|.yv (.loadW Z Fx.agg107 (.tail _<|.tail _<|.tail _<|.head _) Z) Z<|.m Z Z<|.yv (.add Z Z (w6 (by omega))) Z<|.yv (.call Fx.call59 Z (fun W s => itoaS_any H1 (j + 1) (by have := hsm.2.1;omega) W s.agr)) Z<|.yv (.app Z Z (by first | omega | (simp;omega))) Z<|.fn (tl := [_]) Z<|.cs (X := Str) Fx.call61 Z (fun W s => body_st (frsP_ok (frsP_ok hPo4 (NzP.if_ (by decide))) (NzP.if_ (by decide))) (h1.up u1.up) (h2.up u1.up) (h3.up u1.up) x _ _ _ _ (g1.up u1.up) (g2.up u1.up) hh _ _ _ _ (m1.up u1.up) (m2.up u1.up) j (by have := hsm.2.1;omega) Z hnx nh (hsh) (s.pickT (hd := [_,_,_,_,_,_,_]) (tl := bs) (hd' := [_,_,_,_,_,_,_]) [0,1,2,3,4,5,6] Z Z)) Z fun z189 _ => .nl<|.bN<|.tN<|.rg<|.yv (.add Z Z (w6 (by omega))) Z<|.m Z Z<|.nt<|.ag (x := (i,wh4,P4)) (i + 1,z189,frsP (frsP (frsP P4 (rpIf (hdF [v.take i] hh.nm).isSome (hdlW x j hh) hh.nm 5)) (rpIf (befB x j hh) (hdlW x j hh) hh.nm 10)) ((List.range hh.ps.length).flatMap (par1 f x j hh) ++ stLs f.comps x.vers ⟨f.flags,x.vars,hh.ps⟩ (stmW x j hh) 0 hh.body)) ⟨rfl,trivial⟩ ⟨rfl,rfl,rfl,rfl,rfl,rfl,rfl,rfl,rfl,trivial⟩ (fun _ s => weakH u1.up (s.pickT (hd := [_,_,_,_,_,_,_]) (tl := bs) (hd' := [_,_,_,_]) [0,4,5,6] Z Z)) ⟨by dsimp only;omega,by dsimp only;rw [flat_succ',← frsP_app (.flat fun _ => .hdl _ _ _ _ _),← hP4,hdl1_at hi hxh,← frsP_app (NzP.if_ (by decide)),← frsP_app (NzP.if_ (by decide))]⟩ (by dsimp only;omega)
   refine .al Fx.zero107 Z fun b15 => .h1<|.blF Z (Fx.bsl94_1 _) Z fun b145 H1 u1 mm => ?_
   have rv : Rep H1 (.seq 1 ([v.take i].map (dVs .u8))) [.slice (some ⟨b145,0,none⟩) 1 1] := Rep.mk (n := 1) (c := 1) mm (RepZ.single (by rw [dVs,List.map_take];exact rep_take2 (gv.up u1.up) (by omega)) rfl) rfl (Nat.le_refl _) (by decide);obtain ⟨xh,hxh2,hhc⟩ := handler_any H1 [v.take i] hh.nm _ _ _ rv;obtain ⟨z1,z2,n2,z3,z4,rfl,hone2,hn2,hn3⟩ := hdx hxh2;refine .yv (.call Fx.call60 Z (fun W s => hhc W s.agr)) Z<|.m Z Z<|.yv (.extract Z Z) Z<|.yv (.extract Z Z) Z<|.h1<|.sW .head Z Z Fx.size107 hone2 Z ((.yv (.extract Z Z)<|.done (by kernel_rfl)<|.done (by kernel_rfl)<|.done (by kernel_rfl)<|.done (by kernel_rfl)<|.done (by kernel_rfl)<|.done (by kernel_rfl)<|.done (by kernel_rfl)<|.done (by kernel_rfl)<|.done (by kernel_rfl)<|.done (by kernel_rfl)<|.nl))<|.fn (tl := [_]) Z<|.a Z Z<|.ns<|.m Z Z<|.m Z Z<|.yv (.not Z) Z<|.yv (.fieldAddr Z Fx.field107_0) Z<|.yv (.load Z Fx.agg9 (.tail _<|.tail _<|.head _) Z) Z<|.cs (X := Unit) Fx.call53 Z (fun W s => unless_b _ 5 _ hPo4 (by decide) (B := (hdF [v.take i] hh.nm).isSome) Z (s.pickT (hd := [_,_,_,_,_,_]) (tl := bs) (hd' := [_,_,_,_,_,_]) [1,0,2,3,4,5] Z Z)) Z fun _ _ => .nt<|.sq<|?_
   obtain ⟨xg,hxg,hgc⟩ := handler_any H1 (x.vers.take j) hh.nm _ _ _ (by rw [List.map_take];exact rep_take2 (g2.up u1.up) (by omega));obtain ⟨z5,z6,n7,z8,z9,rfl,hone3,hn7,hn8⟩ := hdx hxg;refine .fl (trip := [(_,_,_),(_,_,_),(_,_,_),(_,_,_),(_,_,_),(_,_,_),(_,_,_),(_,_,_),(_,_,_),(_,_,_),(_,_,_),(_,_,_)]) 12 [(0,0),(1,0),(2,0),(3,0),(4,0),(5,0),(6,0),(7,0),(8,0),(9,0),(10,1),(11,3)] (by kernel_rfl) (by kernel_rfl) Z<|.yv (.fieldAddr Z Fx.field96_2) Z<|.yv (.load Z Fx.agg94 (.tail _<|.tail _<|.tail _<|.tail _<|.tail _<|.head _) Z) Z<|.m Z Z<|.yv (.cutHi2 Fx.sl94 Z Z (h := j) Z (by have := g2.len.2.1;omega)) Z<|.yv (.fieldAddr Z Fx.field107_0) Z<|.yv (.load Z Fx.agg9 (.tail _<|.tail _<|.head _) Z) Z<|.yv (.call Fx.call60 Z (fun W s => hgc W s.agr)) Z<|.m Z Z<|.yv (.extract Z Z) Z<|.yv (.extract Z Z) Z<|.al Fx.zero107 Z fun b17 => .sW .head Z Z Fx.size107 hone3 Z ((.yv (.extract Z Z)<|.done (by kernel_rfl)<|.done (by kernel_rfl)<|.done (by kernel_rfl)<|.done (by kernel_rfl)<|.done (by kernel_rfl)<|.done (by kernel_rfl)<|.done (by kernel_rfl)<|.done (by kernel_rfl)<|.done (by kernel_rfl)<|.nl))<|.fn (tl := [_]) Z<|.a Z Z<|.ns<|.m Z Z<|.m Z Z<|.yv (.not Z) Z<|.m Z Z<|.b2 (fun h170 => ?_) (fun h170 => ?_)
   ·have a170 : (hdF (x.vers.take j) hh.nm).isSome = false := nB_t h170;have hgB : true = !befB x j hh := by rw [befB_no a170];rfl
    exact .gF Z Z Z Z<|.gF Z Z Z Z<|.gF Z Z Z Z<|.gF Z Z Z Z<|.gF Z Z Z Z<|.gF Z Z Z Z<|.gF Z Z Z Z<|.yv (.pickT Z Z) Z<|.yv (.fieldAddr Z Fx.field107_0) Z<|.yv (.load Z Fx.agg9 (.tail _<|.tail _<|.tail _<|.head _) Z) Z<|.cs (X := Unit) Fx.call53 Z (fun W s => unless_b _ 10 _ (frsP_ok hPo4 (NzP.if_ (by decide))) (by decide) hgB (s.pickT (hd := [_,_,_,_,_,_,_]) (tl := bs) (hd' := [_,_,_,_,_,_,_]) [1,0,2,3,4,5,6] Z Z)) Z fun _ _ => .nt<|.fl (trip := [(_,_,_),(_,_,_),(_,_,_),(_,_,_),(_,_,_),(_,_,_),(_,_,_)]) 7 [(0,0),(1,0),(2,0),(3,0),(4,0),(5,0),(6,0)] (by kernel_rfl) (by kernel_rfl) Z<|.m Z Z<|.yv (.loadW Z Fx.agg96 (.tail _<|.tail _<|.tail _<|.tail _<|.tail _<|.tail _<|.head _) Z) Z<|.yv (.loadW Z Fx.agg107 (.tail _<|.tail _<|.tail _<|.head _) Z) Z<|.m Z Z<|.yv (.add Z Z (w6 (by omega))) Z<|.yv (.call Fx.call59 Z (fun W s => itoaS_any H1 (j + 1) (by have := hsm.2.1;omega) W s.agr)) Z<|.yv (.app Z Z (by first | omega | (simp;omega))) Z<|.fn (tl := [_]) Z<|.cs (X := Str) Fx.call61 Z (fun W s => body_st (frsP_ok (frsP_ok hPo4 (NzP.if_ (by decide))) (NzP.if_ (by decide))) (h1.up u1.up) (h2.up u1.up) (h3.up u1.up) x _ _ _ _ (g1.up u1.up) (g2.up u1.up) hh _ _ _ _ (m1.up u1.up) (m2.up u1.up) j (by have := hsm.2.1;omega) Z hnx nh (hsh) (s.pickT (hd := [_,_,_,_,_,_,_]) (tl := bs) (hd' := [_,_,_,_,_,_,_]) [0,1,2,3,4,5,6] Z Z)) Z fun z189 _ => .nl<|.bN<|.tN<|.rg<|.yv (.add Z Z (w6 (by omega))) Z<|.m Z Z<|.nt<|.ag (x := (i,wh4,P4)) (i + 1,z189,frsP (frsP (frsP P4 (rpIf (hdF [v.take i] hh.nm).isSome (hdlW x j hh) hh.nm 5)) (rpIf (befB x j hh) (hdlW x j hh) hh.nm 10)) ((List.range hh.ps.length).flatMap (par1 f x j hh) ++ stLs f.comps x.vers ⟨f.flags,x.vars,hh.ps⟩ (stmW x j hh) 0 hh.body)) ⟨rfl,trivial⟩ ⟨rfl,rfl,rfl,rfl,rfl,rfl,rfl,rfl,rfl,trivial⟩ (fun _ s => weakH u1.up (s.pickT (hd := [_,_,_,_,_,_,_]) (tl := bs) (hd' := [_,_,_,_]) [0,4,5,6] Z Z)) ⟨by dsimp only;omega,by dsimp only;rw [flat_succ',← frsP_app (.flat fun _ => .hdl _ _ _ _ _),← hP4,hdl1_at hi hxh,← frsP_app (NzP.if_ (by decide)),← frsP_app (NzP.if_ (by decide))]⟩ (by dsimp only;omega)
   have a170 : (hdF (x.vers.take j) hh.nm).isSome = true := nB_f h170;have hgB := befB_eq (h := hh) hn7 a170;exact .gd Z Z<|.yv (.fieldAddr Z Fx.field107_1) Z<|.gd Z Z<|.yv (.load Z Fx.agg54 (.head _) Z) Z<|.gd Z Z<|.yv (.lenSl Fx.sl54 Z) Z<|.gd Z Z<|.yv (.fieldAddr Z Fx.field107_1) Z<|.gd Z Z<|.yv (.load Z Fx.agg54 (.tail _<|.tail _<|.tail _<|.head _) Z) Z<|.gd Z Z<|.yv (.lenSl Fx.sl54 Z) Z<|.gd Z Z<|.yv (.eql Z Z) Z<|.yv (.pickF Z Z) Z<|.yv (.fieldAddr Z Fx.field107_0) Z<|.yv (.load Z Fx.agg9 (.tail _<|.tail _<|.tail _<|.head _) Z) Z<|.cs (X := Unit) Fx.call53 Z (fun W s => unless_b _ 10 _ (frsP_ok hPo4 (NzP.if_ (by decide))) (by decide) hgB (s.pickT (hd := [_,_,_,_,_,_,_]) (tl := bs) (hd' := [_,_,_,_,_,_,_]) [1,0,2,3,4,5,6] Z Z)) Z fun _ _ => .nt<|.fl (trip := [(_,_,_),(_,_,_),(_,_,_),(_,_,_),(_,_,_),(_,_,_),(_,_,_)]) 7 [(0,0),(1,0),(2,0),(3,0),(4,0),(5,0),(6,0)] (by kernel_rfl) (by kernel_rfl) Z<|.m Z Z<|.yv (.loadW Z Fx.agg96 (.tail _<|.tail _<|.tail _<|.tail _<|.tail _<|.tail _<|.head _) Z) Z<|.yv (.loadW Z Fx.agg107 (.tail _<|.tail _<|.tail _<|.head _) Z) Z<|.m Z Z<|.yv (.add Z Z (w6 (by omega))) Z<|.yv (.call Fx.call59 Z (fun W s => itoaS_any H1 (j + 1) (by have := hsm.2.1;omega) W s.agr)) Z<|.yv (.app Z Z (by first | omega | (simp;omega))) Z<|.fn (tl := [_]) Z<|.cs (X := Str) Fx.call61 Z (fun W s => body_st (frsP_ok (frsP_ok hPo4 (NzP.if_ (by decide))) (NzP.if_ (by decide))) (h1.up u1.up) (h2.up u1.up) (h3.up u1.up) x _ _ _ _ (g1.up u1.up) (g2.up u1.up) hh _ _ _ _ (m1.up u1.up) (m2.up u1.up) j (by have := hsm.2.1;omega) Z hnx nh (hsh) (s.pickT (hd := [_,_,_,_,_,_,_]) (tl := bs) (hd' := [_,_,_,_,_,_,_]) [0,1,2,3,4,5,6] Z Z)) Z fun z189 _ => .nl<|.bN<|.tN<|.rg<|.yv (.add Z Z (w6 (by omega))) Z<|.m Z Z<|.nt<|.ag (x := (i,wh4,P4)) (i + 1,z189,frsP (frsP (frsP P4 (rpIf (hdF [v.take i] hh.nm).isSome (hdlW x j hh) hh.nm 5)) (rpIf (befB x j hh) (hdlW x j hh) hh.nm 10)) ((List.range hh.ps.length).flatMap (par1 f x j hh) ++ stLs f.comps x.vers ⟨f.flags,x.vars,hh.ps⟩ (stmW x j hh) 0 hh.body)) ⟨rfl,trivial⟩ ⟨rfl,rfl,rfl,rfl,rfl,rfl,rfl,rfl,rfl,trivial⟩ (fun _ s => weakH u1.up (s.pickT (hd := [_,_,_,_,_,_,_]) (tl := bs) (hd' := [_,_,_,_]) [0,4,5,6] Z Z)) ⟨by dsimp only;omega,by dsimp only;rw [flat_succ',← frsP_app (.flat fun _ => .hdl _ _ _ _ _),← hP4,hdl1_at hi hxh,← frsP_app (NzP.if_ (by decide)),← frsP_app (NzP.if_ (by decide))]⟩ (by dsimp only;omega)
  try simp only [df] at h120
  obtain rfl : i = v.length := by omega
  exact .ex<|.tE<|.tE<|.bE<|.bN<|.tN<|.rg<|.yv (.add Z Z (w6 (by omega))) Z<|.m Z Z<|.nt<|.ag (x := (j,wh3,P3)) (j + 1,wh4,P4) ⟨rfl,trivial⟩ ⟨rfl,rfl,rfl,rfl,trivial⟩ (fun _ s => (s.pickT (hd := [_,_,_,_]) (tl := bs) (hd' := [_,_,_]) [0,2,3] Z Z)) ⟨by dsimp only;omega,by dsimp only;rw [flat_succ',← frsP_app (.flat fun _ => .ver _ _ _),← hP3,ver1_at hj hxr,← hP4]⟩ (by dsimp only;omega)
 try simp only [df] at h112
 obtain rfl : j = x.vers.length := by omega
 refine .ex<|.tE<|.tE<|.bE<|?_
 refine Sx.retN (.inr rfl) rfl .nil rfl fun W s => ⟨wh3,trivial,rfl,?_⟩;rw [cmp1_at hk hxE,← frsP_app (NzP.cmpA _ _ _),← frsP_app (.flat fun _ => .var _ _ _),← hP1,← hP3];exact s.pickT (hd := [_,_,_]) (tl := bs) (hd' := [_]) [0] rfl rfl
theorem Fx.agg41 : aggN Tryz.prog 41 = Option.some (Option.some 3) := by kernel_rfl
theorem Fx.call10 : callN Tryz.prog 10 = Bool.true := by kernel_rfl
theorem Fx.call26 : callN Tryz.prog 26 = Bool.true := by kernel_rfl
theorem Fx.call27 : callN Tryz.prog 27 = Bool.true := by kernel_rfl
theorem Fx.call28 : callN Tryz.prog 28 = Bool.true := by kernel_rfl
theorem Fx.zero41 : zeroN Tryz.prog 41 = Option.some
 [Go.Value.string { data := { toList := [] } },Go.Value.string { data := { toList := [] } },
  Go.Value.int Go.IntKind.i64 (Int.ofNat 0)] := by kernel_rfl
theorem Fx.bld110_0_1 (x00 x01 x02 x03 : Value) (x1 : ByteArray) : buildN Tryz.prog 110 [(0,.agg [x00,x01,x02,x03].toArray),(1,.string x1)] = some [x00,x01,x02,x03,.string x1,.string ⟨#[]⟩,.string ⟨#[]⟩,.int .i64 0] := by kernel_rfl
def pbV (P : Pb) : List Value := [strV P.wh,strV P.nm,.int .i64 (P.er : Nat)]
def cmpsL (f : Ft) (k : Nat) : List Pb := (List.range k).flatMap (cmp1 f)
theorem probs_frs (f : Ft) (cd : Nat) : frsP (frsP (frsP (repP noP [102,108,101,101,116] f.nm cd) ((List.range f.flags.length).flatMap (flg1 f))) ((List.range f.links.length).flatMap (lnk1 f))) ((List.range f.comps.length).flatMap (cmp1 f)) = frsP noP (probs f cd) := by
 unfold probs repP;rw [← frsP_app (by split;exact .nil;rename_i h;intro x hx;rw [List.mem_singleton.1 hx];exact h),← frsP_app (.flat fun _ => .flg _ _),← frsP_app (.flat fun _ => .lnk _ _)]
theorem repP_ok {P : Pb} (h : PbOk P) (wh n : Str) (cd : Nat) : PbOk (repP P wh n cd) := frsP_ok h (by split;exact .nil;rename_i h;intro x hx;rw [List.mem_singleton.1 hx];exact h)
set_option maxRecDepth 100000 in
theorem typesCheck_any (H : Hp) (G : Gl H) (f : Ft) (cs : List Value) (h : Rep H (dFt .u8 f) cs) (hok : evH okH f = true) (hsm : ∀ c ∈ f.comps,CpSm c) (w : World) (hA : Agr H w) :
 Calls Tryz.prog 9 #[.agg cs.toArray] w fun r w' => r = .returned (.tuple #[.agg (pbV (frsP noP (probs f (checkF f)))).toArray,.int .i64 ((frsP noP (probs f (checkF f))).er : Nat)]) ∧ Ext w w' := by
 obtain ⟨p1,c1,p2,c2,p3,c3,rfl,hn,h1,h2,h3⟩ := ft_open h;have hcap := h3.cap;refine Sx.enter (H := H) Tryz.func9 rfl Tryz.ntmps9 rfl hA ?_;refine .sr<|.bx Z Z Z fun b1 => .al Fx.zero41 Z fun b2 => .a Z Z<|.ns<|.yv (.loadW Z Fx.agg37 (.tail _<|.head _) Z) Z<|.yv (.build Z (Fx.bld110_0_1 _ _ _ _ _)) Z<|.bx Z Z Z fun b8 => .a Z Z<|.nt<|.sq<|.fl (trip := [(_,_,_),(_,_,_),(_,_,_),(_,_,_),(_,_,_)]) 5 [(0,0),(1,0),(2,0),(3,0),(4,0)] (by kernel_rfl) (by kernel_rfl) Z<|.m Z Z<|.yv (.loadW Z Fx.agg37 (.tail _<|.tail _<|.head _) Z) Z<|.yv (.call Fx.call10 Z (fun W s => check_any H G f _ h hok W s.agr)) Z<|.yv (.fieldAddr Z Fx.field37_0) Z<|.yv (.load Z Fx.agg9 (.tail _<|.tail _<|.head _) Z) Z<|.fn (tl := [_]) Z<|.cs (X := Unit) Fx.call25 Z (fun W s => report_st (c0 := strV f.nm) (c1 := .slice p1 f.flags.length c1) (c2 := .slice p2 f.links.length c2) (c3 := .slice p3 f.comps.length c3) (P := noP) (wh := [102,108,101,101,116]) (checkF f) f.nm (fun _ => rfl) (s.pickT (hd := [_,_,_]) (tl := []) (hd' := [_,_,_]) [0,1,2] Z Z)) Z fun _ _ => .ns<|.m Z Z<|.cs (X := Str) Fx.call26 Z (fun W s => flags_st (repP_ok (fun _ => rfl) _ _ _) h1 h2 h3 (s.pickT (hd := [_,_,_]) (tl := []) (hd' := [_,_,_]) [0,1,2] Z Z)) Z fun w1 _ => .ns<|.m Z Z<|.cs (X := Str) Fx.call27 Z (fun W s => links_st (frsP_ok (repP_ok (fun _ => rfl) _ _ _) (.flat fun _ => .flg _ _)) h1 h2 h3 (s.pickT (hd := [_,_,_]) (tl := []) (hd' := [_,_,_]) [0,1,2] Z Z)) Z fun w2 _ => .nt<|.sq<|.sq<|?_
 generalize hP3e : frsP (frsP (repP noP [102,108,101,101,116] f.nm (checkF f)) ((List.range f.flags.length).flatMap (flg1 f))) ((List.range f.links.length).flatMap (lnk1 f)) = P3;have hP3 : PbOk P3 := by rw [← hP3e];exact frsP_ok (frsP_ok (repP_ok (fun _ => rfl) _ _ _) (.flat fun _ => .flg _ _)) (.flat fun _ => .lnk _ _)
 refine .rg<|.yv (.fieldAddr Z Fx.field37_3) Z<|.yv (.load Z Fx.agg35 (.tail _<|.tail _<|.head _) Z) Z<|.yv (.lenSl Fx.sl35 Z) Z<|.m Z Z<|.nt<|.bk<|.lp (X := Nat × Str × Pb) [(2,_),(4,_),(21,_)] ⟨rfl,rfl,rfl,trivial⟩ (_ :: _ :: []) (fun z => [(22,.int .i64 (z.1 : Nat))]) (fun z => H) (fun z => [.box b8 [strV f.nm,.slice p1 f.flags.length c1,.slice p2 f.links.length c2,.slice p3 f.comps.length c3,strV z.2.1,strV z.2.2.wh,strV z.2.2.nm,.int .i64 (z.2.2.er : Nat)] 110]) (fun z => z.1 ≤ f.comps.length ∧ z.2.2 = frsP P3 (cmpsL f z.1)) (fun z => f.comps.length - z.1) (0,w2,P3) (fun _ s => s) ⟨rfl,trivial⟩ ⟨Nat.zero_le _,(frsP_nil hP3).symm⟩ fun z hC => ?_
 obtain ⟨k,wh1,P4⟩ := z;obtain ⟨hk0,hP4⟩ := hC;dsimp only at hk0 hP4 ⊢;have hPo : PbOk P4 := by rw [hP4];exact frsP_ok hP3 (.flat fun _ => .cmp _ _)
 refine .sr<|.yv (.lss Z Z) Z<|.nt<|.sq<|.cd Z (fun h23 => ?_) (fun h23 => ?_)
 ·try simp only [dt] at h23
  have hk : k < f.comps.length := by omega
  exact .sk<|.tN<|.sq<|.bk<|.sr<|.m Z Z<|.a Z Z<|.nt<|.rg<|.m Z Z<|.m Z Z<|.cs (X := Str) Fx.call28 Z (fun W s => component_st hPo h1 h2 h3 k hk (hsm _ (List.getElem_mem hk)) (s.pickT (hd := [_,_,_]) (tl := []) (hd' := [_,_,_]) [0,1,2] Z Z)) Z fun z27 _ => .nl<|.bN<|.tN<|.rg<|.yv (.add Z Z (w6 (by omega))) Z<|.m Z Z<|.nt<|.ag (x := (k,wh1,P4)) (k + 1,z27,frsP P4 (cmp1 f k)) ⟨rfl,trivial⟩ ⟨rfl,rfl,rfl,trivial⟩ (fun _ s => s) ⟨by dsimp only;omega,by dsimp only;rw [hP4];show frsP (frsP P3 ((List.range k).flatMap (cmp1 f))) (cmp1 f k) = frsP P3 ((List.range (k + 1)).flatMap (cmp1 f));rw [flat_succ',← frsP_app (.flat fun _ => .cmp _ _)]⟩ (by dsimp only;omega)
 try simp only [df] at h23
 obtain rfl : k = f.comps.length := by omega
 have eR : P4 = frsP noP (probs f (checkF f)) := by rw [hP4,← hP3e];exact probs_frs f _
 refine .ex<|.tE<|.tE<|.bE<|.tN<|.sq<|.fl (trip := [(_,_,_),(_,_,_),(_,_,_),(_,_,_),(_,_,_),(_,_,_),(_,_,_),(_,_,_),(_,_,_),(_,_,_)]) 10 [(0,0),(1,0),(2,0),(3,0),(4,0),(5,0),(6,0),(7,0),(8,0),(9,3)] (by kernel_rfl) (by kernel_rfl) Z<|.m Z Z<|.yv (.nilCheck Z) Z<|.yv (.fieldAddr Z Fx.field110_2) Z<|.yv (.loadS (vs := [_,_,_]) Z Fx.agg41 (.head _) Z (subL Z)) Z<|.m Z Z<|.yv (.nilCheck Z) Z<|.yv (.fieldAddr Z Fx.field110_2) Z<|.yv (.fieldAddr Z Fx.field41_2) Z<|.yv (.load Z Fx.agg39 (.head _) Z) Z<|.sW (.tail<|.head) Z Z Fx.size41 (by simp [Value.oneCell',strV]) Z ((.yv (.load Z Fx.agg39 (.head _) Z)<|.yv (.fieldAddr Z Fx.field41_2)<|.yv (.fieldAddr Z Fx.field110_2)<|.yv (.nilCheck Z)<|.yv (.move Z)<|.done (by kernel_rfl)<|.done (by kernel_rfl)<|.done (by kernel_rfl)<|.done (by kernel_rfl)<|.nl))<|.fn (tl := [_]) Z<|.a Z Z<|.nt<|.rt<|?_
 refine Sx.retN (.inl rfl) rfl (.cons (.cell rfl Fx.agg41 (.tail _<|.head _) rfl) (.cons (.tmp rfl) .nil)) rfl fun W s => ⟨?_,s.ext⟩;rw [← eR];rfl
end Go.Proofs.YtohfacbajcenoaaGreatDoor
namespace Go.Sx
open Go.RowKit Go.Par
section
variable {dfs : List Deferred} {P : Program} {L : Sl} {H : Hp} {w0 : World} {bs : List Res} {ops : Array Oper}
variable {ty : TypeId} {pos : String} {aft : Array Edge} {t : Tmp}
variable {N hn i k : Nat} {pa : List (Nat × Oper × Value)} {E : Sl → Hp → List Res → Prop} {r : List (Nat × Nat × Oper)} {T : TypeId}
end
end Go.Sx
namespace Go.Proofs.YtohfacbajcenoaaGreatDoor
open Go.RowKit Go.Par Go.Sx
theorem Fx.call8 : callN Tryz.prog 8 = Bool.true := by kernel_rfl
theorem Fx.call9 : callN Tryz.prog 9 = Bool.true := by kernel_rfl
theorem Fx.eqt41 : eqT Tryz.prog 41 = Option.some [(0,Go.Sx.EK.s),(1,Go.Sx.EK.s),(2,Go.Sx.EK.i)] := by kernel_rfl
theorem Fx.bld31_0_3 (x0 : ByteArray) (x3p : Option Addr) (x3n x3c : Nat) : buildN Tryz.prog 31 [(0,.string x0),(3,.slice x3p x3n x3c)] = some [.string x0,.slice none 0 0,.slice none 0 0,.slice x3p x3n x3c] := by kernel_rfl
theorem Fx.bld41_0_2 (x0 : ByteArray) (x2 : Int) : buildN Tryz.prog 41 [(0,.string x0),(2,.int .i64 x2)] = some [.string x0,.string ⟨#[]⟩,.int .i64 x2] := by kernel_rfl
theorem Fx.bld78_0_1_2 (x0 : ByteArray) (x1p : Option Addr) (x1n x1c : Nat) (x2p : Option Addr) (x2n x2c : Nat) : buildN Tryz.prog 78 [(0,.string x0),(1,.slice x1p x1n x1c),(2,.slice x2p x2n x2c)] = some [.string x0,.slice x1p x1n x1c,.slice x2p x2n x2c] := by kernel_rfl
theorem Fx.bld98_0_1 (x0 : ByteArray) (x1 : Int) : buildN Tryz.prog 98 [(0,.string x0),(1,.int .i64 x1)] = some [.string x0,.int .i64 x1,.int .i64 0] := by kernel_rfl
theorem Fx.bsl54_15 (x0 : ByteArray) (x1 : ByteArray) (x2 : ByteArray) (x3 : ByteArray) (x4 : ByteArray) (x5 : ByteArray) (x6 : ByteArray) (x7 : ByteArray) (x8 : ByteArray) (x9 : ByteArray) (x10 : ByteArray) (x11 : ByteArray) (x12 : ByteArray) (x13 : ByteArray) (x14 : ByteArray) : bslN Tryz.prog 54 15 [(0,.string x0),(1,.string x1),(2,.string x2),(3,.string x3),(4,.string x4),(5,.string x5),(6,.string x6),(7,.string x7),(8,.string x8),(9,.string x9),(10,.string x10),(11,.string x11),(12,.string x12),(13,.string x13),(14,.string x14)] = some (9,[.string x0,.string x1,.string x2,.string x3,.string x4,.string x5,.string x6,.string x7,.string x8,.string x9,.string x10,.string x11,.string x12,.string x13,.string x14]) := by kernel_rfl
theorem Fx.bsl80_2 (x00 x01 x02 x03 x04 x05 : Value) (x10 x11 x12 x13 x14 x15 : Value) : bslN Tryz.prog 80 2 [(0,.agg [x00,x01,x02,x03,x04,x05].toArray),(1,.agg [x10,x11,x12,x13,x14,x15].toArray)] = some (85,[x00,x01,x02,x03,x04,x05,x10,x11,x12,x13,x14,x15]) := by kernel_rfl
end Go.Proofs.YtohfacbajcenoaaGreatDoor
namespace Go.Proofs.YtohfacbajcenoaaGreatDoor
open Go.RowKit Go.Par Go.Sx
open Go.RowKit Go.Par Go.Sx
end Go.Proofs.YtohfacbajcenoaaGreatDoor
namespace Go.Proofs.YtohfacbajcenoaaGreatDoor
open Go.RowKit Go.Par Go.Sx
theorem Fx.call43 : callN Tryz.prog 43 = Bool.true := by kernel_rfl
theorem Fx.call22 : callN Tryz.prog 22 = Bool.true := by kernel_rfl
theorem Fx.call42 : callN Tryz.prog 42 = Bool.true := by kernel_rfl
theorem Fx.field53_1 : fieldN Tryz.prog 53 1 = Option.some 1 := by kernel_rfl
theorem Fx.field53_2 : fieldN Tryz.prog 53 2 = Option.some 2 := by kernel_rfl
theorem Fx.field53_3 : fieldN Tryz.prog 53 3 = Option.some 3 := by kernel_rfl
theorem Fx.field53_4 : fieldN Tryz.prog 53 4 = Option.some 4 := by kernel_rfl
theorem Fx.agg25 : aggN Tryz.prog 25 = Option.some (Option.some 3) := by kernel_rfl
theorem Fx.agg53 : aggN Tryz.prog 53 = Option.some (Option.some 5) := by kernel_rfl
theorem Fx.call11 : callN Tryz.prog 11 = Bool.true := by kernel_rfl
theorem Fx.call15 : callN Tryz.prog 15 = Bool.true := by kernel_rfl
theorem Fx.call17 : callN Tryz.prog 17 = Bool.true := by kernel_rfl
theorem Fx.field53_0 : fieldN Tryz.prog 53 0 = Option.some 0 := by kernel_rfl
end Go.Proofs.YtohfacbajcenoaaGreatDoor
namespace Go.Proofs.YtohfacbajcenoaaGreatDoor
def okS3 (N : Nat) : Sm → Bool
 | .mk _ _ _ ex _ _ => decide (ex.length ≤ N) && ex.all (Ex.all narrow)
structure syL (N : Nat) (l : List Sm) : Prop where
 cnt : Sm.counts l ≤ N
 dep : Sm.deeps l ≤ N
 all : Sm.alls (okS3 N) l = true
theorem okS2_3 {N : Nat} : ∀ s,okS2 N s = true → okS3 N s = true
 | .mk kd nm hd ex th el,h => by
  simp only [okS2,okS3,Bool.and_eq_true,decide_eq_true_eq,List.all_eq_true] at h ⊢;exact ⟨h.1,fun e he => by have := h.2 e he;simp only [okE,Bool.and_eq_true] at this;exact this.2⟩
theorem okL.sy {N : Nat} {l : List Sm} (h : okL N l) : syL N l := ⟨h.cnt,h.dep,salls_imp okS2_3 l h.all⟩
theorem syL.len {N : Nat} {l : List Sm} (h : syL N l) : l.length ≤ N := Nat.le_trans (scounts_len l) h.cnt
theorem syL.left {N : Nat} {a b : List Sm} (h : syL N (a ++ b)) : syL N a := by
 obtain ⟨h1,h2,h3⟩ := h;rw [scounts_app] at h1;rw [sdeeps_app] at h2;rw [salls_app,Bool.and_eq_true] at h3;exact ⟨by omega,by omega,h3.1⟩
theorem syL.right {N : Nat} {a b : List Sm} (h : syL N (a ++ b)) : syL N b := by
 obtain ⟨h1,h2,h3⟩ := h;rw [scounts_app] at h1;rw [sdeeps_app] at h2;rw [salls_app,Bool.and_eq_true] at h3;exact ⟨by omega,by omega,h3.2⟩
theorem syL.at {N : Nat} {l : List Sm} (h : syL N l) {j : Nat} (hj : j < l.length) : syL N [l[j]] := by
 have h2 := h;rw [split_at hj] at h2;exact h2.right.left
theorem syL_one {N : Nat} {kd : UInt8} {nm hd : Str} {ex : List Ex} {th el : List Sm} (h : syL N [.mk kd nm hd ex th el]) : Sm.counts th + Sm.counts el + 1 ≤ N ∧ Sm.deeps th + 1 ≤ N ∧ Sm.deeps el + 1 ≤ N ∧ ex.length ≤ N ∧ ex.all (Ex.all narrow) = true ∧ Sm.alls (okS3 N) th = true ∧ Sm.alls (okS3 N) el = true := by
 obtain ⟨h1,h2,h3⟩ := h;simp only [Sm.counts,scount_mk] at h1;simp only [Sm.deeps,sdepth_mk] at h2;simp only [Sm.alls,sall_mk,okS3,Bool.and_eq_true,decide_eq_true_eq] at h3;exact ⟨by omega,by omega,by omega,h3.1.1.1.1,h3.1.1.1.2,h3.1.1.2,h3.1.2⟩
structure syHd (N : Nat) (h : Hd) : Prop where
 ps : h.ps.length ≤ N
 body : syL N h.body
structure syV2 (N : Nat) (v : List Hd) : Prop where
 len : v.length ≤ N
 all : ∀ h ∈ v,syHd N h
structure syCp (N : Nat) (c : Cp) : Prop where
 vars : c.vars.length ≤ N
 vers : c.vers.length ≤ N
 all : ∀ v ∈ c.vers,syV2 N v
structure syFt (N : Nat) (f : Ft) : Prop where
 flags : f.flags.length ≤ N
 links : f.links.length ≤ N
 comps : f.comps.length ≤ N
 all : ∀ c ∈ f.comps,syCp N c
theorem okFt.sy {N : Nat} {f : Ft} (h : okFt N f) : syFt N f :=
 ⟨h.flags,h.links,h.comps,fun c hc => ⟨(h.all c hc).vars,(h.all c hc).vers,fun v hv => ⟨((h.all c hc).all v hv).len,fun x hx => ⟨(((h.all c hc).all v hv).all x hx).ps,(((h.all c hc).all v hv).all x hx).body.sy⟩⟩⟩⟩
end Go.Proofs.YtohfacbajcenoaaGreatDoor
