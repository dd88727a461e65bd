/- Texts of the proof, one behind the other. -/
import Derived.Test.YtmbiojpcidccjaaGreatDoorMc
import Derived.Shelf.Strings.Builder1
import Derived.Shelf.Strings.Builder2
import Derived.Shelf.Strings.OnBuilder
import Derived.Shelf.Small.Wraps
import Derived.Shelf.Strings.BuilderF
import Derived.Shelf.Strings.BuilderK
import Derived.Shelf.Strings.Builder2Cap
import Derived.Shelf.Strconv.Itoa0
import Derived.Shelf.Strconv.Itoa1
import Derived.Shelf.LaysM
import Derived.Shelf.Strconv.Itoa2
import Derived.Shelf.Strconv.Itoa3
import Derived.Shelf.Strconv.Itoa4
import Derived.Shelf.Strings.Prefix
import Derived.Shelf.Strings.BuilderCap
import Derived.Test.YtmbiojpcidccjaaGreatDoorProg
set_option linter.all false
namespace Go.Proofs.YtmbiojpcidccjaaGreatDoor
open Go.RowKit Go.Par Go.Sx
theorem sym_find {l : Str} {k : Nat} (hk : k < 25) (h0 : ∀ j,j < k → hasP l (symbols.getD j []) = false) (h1 : hasP l (symbols.getD k []) = true) : symbols.find? (fun x => x.isPrefixOf l) = some (symbols.getD k []) := by
 have hk' : k < symbols.length := hk
 rw [getD_at hk'] at h1 ⊢
 rw [hasP_pre] at h1
 refine List.find?_eq_some_iff_getElem.2 ⟨h1,k,hk',rfl,fun j hj => ?_⟩
 have := h0 j hj
 rw [getD_at (by omega),hasP_pre] at this
 simp [this]
theorem sym_none {l : Str} (h0 : ∀ j,j < 25 → hasP l (symbols.getD j []) = false) : symbols.find? (fun x => x.isPrefixOf l) = none := by
 rw [List.find?_eq_none]
 intro x hx
 obtain ⟨j,hj,rfl⟩ := List.mem_iff_getElem.1 hx
 have := h0 j hj
 rw [getD_at hj,hasP_pre] at this
 simp [this]
set_option maxRecDepth 100000 in
theorem read_any (H : Hp) (G : Gl H) (l : Str) (hl : l.length ≤ 9223372036854775807) (h0 : l ≠ []) (w : World) (hA : Agr H w) :
 Calls Tryz.prog 98 #[strV l] w fun e w' => e = .returned (.tuple #[.int .u8 ((readK l).1.toNat : Nat),.int .i64 ((readK l).2 : Nat)]) ∧ Ext w w' := by
 match l,h0 with
 | c :: r,_ =>
 refine Sx.enter (H := H) Tryz.func98 rfl Tryz.ntmps98 rfl hA ?_
 refine .sr<|.a Z Z<|.a Z Z<|.nt<|.sq<|.sr<|.m Z Z<|.yv (.idxS Fx.str9 Z Z Z (b := c) (j := 0) Z) Z<|.a Z Z<|.nt<|.bk<|.sr<|.m Z Z<|.yv (.call Fx.call118 Z (fun W s => letter_any c W)) Z<|.a Z Z<|.nt<|.cd Z (fun h21 => ?_) (fun h21 => ?_)
 ·skip
  refine .sr<|.m Z Z<|.yv (.call Fx.call119 Z (fun W s => prefix_any 120 insB Fx.call120 inside_any (c :: r) hl W)) Z<|.a Z Z<|.nt<|.sq<|.sr<|.m Z Z<|.m Z Z<|.yv (.takeS Fx.str9 Z Z Z (pre_le _ _)) Z<|.yv (.call Fx.call121 Z (fun W s => keyword_any H G _ W s.agr)) Z<|.nt<|.cd Z (fun h29 => ?_) (fun h29 => ?_)
  ·skip
   refine .sr<|.m Z Z<|.a Z Z<|.a Z Z<|.nt<|.rt<|.tR<|.bR<|.tR<|?_
   first
    | exact Sx.retN (.inl rfl) rfl (.cons (.tmp rfl) (.cons (.tmp rfl) .nil)) rfl fun W s => ⟨by simp only [readK,List.headD_cons,h21,h29,if_true];rfl,s.ext⟩
    | exact Sx.retN (.inl rfl) rfl (.cons (.tmp rfl) (.cons (.tmp rfl) .nil)) rfl fun W s => ⟨by simp only [readK,List.headD_cons,h21,h29,if_true,Bool.false_eq_true,if_false,show pre insB (c :: r) ≤ 12 by omega];rfl,s.ext⟩
    | exact Sx.retN (.inl rfl) rfl (.cons (.tmp rfl) (.cons (.tmp rfl) .nil)) rfl fun W s => ⟨by simp only [readK,List.headD_cons,h21,h29,if_true,Bool.false_eq_true,if_false,show ¬ pre insB (c :: r) ≤ 12 by omega];rfl,s.ext⟩
    | exact Sx.retN (.inl rfl) rfl (.cons (.tmp rfl) (.cons (.tmp rfl) .nil)) rfl fun W s => ⟨by simp only [readK,List.headD_cons,h21,h34,if_true,Bool.false_eq_true,if_false,hor];rfl,s.ext⟩
    | exact Sx.retN (.inl rfl) rfl (.cons (.tmp rfl) (.cons (.tmp rfl) .nil)) rfl fun W s => ⟨by simp only [readK,List.headD_cons,h21,h34,Bool.false_eq_true,if_false,hfind];rfl,s.ext⟩
  skip
  refine .sk<|.tN<|.sr<|.m Z Z<|.yv (.leq Z Z) Z<|.nt<|.cd Z (fun h32 => ?_) (fun h32 => ?_)
  ·try simp only [dt] at h32
   refine .sr<|.m Z Z<|.a Z Z<|.a Z Z<|.nt<|.rt<|.bR<|.tR<|?_
   first
    | exact Sx.retN (.inl rfl) rfl (.cons (.tmp rfl) (.cons (.tmp rfl) .nil)) rfl fun W s => ⟨by simp only [readK,List.headD_cons,h21,h29,if_true];rfl,s.ext⟩
    | exact Sx.retN (.inl rfl) rfl (.cons (.tmp rfl) (.cons (.tmp rfl) .nil)) rfl fun W s => ⟨by simp only [readK,List.headD_cons,h21,h29,if_true,Bool.false_eq_true,if_false,show pre insB (c :: r) ≤ 12 by omega];rfl,s.ext⟩
    | exact Sx.retN (.inl rfl) rfl (.cons (.tmp rfl) (.cons (.tmp rfl) .nil)) rfl fun W s => ⟨by simp only [readK,List.headD_cons,h21,h29,if_true,Bool.false_eq_true,if_false,show ¬ pre insB (c :: r) ≤ 12 by omega];rfl,s.ext⟩
    | exact Sx.retN (.inl rfl) rfl (.cons (.tmp rfl) (.cons (.tmp rfl) .nil)) rfl fun W s => ⟨by simp only [readK,List.headD_cons,h21,h34,if_true,Bool.false_eq_true,if_false,hor];rfl,s.ext⟩
    | exact Sx.retN (.inl rfl) rfl (.cons (.tmp rfl) (.cons (.tmp rfl) .nil)) rfl fun W s => ⟨by simp only [readK,List.headD_cons,h21,h34,Bool.false_eq_true,if_false,hfind];rfl,s.ext⟩
  try simp only [df] at h32
  refine .sk<|.bN<|.tN<|.sr<|.m Z Z<|.yv (.lenS Fx.str9 Z) Z<|.a Z Z<|.a Z Z<|.nt<|.rt<|?_
  first
   | exact Sx.retN (.inl rfl) rfl (.cons (.tmp rfl) (.cons (.tmp rfl) .nil)) rfl fun W s => ⟨by simp only [readK,List.headD_cons,h21,h29,if_true];rfl,s.ext⟩
   | exact Sx.retN (.inl rfl) rfl (.cons (.tmp rfl) (.cons (.tmp rfl) .nil)) rfl fun W s => ⟨by simp only [readK,List.headD_cons,h21,h29,if_true,Bool.false_eq_true,if_false,show pre insB (c :: r) ≤ 12 by omega];rfl,s.ext⟩
   | exact Sx.retN (.inl rfl) rfl (.cons (.tmp rfl) (.cons (.tmp rfl) .nil)) rfl fun W s => ⟨by simp only [readK,List.headD_cons,h21,h29,if_true,Bool.false_eq_true,if_false,show ¬ pre insB (c :: r) ≤ 12 by omega];rfl,s.ext⟩
   | exact Sx.retN (.inl rfl) rfl (.cons (.tmp rfl) (.cons (.tmp rfl) .nil)) rfl fun W s => ⟨by simp only [readK,List.headD_cons,h21,h34,if_true,Bool.false_eq_true,if_false,hor];rfl,s.ext⟩
   | exact Sx.retN (.inl rfl) rfl (.cons (.tmp rfl) (.cons (.tmp rfl) .nil)) rfl fun W s => ⟨by simp only [readK,List.headD_cons,h21,h34,Bool.false_eq_true,if_false,hfind];rfl,s.ext⟩
 skip
 refine .sr<|.m Z Z<|.yv (.call Fx.call122 Z (fun W s => digit_any c W)) Z<|.a Z Z<|.nt<|.cd Z (fun h34 => ?_) (fun h34 => ?_)
 ·skip
  refine .sr<|.m Z Z<|.yv (.call Fx.call119 Z (fun W s => prefix_any 122 digB Fx.call122 digit_any (c :: r) hl W)) Z<|.a Z Z<|.ns<|.m Z Z<|.yv (.eql Z Z) Z<|.m Z Z<|.b2 (fun h41 => ?_) (fun h41 => ?_)
  ·try simp only [dt] at h41
   have hor : (pre digB (c :: r) = 1 ∨ c ≠ 48) = True := eq_true (.inl (by omega))
   refine .gF Z Z Z Z<|.gF Z Z Z Z<|.yv (.pickT Z Z) Z<|.nt<|.cT Z<|.sr<|.m Z Z<|.a Z Z<|.a Z Z<|.nt<|.rt<|.bR<|.tR<|?_
   first
    | exact Sx.retN (.inl rfl) rfl (.cons (.tmp rfl) (.cons (.tmp rfl) .nil)) rfl fun W s => ⟨by simp only [readK,List.headD_cons,h21,h29,if_true];rfl,s.ext⟩
    | exact Sx.retN (.inl rfl) rfl (.cons (.tmp rfl) (.cons (.tmp rfl) .nil)) rfl fun W s => ⟨by simp only [readK,List.headD_cons,h21,h29,if_true,Bool.false_eq_true,if_false,show pre insB (c :: r) ≤ 12 by omega];rfl,s.ext⟩
    | exact Sx.retN (.inl rfl) rfl (.cons (.tmp rfl) (.cons (.tmp rfl) .nil)) rfl fun W s => ⟨by simp only [readK,List.headD_cons,h21,h29,if_true,Bool.false_eq_true,if_false,show ¬ pre insB (c :: r) ≤ 12 by omega];rfl,s.ext⟩
    | exact Sx.retN (.inl rfl) rfl (.cons (.tmp rfl) (.cons (.tmp rfl) .nil)) rfl fun W s => ⟨by simp only [readK,List.headD_cons,h21,h34,if_true,Bool.false_eq_true,if_false,hor];rfl,s.ext⟩
    | exact Sx.retN (.inl rfl) rfl (.cons (.tmp rfl) (.cons (.tmp rfl) .nil)) rfl fun W s => ⟨by simp only [readK,List.headD_cons,h21,h34,Bool.false_eq_true,if_false,hfind];rfl,s.ext⟩
  try simp only [df] at h41
  refine .gd Z Z<|.yv (.move Z) Z<|.gd Z Z<|.yv (.neq Z Z) Z<|.yv (.pickF Z Z) Z<|.nt<|.cd Z (fun h44 => ?_) (fun h44 => ?_)
  ·try simp only [dt] at h44
   have hor : (pre digB (c :: r) = 1 ∨ c ≠ 48) = True := eq_true (.inr fun e => h44 (by rw [e];rfl))
   refine .sr<|.m Z Z<|.a Z Z<|.a Z Z<|.nt<|.rt<|.bR<|.tR<|?_
   first
    | exact Sx.retN (.inl rfl) rfl (.cons (.tmp rfl) (.cons (.tmp rfl) .nil)) rfl fun W s => ⟨by simp only [readK,List.headD_cons,h21,h29,if_true];rfl,s.ext⟩
    | exact Sx.retN (.inl rfl) rfl (.cons (.tmp rfl) (.cons (.tmp rfl) .nil)) rfl fun W s => ⟨by simp only [readK,List.headD_cons,h21,h29,if_true,Bool.false_eq_true,if_false,show pre insB (c :: r) ≤ 12 by omega];rfl,s.ext⟩
    | exact Sx.retN (.inl rfl) rfl (.cons (.tmp rfl) (.cons (.tmp rfl) .nil)) rfl fun W s => ⟨by simp only [readK,List.headD_cons,h21,h29,if_true,Bool.false_eq_true,if_false,show ¬ pre insB (c :: r) ≤ 12 by omega];rfl,s.ext⟩
    | exact Sx.retN (.inl rfl) rfl (.cons (.tmp rfl) (.cons (.tmp rfl) .nil)) rfl fun W s => ⟨by simp only [readK,List.headD_cons,h21,h34,if_true,Bool.false_eq_true,if_false,hor];rfl,s.ext⟩
    | exact Sx.retN (.inl rfl) rfl (.cons (.tmp rfl) (.cons (.tmp rfl) .nil)) rfl fun W s => ⟨by simp only [readK,List.headD_cons,h21,h34,Bool.false_eq_true,if_false,hfind];rfl,s.ext⟩
  try simp only [df] at h44
  have hor : (pre digB (c :: r) = 1 ∨ c ≠ 48) = False := eq_false fun h => by
   rcases h with h | h
   ·omega
   ·exact h (UInt8.toNat_inj.1 (by show c.toNat = 48;simp at h44;omega))
  refine .sk<|.bN<|.tN<|.sr<|.m Z Z<|.yv (.lenS Fx.str9 Z) Z<|.a Z Z<|.a Z Z<|.nt<|.rt<|?_
  first
   | exact Sx.retN (.inl rfl) rfl (.cons (.tmp rfl) (.cons (.tmp rfl) .nil)) rfl fun W s => ⟨by simp only [readK,List.headD_cons,h21,h29,if_true];rfl,s.ext⟩
   | exact Sx.retN (.inl rfl) rfl (.cons (.tmp rfl) (.cons (.tmp rfl) .nil)) rfl fun W s => ⟨by simp only [readK,List.headD_cons,h21,h29,if_true,Bool.false_eq_true,if_false,show pre insB (c :: r) ≤ 12 by omega];rfl,s.ext⟩
   | exact Sx.retN (.inl rfl) rfl (.cons (.tmp rfl) (.cons (.tmp rfl) .nil)) rfl fun W s => ⟨by simp only [readK,List.headD_cons,h21,h29,if_true,Bool.false_eq_true,if_false,show ¬ pre insB (c :: r) ≤ 12 by omega];rfl,s.ext⟩
   | exact Sx.retN (.inl rfl) rfl (.cons (.tmp rfl) (.cons (.tmp rfl) .nil)) rfl fun W s => ⟨by simp only [readK,List.headD_cons,h21,h34,if_true,Bool.false_eq_true,if_false,hor];rfl,s.ext⟩
   | exact Sx.retN (.inl rfl) rfl (.cons (.tmp rfl) (.cons (.tmp rfl) .nil)) rfl fun W s => ⟨by simp only [readK,List.headD_cons,h21,h34,Bool.false_eq_true,if_false,hfind];rfl,s.ext⟩
 skip
 refine .sr<|.yv (.loadMW Z Fx.agg216 G.symbols Z) Z<|.m Z Z<|.nt<|.bk<|.lp (X := Nat) [(0,_),(11,_)] ⟨rfl,rfl,trivial⟩ [] (fun k => [(12,.int .i64 (k : Nat))]) (fun k => H) (fun k => []) (fun k => k ≤ 25 ∧ ∀ j,j < k → hasP (c :: r) (symbols.getD j []) = false) (fun k => 25 - k) 0 (fun _ s => s) ⟨rfl,trivial⟩ ⟨by omega,fun j hj => by omega⟩ fun k hC => ?_
 obtain ⟨hk,hne⟩ := hC
 refine .sr<|.yv (.lss Z Z) Z<|.nt<|.sq<|.cd Z (fun h13 => ?_) (fun h13 => ?_)
 ·try simp only [dt] at h13
  refine .sk<|.tN<|.sq<|.bk<|.sr<|.yv (.idxA Fx.arr216 Fx.are216 Z Z Z (by omega) (list_at (by show k < 25;omega) [])) Z<|.a Z Z<|.ns<|.m Z Z<|.m Z Z<|.yv (.call Fx.call123 Z (fun W s => hasPrefix_any (c :: r) _ W)) Z<|.nt<|.cd Z (fun h17 => ?_) (fun h17 => ?_)
  ·have hfind := sym_find (by omega) hne h17
   refine .sr<|.m Z Z<|.yv (.lenS Fx.str9 Z) Z<|.a Z Z<|.a Z Z<|.nt<|.rt<|.bR<|.tR<|.tR<|.bR<|.bR<|.tR<|?_
   first
    | exact Sx.retN (.inl rfl) rfl (.cons (.tmp rfl) (.cons (.tmp rfl) .nil)) rfl fun W s => ⟨by simp only [readK,List.headD_cons,h21,h29,if_true];rfl,s.ext⟩
    | exact Sx.retN (.inl rfl) rfl (.cons (.tmp rfl) (.cons (.tmp rfl) .nil)) rfl fun W s => ⟨by simp only [readK,List.headD_cons,h21,h29,if_true,Bool.false_eq_true,if_false,show pre insB (c :: r) ≤ 12 by omega];rfl,s.ext⟩
    | exact Sx.retN (.inl rfl) rfl (.cons (.tmp rfl) (.cons (.tmp rfl) .nil)) rfl fun W s => ⟨by simp only [readK,List.headD_cons,h21,h29,if_true,Bool.false_eq_true,if_false,show ¬ pre insB (c :: r) ≤ 12 by omega];rfl,s.ext⟩
    | exact Sx.retN (.inl rfl) rfl (.cons (.tmp rfl) (.cons (.tmp rfl) .nil)) rfl fun W s => ⟨by simp only [readK,List.headD_cons,h21,h34,if_true,Bool.false_eq_true,if_false,hor];rfl,s.ext⟩
    | exact Sx.retN (.inl rfl) rfl (.cons (.tmp rfl) (.cons (.tmp rfl) .nil)) rfl fun W s => ⟨by simp only [readK,List.headD_cons,h21,h34,Bool.false_eq_true,if_false,hfind];rfl,s.ext⟩
  skip
  exact .sk<|.bN<|.tN<|.rg<|.yv (.add Z Z (w6 (by omega))) Z<|.m Z Z<|.nt<|.ag (k + 1) ⟨rfl,trivial⟩ ⟨rfl,rfl,trivial⟩ (fun _ s => s) ⟨by omega,fun j hj => by
   by_cases e : j = k
   ·subst e;exact h17
   ·exact hne j (by omega)⟩ (by omega)
 try simp only [df] at h13
 have hfind := sym_none (l := c :: r) (fun j hj => hne j (by omega))
 refine .ex<|.tE<|.tE<|.bE<|.bN<|.tN<|.sr<|.m Z Z<|.yv (.lenS Fx.str9 Z) Z<|.a Z Z<|.a Z Z<|.nt<|.rt<|?_
 first
  | exact Sx.retN (.inl rfl) rfl (.cons (.tmp rfl) (.cons (.tmp rfl) .nil)) rfl fun W s => ⟨by simp only [readK,List.headD_cons,h21,h29,if_true];rfl,s.ext⟩
  | exact Sx.retN (.inl rfl) rfl (.cons (.tmp rfl) (.cons (.tmp rfl) .nil)) rfl fun W s => ⟨by simp only [readK,List.headD_cons,h21,h29,if_true,Bool.false_eq_true,if_false,show pre insB (c :: r) ≤ 12 by omega];rfl,s.ext⟩
  | exact Sx.retN (.inl rfl) rfl (.cons (.tmp rfl) (.cons (.tmp rfl) .nil)) rfl fun W s => ⟨by simp only [readK,List.headD_cons,h21,h29,if_true,Bool.false_eq_true,if_false,show ¬ pre insB (c :: r) ≤ 12 by omega];rfl,s.ext⟩
  | exact Sx.retN (.inl rfl) rfl (.cons (.tmp rfl) (.cons (.tmp rfl) .nil)) rfl fun W s => ⟨by simp only [readK,List.headD_cons,h21,h34,if_true,Bool.false_eq_true,if_false,hor];rfl,s.ext⟩
  | exact Sx.retN (.inl rfl) rfl (.cons (.tmp rfl) (.cons (.tmp rfl) .nil)) rfl fun W s => ⟨by simp only [readK,List.headD_cons,h21,h34,Bool.false_eq_true,if_false,hfind];rfl,s.ext⟩
set_option maxRecDepth 100000 in
theorem isName_any (H : Hp) (G : Gl H) (l : Str) (hl : l.length ≤ 9223372036854775807) (w : World) (hA : Agr H w) :
 Calls Tryz.prog 57 #[strV l] w fun r w' => r = .returned (.bool (nameB l)) ∧ Ext w w' := by
 refine Sx.enter (H := H) Tryz.func57 rfl Tryz.ntmps57 rfl hA ?_
 refine .sr<|.a Z Z<|.nt<|.sq<|.sr<|.m Z Z<|.yv (.eqS Z Z) Z<|.nt<|.cd Z (fun h6 => ?_) (fun h6 => ?_)
 ·try simp only [dt] at h6
  subst h6
  refine .sr<|.a Z Z<|.nt<|.rt<|.tR<|?_
  refine Sx.ret1 (.inl rfl) rfl (.tmp rfl) fun W s => ⟨retB ?_,s.ext⟩
  first
   | (rw [nameB,show (readK l).1 = 1 from h1];simp [h6];omega)
   | (rw [show nameB l = false by simp [nameB,h1]])
   | (rfl)
 try simp only [df] at h6
 skip
 refine .sk<|.tN<|.sr<|.m Z Z<|.yv (.call Fx.call98 Z (fun W s => read_any H G l hl h6 W s.agr)) Z<|.m Z Z<|.yv (.extract Z Z) Z<|.yv (.extract Z Z) Z<|.a Z Z<|.a Z Z<|.ns<|.m Z Z<|.yv (.eql Z Z) Z<|.m Z Z<|.b2 (fun h14 => ?_) (fun h14 => ?_)
 ·try simp only [dt] at h14
  have h1 : (readK l).1 = 1 := UInt8.toNat_inj.1 (by show _ = 1;omega)
  refine .gd Z Z<|.yv (.move Z) Z<|.gd Z Z<|.yv (.move Z) Z<|.gd Z Z<|.yv (.lenS Fx.str9 Z) Z<|.gd Z Z<|.yv (.eql Z Z) Z<|.yv (.pickT Z Z) Z<|.a Z Z<|.nt<|.rt<|?_
  refine Sx.ret1 (.inl rfl) rfl (.tmp rfl) fun W s => ⟨retB ?_,s.ext⟩
  first
   | (rw [nameB,show (readK l).1 = 1 from h1];simp [h6];omega)
   | (rw [show nameB l = false by simp [nameB,h1]])
   | (rfl)
 try simp only [df] at h14
 have h1 : ¬ (readK l).1 = 1 := fun e => h14 (by rw [e];rfl)
 refine .gF Z Z Z Z<|.gF Z Z Z Z<|.gF Z Z Z Z<|.gF Z Z Z Z<|.yv (.pickF Z Z) Z<|.a Z Z<|.nt<|.rt<|?_
 refine Sx.ret1 (.inl rfl) rfl (.tmp rfl) fun W s => ⟨retB ?_,s.ext⟩
 first
  | (rw [nameB,show (readK l).1 = 1 from h1];simp [h6];omega)
  | (rw [show nameB l = false by simp [nameB,h1]])
  | (rfl)
set_option maxRecDepth 100000 in
theorem shape_any (H : Hp) (G : Gl H) (op : UInt8) (w : World) (hA : Agr H w) :
 Calls Tryz.prog 91 #[.int .u8 op.toNat] w fun r w' => r = .returned (.tuple #[.agg (shapeC (shapeOf op)).toArray,.bool (okOp op)]) ∧ Ext w w' := by
 refine Sx.enter (H := H) Tryz.func91 rfl Tryz.ntmps91 rfl hA ?_
 refine .sr<|.al Fx.zero180 Z fun b2 => .a Z Z<|.nt<|.sq<|.sr<|.m Z Z<|.yv (.lss Z Z) Z<|.m Z Z<|.b2 (fun h6 => ?_) (fun h6 => ?_)
 ·try simp only [dt] at h6
  have hno : okOp op = false := by simp [okOp];omega
  refine .gF Z Z Z Z<|.gF Z Z Z Z<|.yv (.pickT Z Z) Z<|.nt<|.cT Z<|.sr<|.yv (.build Z Fx.bld180) Z<|.sW .head Z Z Fx.size180 (by simp [Value.oneCell',strV]) Z<|.a Z Z<|.nt<|.rt<|.tR<|?_
  refine Sx.retN (.inl rfl) rfl (.cons (.cell rfl Fx.agg180 (.head _) rfl) (.cons (.tmp rfl) .nil)) rfl fun W s => ⟨?_,s.ext⟩
  first
   | (rw [shapeOf,hno];rfl)
   | (rw [shapeOf,hok];rfl)
 try simp only [df] at h6
 refine .gd Z Z<|.yv (.move Z) Z<|.gd Z Z<|.yv (.gtr Z Z) Z<|.yv (.pickF Z Z) Z<|.nt<|.cd Z (fun h9 => ?_) (fun h9 => ?_)
 ·try simp only [dt] at h9
  have hno : okOp op = false := by simp [okOp];omega
  refine .sr<|.yv (.build Z Fx.bld180) Z<|.sW .head Z Z Fx.size180 (by simp [Value.oneCell',strV]) Z<|.a Z Z<|.nt<|.rt<|.tR<|?_
  refine Sx.retN (.inl rfl) rfl (.cons (.cell rfl Fx.agg180 (.head _) rfl) (.cons (.tmp rfl) .nil)) rfl fun W s => ⟨?_,s.ext⟩
  first
   | (rw [shapeOf,hno];rfl)
   | (rw [shapeOf,hok];rfl)
 try simp only [df] at h9
 have hok : okOp op = true := by simp [okOp];omega
 refine .sk<|.tN<|.sr<|.m Z Z<|.yv (.indexArr Fx.arr213 Z Z Z (by omega) (q := op.toNat * 4) (by omega)) Z<|.yv (.loadMS (k := op.toNat * 4) (vs := shapeC (shapes.getD op.toNat ⟨0,false,0,[]⟩)) Z Fx.agg180 G.shapes (by omega) Z (flat_at (f := shapeC) (z := 4) (l := shapes) (i := op.toNat) (fun _ => rfl) _ (by show op.toNat < 24;omega))) Z<|.sV .head Z Z Fx.size180 Z (by simp [shapeC,Value.oneCell',strV]) Z<|.a Z Z<|.nt<|.rt<|?_
 refine Sx.retN (.inl rfl) rfl (.cons (.cell rfl Fx.agg180 (.head _) rfl) (.cons (.tmp rfl) .nil)) rfl fun W s => ⟨?_,s.ext⟩
 first
  | (rw [shapeOf,hno];rfl)
  | (rw [shapeOf,hok];rfl)
set_option maxRecDepth 100000 in
theorem form_any (H : Hp) (G : Gl H) (op : UInt8) (w : World) (hA : Agr H w) :
 Calls Tryz.prog 99 #[.int .u8 op.toNat] w fun r w' => r = .returned (.tuple #[.agg (formC (formOf op)).toArray,.bool (okKd op)]) ∧ Ext w w' := by
 refine Sx.enter (H := H) Tryz.func99 rfl Tryz.ntmps99 rfl hA ?_
 refine .sr<|.al Fx.zero192 Z fun b2 => .a Z Z<|.nt<|.sq<|.sr<|.m Z Z<|.yv (.lss Z Z) Z<|.m Z Z<|.b2 (fun h6 => ?_) (fun h6 => ?_)
 ·try simp only [dt] at h6
  have hno : okKd op = false := by simp [okKd];omega
  refine .gF Z Z Z Z<|.gF Z Z Z Z<|.yv (.pickT Z Z) Z<|.nt<|.cT Z<|.sr<|.yv (.build Z Fx.bld192) Z<|.sW .head Z Z Fx.size192 (by simp [Value.oneCell',strV]) Z<|.a Z Z<|.nt<|.rt<|.tR<|?_
  refine Sx.retN (.inl rfl) rfl (.cons (.cell rfl Fx.agg192 (.head _) rfl) (.cons (.tmp rfl) .nil)) rfl fun W s => ⟨?_,s.ext⟩
  first
   | (rw [formOf,hno];rfl)
   | (rw [formOf,hok];rfl)
 try simp only [df] at h6
 refine .gd Z Z<|.yv (.move Z) Z<|.gd Z Z<|.yv (.gtr Z Z) Z<|.yv (.pickF Z Z) Z<|.nt<|.cd Z (fun h9 => ?_) (fun h9 => ?_)
 ·try simp only [dt] at h9
  have hno : okKd op = false := by simp [okKd];omega
  refine .sr<|.yv (.build Z Fx.bld192) Z<|.sW .head Z Z Fx.size192 (by simp [Value.oneCell',strV]) Z<|.a Z Z<|.nt<|.rt<|.tR<|?_
  refine Sx.retN (.inl rfl) rfl (.cons (.cell rfl Fx.agg192 (.head _) rfl) (.cons (.tmp rfl) .nil)) rfl fun W s => ⟨?_,s.ext⟩
  first
   | (rw [formOf,hno];rfl)
   | (rw [formOf,hok];rfl)
 try simp only [df] at h9
 have hok : okKd op = true := by simp [okKd];omega
 refine .sk<|.tN<|.sr<|.m Z Z<|.yv (.indexArr Fx.arr218 Z Z Z (by omega) (q := op.toNat * 6) (by omega)) Z<|.yv (.loadMS (k := op.toNat * 6) (vs := formC (forms.getD op.toNat ⟨false,false,0,0,false,false⟩)) Z Fx.agg192 G.forms (by omega) Z (flat_at (f := formC) (z := 6) (l := forms) (i := op.toNat) (fun _ => rfl) _ (by show op.toNat < 11;omega))) Z<|.sV .head Z Z Fx.size192 Z (by simp [formC,Value.oneCell',strV]) Z<|.a Z Z<|.nt<|.rt<|?_
 refine Sx.retN (.inl rfl) rfl (.cons (.cell rfl Fx.agg192 (.head _) rfl) (.cons (.tmp rfl) .nil)) rfl fun W s => ⟨?_,s.ext⟩
 first
  | (rw [formOf,hno];rfl)
  | (rw [formOf,hok];rfl)
def ExFn (gf : FuncId) (q : Ex → Bool) : Prop := callN Tryz.prog gf = true ∧ ∀ (H : Hp),Gl H → ∀ (e : Ex) (cs : List Value) (b o : Nat) (w : World),Rep H (dEx .u8 e) cs → MemAt H b o cs → Agr H w →
 Calls Tryz.prog gf #[.pointer (some ⟨b,o,none⟩)] w fun r w' => r = .returned (.bool (q e)) ∧ Ext w w'
set_option maxRecDepth 100000 in
theorem everyExpr_any (gf : FuncId) (q : Ex → Bool) (hg : ExFn gf q) (H : Hp) (G : Gl H) (e : Ex) : ∀ (cs : List Value) (b o : Nat) (w : World),Rep H (dEx .u8 e) cs → MemAt H b o cs → Agr H w →
 Calls Tryz.prog 88 #[.pointer (some ⟨b,o,none⟩),.func (.func gf) #[] #[]] w fun r w' => r = .returned (.bool (e.all q)) ∧ Ext w w' := by
 induction e using Ex.ind with | _ op nm nn args ih
 intro cs b o w h hm hA
 obtain ⟨p,c,rfl,hs,hnm⟩ := ex_open h
 have hcap := hs.cap
 refine Sx.enter (H := H) Tryz.func88 rfl Tryz.ntmps88 rfl hA ?_
 refine .sr<|.a Z Z<|.nt<|.sq<|.sr<|.m Z Z<|.m Z Z<|.yv (.callV (fi := []) (ca := []) Z hg.1 Z (fun W s => hg.2 H G _ _ b o W h hm s.agr)) Z<|.yv (.not Z) Z<|.nt<|.cd Z (fun h9 => ?_) (fun h9 => ?_)
 ·skip
  refine .sr<|.a Z Z<|.nt<|.rt<|.tR<|?_
  refine Sx.ret1 (.inl rfl) rfl (.tmp rfl) fun W s => ⟨retB ?_,s.ext⟩
  first
   | (rw [all_mk,show q (.mk op nm nn args) = false by simpa using h9];rfl)
   | (rw [all_mk,alls_bad hk (by simpa using h26)];simp)
   | (rw [all_mk,hal,show q (.mk op nm nn args) = true by simpa using h9];rfl)
 skip
 refine .sk<|.tN<|.sq<|.sr<|.m Z Z<|.yv (.nilCheck Z) Z<|.yv (.fieldAddr Z Fx.field60_3) Z<|.yv (.loadM Z Fx.agg58 hm (k := 3) Z Z) Z<|.yv (.lenSl Fx.sl58 Z) Z<|.m Z Z<|.nt<|.bk<|.lp (X := Nat) [(0,_),(1,_),(14,_)] ⟨rfl,rfl,rfl,trivial⟩ [] (fun k => [(15,.int .i64 (k : Nat))]) (fun k => H) (fun k => []) (fun k => k ≤ args.length ∧ Ex.alls q (args.take k) = true) (fun k => args.length - k) 0 (fun _ s => s) ⟨rfl,trivial⟩ ⟨by omega,rfl⟩ fun k hC => ?_
 obtain ⟨hk0,hal⟩ := hC
 refine .sr<|.yv (.lss Z Z) Z<|.nt<|.sq<|.cd Z (fun h16 => ?_) (fun h16 => ?_)
 ·try simp only [dt] at h16
  have hk : k < args.length := by omega
  obtain ⟨b5,o5,c5,hp5,r5,l5,m5⟩ := hs.elem (map_at hk)
  cases hp5
  refine .sk<|.tN<|.sq<|.bk<|.sr<|.m Z Z<|.a Z Z<|.ns<|.m Z Z<|.yv (.nilCheck Z) Z<|.yv (.fieldAddr Z Fx.field60_3) Z<|.yv (.loadM Z Fx.agg58 hm (k := 3) Z Z) Z<|.m Z Z<|.yv (.indexSl Fx.sl58 Z Z Z (by omega) (q := o5 + k * 4) Z) Z<|.m Z Z<|.yv (.call Fx.call88 Z (fun W s => ih _ (List.getElem_mem hk) c5 b5 (o5 + k * 4) W r5 m5 s.agr)) Z<|.yv (.not Z) Z<|.nt<|.cd Z (fun h26 => ?_) (fun h26 => ?_)
  ·skip
   refine .sr<|.a Z Z<|.nt<|.rt<|.bR<|.tR<|.tR<|.bR<|.tR<|?_
   refine Sx.ret1 (.inl rfl) rfl (.tmp rfl) fun W s => ⟨retB ?_,s.ext⟩
   first
    | (rw [all_mk,show q (.mk op nm nn args) = false by simpa using h9];rfl)
    | (rw [all_mk,alls_bad hk (by simpa using h26)];simp)
    | (rw [all_mk,hal,show q (.mk op nm nn args) = true by simpa using h9];rfl)
  skip
  exact .sk<|.bN<|.tN<|.rg<|.yv (.add Z Z (w6 (by omega))) Z<|.m Z Z<|.nt<|.ag (k + 1) ⟨rfl,trivial⟩ ⟨rfl,rfl,rfl,trivial⟩ (fun _ s => s) ⟨by omega,by rw [alls_succ hk,hal];simpa using h26⟩ (by omega)
 try simp only [df] at h16
 obtain rfl : k = args.length := by omega
 rw [List.take_length] at hal
 refine .ex<|.tE<|.tE<|.bE<|.tN<|.sr<|.a Z Z<|.nt<|.rt<|?_
 refine Sx.ret1 (.inl rfl) rfl (.tmp rfl) fun W s => ⟨retB ?_,s.ext⟩
 first
  | (rw [all_mk,show q (.mk op nm nn args) = false by simpa using h9];rfl)
  | (rw [all_mk,alls_bad hk (by simpa using h26)];simp)
  | (rw [all_mk,hal,show q (.mk op nm nn args) = true by simpa using h9];rfl)
set_option maxRecDepth 100000 in
theorem namedExpr_any : ExFn 89 namE := by
 refine ⟨Fx.call89,fun H G e cs b o w h hm hA => ?_⟩
 obtain ⟨op,nm,nn,args⟩ := e
 obtain ⟨p,c,rfl,hs,hnm⟩ := ex_open h
 have hcap := hs.cap
 refine Sx.enter (H := H) Tryz.func89 rfl Tryz.ntmps89 rfl hA ?_
 refine .sr<|.a Z Z<|.ns<|.m Z Z<|.yv (.nilCheck Z) Z<|.yv (.fieldAddr Z Fx.field60_0) Z<|.yv (.loadM Z Fx.agg57 hm (k := 0) Z Z) Z<|.yv (.call Fx.call91 Z (fun W s => shape_any H G op W s.agr)) Z<|.m Z Z<|.yv (.extract Z Z) Z<|.yv (.extract Z Z) Z<|.al Fx.zero180 Z fun b3 => .sV .head Z Z Fx.size180 Z (by simp [shapeC,Value.oneCell',strV]) Z<|.a Z Z<|.ns<|.yv (.fieldAddr Z Fx.field180_1) Z<|.yv (.load Z Fx.agg4 (.head _) Z) Z<|.yv (.not Z) Z<|.m Z Z<|.b2 (fun h16 => ?_) (fun h16 => ?_)
 ·skip
  refine .gF Z Z Z Z<|.gF Z Z Z Z<|.gF Z Z Z Z<|.gF Z Z Z Z<|.gF Z Z Z Z<|.yv (.pickT Z Z) Z<|.a Z Z<|.nt<|.rt<|?_
  refine Sx.ret1 (.inl rfl) rfl (.tmp rfl) fun W s => ⟨retB ?_,s.ext⟩
  first
   | (simp only [namE];simp_all)
 skip
 refine .gd Z Z<|.yv (.move Z) Z<|.gd Z Z<|.yv (.nilCheck Z) Z<|.gd Z Z<|.yv (.fieldAddr Z Fx.field60_1) Z<|.gd Z Z<|.yv (.loadM Z Fx.agg9 hm (k := 1) Z Z) Z<|.gd Z Z<|.yv (.call Fx.call57 Z (fun W s => isName_any H G nm (by omega) W s.agr)) Z<|.yv (.pickF Z Z) Z<|.a Z Z<|.nt<|.rt<|?_
 refine Sx.ret1 (.inl rfl) rfl (.tmp rfl) fun W s => ⟨retB ?_,s.ext⟩
 first
  | (simp only [namE];simp_all)
set_option maxRecDepth 100000 in
theorem formedExpr_any : ExFn 90 frmE := by
 refine ⟨Fx.call90,fun H G e cs b o w h hm hA => ?_⟩
 obtain ⟨op,nm,nn,args⟩ := e
 obtain ⟨p,c,rfl,hs,hnm⟩ := ex_open h
 have hcap := hs.cap
 refine Sx.enter (H := H) Tryz.func90 rfl Tryz.ntmps90 rfl hA ?_
 refine .sr<|.a Z Z<|.ns<|.m Z Z<|.yv (.nilCheck Z) Z<|.yv (.fieldAddr Z Fx.field60_0) Z<|.yv (.loadM Z Fx.agg57 hm (k := 0) Z Z) Z<|.yv (.call Fx.call91 Z (fun W s => shape_any H G op W s.agr)) Z<|.m Z Z<|.yv (.extract Z Z) Z<|.yv (.extract Z Z) Z<|.al Fx.zero180 Z fun b3 => .sV .head Z Z Fx.size180 Z (by simp [shapeC,Value.oneCell',strV]) Z<|.a Z Z<|.nt<|.sq<|.bk<|.sq<|.sr<|.m Z Z<|.yv (.not Z) Z<|.a Z Z<|.nt<|.cd Z (fun h13 => ?_) (fun h13 => ?_)
 ·skip
  refine .sk<|.tN<|.cd Z (fun h13 => ?_) (fun h13 => ?_)
  ·skip
   refine .sr<|.a Z Z<|.nt<|.rt<|.bR<|.tR<|?_
   refine Sx.ret1 (.inl rfl) rfl (.tmp rfl) fun W s => ⟨retB ?_,s.ext⟩
   first
    | (simp only [frmE];cases ho : okOp op <;> cases hs2 : (shapeOf op).nm <;> simp_all [Int.natCast_inj])
  skip
  refine .sr<|.m Z Z<|.yv (.nilCheck Z) Z<|.yv (.fieldAddr Z Fx.field60_0) Z<|.yv (.loadM Z Fx.agg57 hm (k := 0) Z Z) Z<|.yv (.eql Z Z) Z<|.a Z Z<|.nt<|.cd Z (fun h34 => ?_) (fun h34 => ?_)
  ·try simp only [dt] at h34
   have h34 : op = 1 := UInt8.toNat_inj.1 (by show op.toNat = 1;omega)
   refine .sr<|.m Z Z<|.yv (.nilCheck Z) Z<|.yv (.fieldAddr Z Fx.field60_2) Z<|.yv (.loadM Z Fx.agg2 hm (k := 2) Z Z) Z<|.yv (.geq Z Z) Z<|.a Z Z<|.nt<|.rt<|.bR<|.tR<|?_
   refine Sx.ret1 (.inl rfl) rfl (.tmp rfl) fun W s => ⟨retB ?_,s.ext⟩
   first
    | (simp only [frmE];cases ho : okOp op <;> cases hs2 : (shapeOf op).nm <;> simp_all [Int.natCast_inj])
  try simp only [df] at h34
  have h34 : ¬ op = 1 := fun e => h34 (by rw [e];rfl)
  refine .sk<|.bN<|.tN<|.sr<|.m Z Z<|.yv (.nilCheck Z) Z<|.yv (.fieldAddr Z Fx.field60_2) Z<|.yv (.loadM Z Fx.agg2 hm (k := 2) Z Z) Z<|.yv (.eql Z Z) Z<|.a Z Z<|.nt<|.rt<|?_
  refine Sx.ret1 (.inl rfl) rfl (.tmp rfl) fun W s => ⟨retB ?_,s.ext⟩
  first
   | (simp only [frmE];cases ho : okOp op <;> cases hs2 : (shapeOf op).nm <;> simp_all [Int.natCast_inj])
 skip
 refine .sq<|.fl (trip := [(_,_,_),(_,_,_),(_,_,_),(_,_,_),(_,_,_),(_,_,_),(_,_,_),(_,_,_)]) 8 [(0,0),(1,0),(2,0),(3,0),(4,0),(5,0),(6,0),(7,0)] (by kernel_rfl) (by kernel_rfl) Z<|.m Z Z<|.yv (.nilCheck Z) Z<|.yv (.fieldAddr Z Fx.field60_3) Z<|.yv (.loadM Z Fx.agg58 hm (k := 3) Z Z) Z<|.yv (.lenSl Fx.sl58 Z) Z<|.yv (.fieldAddr Z Fx.field180_0) Z<|.yv (.load Z Fx.agg3 (.head _) Z) Z<|.yv (.neq Z Z) Z<|.fn (tl := [_]) Z<|.a Z Z<|.nt<|.cd Z (fun h13 => ?_) (fun h13 => ?_)
 ·skip
  refine .sk<|.tN<|.cd Z (fun h13 => ?_) (fun h13 => ?_)
  ·skip
   refine .sr<|.a Z Z<|.nt<|.rt<|.bR<|.tR<|?_
   refine Sx.ret1 (.inl rfl) rfl (.tmp rfl) fun W s => ⟨retB ?_,s.ext⟩
   first
    | (simp only [frmE];cases ho : okOp op <;> cases hs2 : (shapeOf op).nm <;> simp_all [Int.natCast_inj])
  skip
  refine .sr<|.m Z Z<|.yv (.nilCheck Z) Z<|.yv (.fieldAddr Z Fx.field60_0) Z<|.yv (.loadM Z Fx.agg57 hm (k := 0) Z Z) Z<|.yv (.eql Z Z) Z<|.a Z Z<|.nt<|.cd Z (fun h34 => ?_) (fun h34 => ?_)
  ·try simp only [dt] at h34
   have h34 : op = 1 := UInt8.toNat_inj.1 (by show op.toNat = 1;omega)
   refine .sr<|.m Z Z<|.yv (.nilCheck Z) Z<|.yv (.fieldAddr Z Fx.field60_2) Z<|.yv (.loadM Z Fx.agg2 hm (k := 2) Z Z) Z<|.yv (.geq Z Z) Z<|.a Z Z<|.nt<|.rt<|.bR<|.tR<|?_
   refine Sx.ret1 (.inl rfl) rfl (.tmp rfl) fun W s => ⟨retB ?_,s.ext⟩
   first
    | (simp only [frmE];cases ho : okOp op <;> cases hs2 : (shapeOf op).nm <;> simp_all [Int.natCast_inj])
  try simp only [df] at h34
  have h34 : ¬ op = 1 := fun e => h34 (by rw [e];rfl)
  refine .sk<|.bN<|.tN<|.sr<|.m Z Z<|.yv (.nilCheck Z) Z<|.yv (.fieldAddr Z Fx.field60_2) Z<|.yv (.loadM Z Fx.agg2 hm (k := 2) Z Z) Z<|.yv (.eql Z Z) Z<|.a Z Z<|.nt<|.rt<|?_
  refine Sx.ret1 (.inl rfl) rfl (.tmp rfl) fun W s => ⟨retB ?_,s.ext⟩
  first
   | (simp only [frmE];cases ho : okOp op <;> cases hs2 : (shapeOf op).nm <;> simp_all [Int.natCast_inj])
 skip
 refine .rg<|.yv (.fieldAddr Z Fx.field180_1) Z<|.yv (.load Z Fx.agg4 (.head _) Z) Z<|.yv (.not Z) Z<|.m Z Z<|.b2 (fun h27 => ?_) (fun h27 => ?_)
 ·skip
  refine .gd Z Z<|.yv (.move Z) Z<|.gd Z Z<|.yv (.nilCheck Z) Z<|.gd Z Z<|.yv (.fieldAddr Z Fx.field60_1) Z<|.gd Z Z<|.yv (.loadM Z Fx.agg9 hm (k := 1) Z Z) Z<|.gd Z Z<|.yv (.neS Z Z) Z<|.yv (.pickT Z Z) Z<|.a Z Z<|.nt<|.cd Z (fun h13 => ?_) (fun h13 => ?_)
  ·skip
   refine .sr<|.a Z Z<|.nt<|.rt<|.bR<|.tR<|?_
   refine Sx.ret1 (.inl rfl) rfl (.tmp rfl) fun W s => ⟨retB ?_,s.ext⟩
   first
    | (simp only [frmE];cases ho : okOp op <;> cases hs2 : (shapeOf op).nm <;> simp_all [Int.natCast_inj])
  skip
  refine .sr<|.m Z Z<|.yv (.nilCheck Z) Z<|.yv (.fieldAddr Z Fx.field60_0) Z<|.yv (.loadM Z Fx.agg57 hm (k := 0) Z Z) Z<|.yv (.eql Z Z) Z<|.a Z Z<|.nt<|.cd Z (fun h34 => ?_) (fun h34 => ?_)
  ·try simp only [dt] at h34
   have h34 : op = 1 := UInt8.toNat_inj.1 (by show op.toNat = 1;omega)
   refine .sr<|.m Z Z<|.yv (.nilCheck Z) Z<|.yv (.fieldAddr Z Fx.field60_2) Z<|.yv (.loadM Z Fx.agg2 hm (k := 2) Z Z) Z<|.yv (.geq Z Z) Z<|.a Z Z<|.nt<|.rt<|.bR<|.tR<|?_
   refine Sx.ret1 (.inl rfl) rfl (.tmp rfl) fun W s => ⟨retB ?_,s.ext⟩
   first
    | (simp only [frmE];cases ho : okOp op <;> cases hs2 : (shapeOf op).nm <;> simp_all [Int.natCast_inj])
  try simp only [df] at h34
  have h34 : ¬ op = 1 := fun e => h34 (by rw [e];rfl)
  refine .sk<|.bN<|.tN<|.sr<|.m Z Z<|.yv (.nilCheck Z) Z<|.yv (.fieldAddr Z Fx.field60_2) Z<|.yv (.loadM Z Fx.agg2 hm (k := 2) Z Z) Z<|.yv (.eql Z Z) Z<|.a Z Z<|.nt<|.rt<|?_
  refine Sx.ret1 (.inl rfl) rfl (.tmp rfl) fun W s => ⟨retB ?_,s.ext⟩
  first
   | (simp only [frmE];cases ho : okOp op <;> cases hs2 : (shapeOf op).nm <;> simp_all [Int.natCast_inj])
 skip
 refine .gF Z Z Z Z<|.gF Z Z Z Z<|.gF Z Z Z Z<|.gF Z Z Z Z<|.gF Z Z Z Z<|.yv (.pickF Z Z) Z<|.a Z Z<|.nt<|.cF Z<|.sr<|.m Z Z<|.yv (.nilCheck Z) Z<|.yv (.fieldAddr Z Fx.field60_0) Z<|.yv (.loadM Z Fx.agg57 hm (k := 0) Z Z) Z<|.yv (.eql Z Z) Z<|.a Z Z<|.nt<|.cd Z (fun h34 => ?_) (fun h34 => ?_)
 ·try simp only [dt] at h34
  have h34 : op = 1 := UInt8.toNat_inj.1 (by show op.toNat = 1;omega)
  refine .sr<|.m Z Z<|.yv (.nilCheck Z) Z<|.yv (.fieldAddr Z Fx.field60_2) Z<|.yv (.loadM Z Fx.agg2 hm (k := 2) Z Z) Z<|.yv (.geq Z Z) Z<|.a Z Z<|.nt<|.rt<|.bR<|.tR<|?_
  refine Sx.ret1 (.inl rfl) rfl (.tmp rfl) fun W s => ⟨retB ?_,s.ext⟩
  first
   | (simp only [frmE];cases ho : okOp op <;> cases hs2 : (shapeOf op).nm <;> simp_all [Int.natCast_inj])
 try simp only [df] at h34
 have h34 : ¬ op = 1 := fun e => h34 (by rw [e];rfl)
 refine .sk<|.bN<|.tN<|.sr<|.m Z Z<|.yv (.nilCheck Z) Z<|.yv (.fieldAddr Z Fx.field60_2) Z<|.yv (.loadM Z Fx.agg2 hm (k := 2) Z Z) Z<|.yv (.eql Z Z) Z<|.a Z Z<|.nt<|.rt<|?_
 refine Sx.ret1 (.inl rfl) rfl (.tmp rfl) fun W s => ⟨retB ?_,s.ext⟩
 first
  | (simp only [frmE];cases ho : okOp op <;> cases hs2 : (shapeOf op).nm <;> simp_all [Int.natCast_inj])
set_option maxRecDepth 100000 in
theorem checkExpr_any (H : Hp) (G : Gl H) (e : Ex) (cs : List Value) (h : Rep H (dEx .u8 e) cs) (he : e.depth ≤ 1000000) (w : World) (hA : Agr H w) :
 Calls Tryz.prog 51 #[.agg cs.toArray] w fun r w' => r = .returned (.int .i64 (checkE e : Nat)) ∧ Ext w w' := by
 obtain ⟨op,nm,nn,args⟩ := e
 obtain ⟨p,c,rfl,hs,hnm⟩ := ex_open h
 refine Sx.enter (H := H) Tryz.func51 rfl Tryz.ntmps51 rfl hA ?_
 refine .sr<|.bx Z Z Z fun b1 => ?_
 refine Sx.freezeBox fun H1 u1 m1 => ?_
 refine .a Z Z<|.nt<|.sq<|.bk<|.sr<|.yv (.loadMW Z Fx.agg60 m1 Z) Z<|.yv (.call Fx.call87 Z (fun W s => exprDepth_any _ H1 _ W (h.up u1.up) he s.agr)) Z<|.yv (.gtr Z Z) Z<|.a Z Z<|.nt<|.cd Z (fun h3 => ?_) (fun h3 => ?_)
 ·try simp only [dt] at h3
  refine .sr<|.a Z Z<|.nt<|.rt<|.bR<|.tR<|?_
  refine Sx.ret1 (.inl rfl) rfl (.tmp rfl) fun W s => ⟨?_,s.ext⟩
  first
   | (rw [checkE,if_pos (by omega)];rfl)
   | (rw [checkE,if_neg (by omega),if_pos (by simpa using h7)];rfl)
   | (rw [checkE,if_neg (by omega),if_neg (by simpa using h7),if_pos (by simpa using h10)];rfl)
   | (rw [checkE,if_neg (by omega),if_neg (by simpa using h7),if_neg (by simpa using h10)];rfl)
 try simp only [df] at h3
 refine .sr<|.yv (.call Fx.call88 Z (fun W s => everyExpr_any 89 namE namedExpr_any H1 (G.up u1.up) _ _ b1 0 W (h.up u1.up) m1 s.agr)) Z<|.yv (.not Z) Z<|.a Z Z<|.nt<|.cd Z (fun h7 => ?_) (fun h7 => ?_)
 ·skip
  refine .sr<|.a Z Z<|.nt<|.rt<|.bR<|.tR<|?_
  refine Sx.ret1 (.inl rfl) rfl (.tmp rfl) fun W s => ⟨?_,s.ext⟩
  first
   | (rw [checkE,if_pos (by omega)];rfl)
   | (rw [checkE,if_neg (by omega),if_pos (by simpa using h7)];rfl)
   | (rw [checkE,if_neg (by omega),if_neg (by simpa using h7),if_pos (by simpa using h10)];rfl)
   | (rw [checkE,if_neg (by omega),if_neg (by simpa using h7),if_neg (by simpa using h10)];rfl)
 skip
 refine .sr<|.yv (.call Fx.call88 Z (fun W s => everyExpr_any 90 frmE formedExpr_any H1 (G.up u1.up) _ _ b1 0 W (h.up u1.up) m1 s.agr)) Z<|.yv (.not Z) Z<|.a Z Z<|.nt<|.cd Z (fun h10 => ?_) (fun h10 => ?_)
 ·skip
  refine .sr<|.a Z Z<|.nt<|.rt<|.bR<|.tR<|?_
  refine Sx.ret1 (.inl rfl) rfl (.tmp rfl) fun W s => ⟨?_,s.ext⟩
  first
   | (rw [checkE,if_pos (by omega)];rfl)
   | (rw [checkE,if_neg (by omega),if_pos (by simpa using h7)];rfl)
   | (rw [checkE,if_neg (by omega),if_neg (by simpa using h7),if_pos (by simpa using h10)];rfl)
   | (rw [checkE,if_neg (by omega),if_neg (by simpa using h7),if_neg (by simpa using h10)];rfl)
 skip
 refine .sk<|.bN<|.tN<|.sr<|.a Z Z<|.nt<|.rt<|?_
 refine Sx.ret1 (.inl rfl) rfl (.tmp rfl) fun W s => ⟨?_,s.ext⟩
 first
  | (rw [checkE,if_pos (by omega)];rfl)
  | (rw [checkE,if_neg (by omega),if_pos (by simpa using h7)];rfl)
  | (rw [checkE,if_neg (by omega),if_neg (by simpa using h7),if_pos (by simpa using h10)];rfl)
  | (rw [checkE,if_neg (by omega),if_neg (by simpa using h7),if_neg (by simpa using h10)];rfl)
set_option maxRecDepth 100000 in
theorem within_any (gf : FuncId) (q : Ex → Bool) (hg : ExFn gf q) (H : Hp) (G : Gl H) (kd : UInt8) (nm hd : Str) (ex : List Ex) (th el : List Sm) (cs : List Value) (b o : Nat) (w : World) (h : Rep H (dSm .u8 (.mk kd nm hd ex th el)) cs) (hm : MemAt H b o cs) (hA : Agr H w) :
 Calls Tryz.prog 100 #[.pointer (some ⟨b,o,none⟩),.func (.func gf) #[] #[]] w fun r w' => r = .returned (.bool (Ex.alls q ex)) ∧ Ext w w' := by
 obtain ⟨p,c,p1,c1,p2,c2,rfl,hs,hs1,hs2,hn1,hn2⟩ := sm_open h
 have hcap := hs.cap
 refine Sx.enter (H := H) Tryz.func100 rfl Tryz.ntmps100 rfl hA ?_
 refine .sr<|.a Z Z<|.nt<|.sq<|.sr<|.m Z Z<|.yv (.nilCheck Z) Z<|.yv (.fieldAddr Z Fx.field71_3) Z<|.yv (.loadM Z Fx.agg58 hm (k := 3) Z Z) Z<|.yv (.lenSl Fx.sl58 Z) Z<|.m Z Z<|.nt<|.bk<|.lp (X := Nat) [(0,_),(1,_),(10,_)] ⟨rfl,rfl,rfl,trivial⟩ [] (fun k => [(11,.int .i64 (k : Nat))]) (fun k => H) (fun k => []) (fun k => k ≤ ex.length ∧ Ex.alls q (ex.take k) = true) (fun k => ex.length - k) 0 (fun _ s => s) ⟨rfl,trivial⟩ ⟨by omega,rfl⟩ fun k hC => ?_
 obtain ⟨hk0,hal⟩ := hC
 refine .sr<|.yv (.lss Z Z) Z<|.nt<|.sq<|.cd Z (fun h12 => ?_) (fun h12 => ?_)
 ·try simp only [dt] at h12
  have hk : k < ex.length := by omega
  obtain ⟨b5,o5,c5,hp5,r5,l5,m5⟩ := hs.elem (map_at hk)
  cases hp5
  refine .sk<|.tN<|.sq<|.bk<|.sr<|.m Z Z<|.a Z Z<|.ns<|.m Z Z<|.yv (.nilCheck Z) Z<|.yv (.fieldAddr Z Fx.field71_3) Z<|.yv (.loadM Z Fx.agg58 hm (k := 3) Z Z) Z<|.m Z Z<|.yv (.indexSl Fx.sl58 Z Z Z (by omega) (q := o5 + k * 4) Z) Z<|.m Z Z<|.yv (.call Fx.call88 Z (fun W s => everyExpr_any gf q hg H G _ c5 b5 (o5 + k * 4) W r5 m5 s.agr)) Z<|.yv (.not Z) Z<|.nt<|.cd Z (fun h22 => ?_) (fun h22 => ?_)
  ·skip
   refine .sr<|.a Z Z<|.nt<|.rt<|.bR<|.tR<|.tR<|.bR<|.tR<|?_
   refine Sx.ret1 (.inl rfl) rfl (.tmp rfl) fun W s => ⟨retB ?_,s.ext⟩
   first
    | (rw [alls_bad hk (by simpa using h22)])
    | (rw [hal])
  skip
  exact .sk<|.bN<|.tN<|.rg<|.yv (.add Z Z (w6 (by omega))) Z<|.m Z Z<|.nt<|.ag (k + 1) ⟨rfl,trivial⟩ ⟨rfl,rfl,rfl,trivial⟩ (fun _ s => s) ⟨by omega,by rw [alls_succ hk,hal];simpa using h22⟩ (by omega)
 try simp only [df] at h12
 obtain rfl : k = ex.length := by omega
 rw [List.take_length] at hal
 refine .ex<|.tE<|.tE<|.bE<|.tN<|.sr<|.a Z Z<|.nt<|.rt<|?_
 refine Sx.ret1 (.inl rfl) rfl (.tmp rfl) fun W s => ⟨retB ?_,s.ext⟩
 first
  | (rw [alls_bad hk (by simpa using h22)])
  | (rw [hal])
def SmFn (gf : FuncId) (q : Sm → Bool) : Prop := callN Tryz.prog gf = true ∧ ∀ (H : Hp),Gl H → ∀ (e : Sm) (cs : List Value) (b o : Nat) (w : World),Rep H (dSm .u8 e) cs → MemAt H b o cs → okS1 e = true → Agr H w →
 Calls Tryz.prog gf #[.pointer (some ⟨b,o,none⟩)] w fun r w' => r = .returned (.bool (q e)) ∧ Ext w w'
set_option maxRecDepth 100000 in
theorem namedStmt_any : SmFn 60 namS := by
 refine ⟨Fx.call60,fun H G e cs b o w h hm hok hA => ?_⟩
 obtain ⟨kd,nm,hd,ex,th,el⟩ := e
 obtain ⟨p,c,p1,c1,p2,c2,rfl,hs,hs1,hs2,hn1,hn2⟩ := sm_open h
 have hcap := hs.cap
 have hcap1 := hs1.cap
 have hcap2 := hs2.cap
 refine Sx.enter (H := H) Tryz.func60 rfl Tryz.ntmps60 rfl hA ?_
 refine .sr<|.a Z Z<|.ns<|.m Z Z<|.yv (.nilCheck Z) Z<|.yv (.fieldAddr Z Fx.field71_0) Z<|.yv (.loadM Z Fx.agg67 hm (k := 0) Z Z) Z<|.yv (.call Fx.call99 Z (fun W s => form_any H G kd W s.agr)) Z<|.m Z Z<|.yv (.extract Z Z) Z<|.yv (.extract Z Z) Z<|.al Fx.zero192 Z fun b3 => .sV .head Z Z Fx.size192 Z (by simp [formC,Value.oneCell']) Z<|.a Z Z<|.nt<|.sq<|.sr<|.yv (.fieldAddr Z Fx.field192_0) Z<|.yv (.load Z Fx.agg4 (.head _) Z) Z<|.m Z Z<|.b2 (fun h15 => ?_) (fun h15 => ?_)
 ·skip
  refine .gd Z Z<|.yv (.move Z) Z<|.gd Z Z<|.yv (.nilCheck Z) Z<|.gd Z Z<|.yv (.fieldAddr Z Fx.field71_1) Z<|.gd Z Z<|.yv (.loadM Z Fx.agg9 hm (k := 1) Z Z) Z<|.gd Z Z<|.yv (.call Fx.call57 Z (fun W s => isName_any H G nm (by omega) W s.agr)) Z<|.gd Z Z<|.yv (.not Z) Z<|.yv (.pickT Z Z) Z<|.m Z Z<|.b2 (fun h23 => ?_) (fun h23 => ?_)
  ·skip
   refine .gF Z Z Z Z<|.gF Z Z Z Z<|.gF Z Z Z Z<|.gU Z Z Z<|.gU Z Z Z<|.gU Z Z Z<|.gU Z Z Z<|.gU Z Z Z<|.gU Z Z Z<|.gF Z Z Z Z<|.yv (.pickT Z Z) Z<|.nt<|.cT Z<|.sr<|.a Z Z<|.nt<|.rt<|.tR<|?_
   refine Sx.ret1 (.inl rfl) rfl (.tmp rfl) fun W s => ⟨retB ?_,s.ext⟩
   first
    | (simp only [namS];simp_all)
  skip
  refine .gd Z Z<|.yv (.fieldAddr Z Fx.field192_1) Z<|.gd Z Z<|.yv (.load Z Fx.agg4 (.head _) Z) Z<|.gd Z Z<|.yv (.move Z) Z<|.b2 (fun h26 => ?_) (fun h26 => ?_)
  ·skip
   refine .gd Z Z<|.yv (.move Z) Z<|.gd Z Z<|.yv (.nilCheck Z) Z<|.gd Z Z<|.yv (.fieldAddr Z Fx.field71_2) Z<|.gd Z Z<|.yv (.loadM Z Fx.agg9 hm (k := 2) Z Z) Z<|.gd Z Z<|.yv (.call Fx.call57 Z (fun W s => isName_any H G hd (by omega) W s.agr)) Z<|.gd Z Z<|.yv (.not Z) Z<|.gd Z Z<|.yv (.pickT Z Z) Z<|.yv (.pickF Z Z) Z<|.nt<|.cd Z (fun h34 => ?_) (fun h34 => ?_)
   ·skip
    refine .sr<|.a Z Z<|.nt<|.rt<|.tR<|?_
    refine Sx.ret1 (.inl rfl) rfl (.tmp rfl) fun W s => ⟨retB ?_,s.ext⟩
    first
     | (simp only [namS];simp_all)
   skip
   refine .sk<|.tN<|.sr<|.m Z Z<|.yv (.call Fx.call100 Z (fun W s => within_any 89 namE namedExpr_any H G _ _ _ _ _ _ _ b o W h hm s.agr)) Z<|.a Z Z<|.nt<|.rt<|?_
   refine Sx.ret1 (.inl rfl) rfl (.tmp rfl) fun W s => ⟨retB ?_,s.ext⟩
   first
    | (simp only [namS];simp_all)
  skip
  refine .gF Z Z Z Z<|.gF Z Z Z Z<|.gF Z Z Z Z<|.gF Z Z Z Z<|.gF Z Z Z Z<|.gF Z Z Z Z<|.gd Z Z<|.yv (.pickF Z Z) Z<|.yv (.pickF Z Z) Z<|.nt<|.cF Z<|.sk<|.tN<|.sr<|.m Z Z<|.yv (.call Fx.call100 Z (fun W s => within_any 89 namE namedExpr_any H G _ _ _ _ _ _ _ b o W h hm s.agr)) Z<|.a Z Z<|.nt<|.rt<|?_
  refine Sx.ret1 (.inl rfl) rfl (.tmp rfl) fun W s => ⟨retB ?_,s.ext⟩
  first
   | (simp only [namS];simp_all)
 skip
 refine .gF Z Z Z Z<|.gF Z Z Z Z<|.gF Z Z Z Z<|.gF Z Z Z Z<|.gF Z Z Z Z<|.gF Z Z Z Z<|.yv (.pickF Z Z) Z<|.m Z Z<|.gd Z Z<|.yv (.fieldAddr Z Fx.field192_1) Z<|.gd Z Z<|.yv (.load Z Fx.agg4 (.head _) Z) Z<|.gd Z Z<|.yv (.move Z) Z<|.b2 (fun h26 => ?_) (fun h26 => ?_)
 ·skip
  refine .gd Z Z<|.yv (.move Z) Z<|.gd Z Z<|.yv (.nilCheck Z) Z<|.gd Z Z<|.yv (.fieldAddr Z Fx.field71_2) Z<|.gd Z Z<|.yv (.loadM Z Fx.agg9 hm (k := 2) Z Z) Z<|.gd Z Z<|.yv (.call Fx.call57 Z (fun W s => isName_any H G hd (by omega) W s.agr)) Z<|.gd Z Z<|.yv (.not Z) Z<|.gd Z Z<|.yv (.pickT Z Z) Z<|.yv (.pickF Z Z) Z<|.nt<|.cd Z (fun h34 => ?_) (fun h34 => ?_)
  ·skip
   refine .sr<|.a Z Z<|.nt<|.rt<|.tR<|?_
   refine Sx.ret1 (.inl rfl) rfl (.tmp rfl) fun W s => ⟨retB ?_,s.ext⟩
   first
    | (simp only [namS];simp_all)
  skip
  refine .sk<|.tN<|.sr<|.m Z Z<|.yv (.call Fx.call100 Z (fun W s => within_any 89 namE namedExpr_any H G _ _ _ _ _ _ _ b o W h hm s.agr)) Z<|.a Z Z<|.nt<|.rt<|?_
  refine Sx.ret1 (.inl rfl) rfl (.tmp rfl) fun W s => ⟨retB ?_,s.ext⟩
  first
   | (simp only [namS];simp_all)
 skip
 refine .gF Z Z Z Z<|.gF Z Z Z Z<|.gF Z Z Z Z<|.gF Z Z Z Z<|.gF Z Z Z Z<|.gF Z Z Z Z<|.gd Z Z<|.yv (.pickF Z Z) Z<|.yv (.pickF Z Z) Z<|.nt<|.cF Z<|.sk<|.tN<|.sr<|.m Z Z<|.yv (.call Fx.call100 Z (fun W s => within_any 89 namE namedExpr_any H G _ _ _ _ _ _ _ b o W h hm s.agr)) Z<|.a Z Z<|.nt<|.rt<|?_
 refine Sx.ret1 (.inl rfl) rfl (.tmp rfl) fun W s => ⟨retB ?_,s.ext⟩
 first
  | (simp only [namS];simp_all)
set_option maxRecDepth 100000 in
theorem formedStmt_any : SmFn 63 frmS := by
 refine ⟨Fx.call63,fun H G e cs b o w h hm hok hA => ?_⟩
 obtain ⟨kd,nm,hd,ex,th,el⟩ := e
 obtain ⟨p,c,p1,c1,p2,c2,rfl,hs,hs1,hs2,hn1,hn2⟩ := sm_open h
 have hcap := hs.cap
 have hcap1 := hs1.cap
 have hcap2 := hs2.cap
 refine Sx.enter (H := H) Tryz.func63 rfl Tryz.ntmps63 rfl hA ?_
 refine .sr<|.a Z Z<|.ns<|.m Z Z<|.yv (.nilCheck Z) Z<|.yv (.fieldAddr Z Fx.field71_0) Z<|.yv (.loadM Z Fx.agg67 hm (k := 0) Z Z) Z<|.yv (.call Fx.call99 Z (fun W s => form_any H G kd W s.agr)) Z<|.m Z Z<|.yv (.extract Z Z) Z<|.yv (.extract Z Z) Z<|.al Fx.zero192 Z fun b3 => .sV .head Z Z Fx.size192 Z (by simp [formC,Value.oneCell']) Z<|.a Z Z<|.nt<|.sq<|.sr<|.m Z Z<|.yv (.nilCheck Z) Z<|.yv (.fieldAddr Z Fx.field71_3) Z<|.yv (.loadM Z Fx.agg58 hm (k := 3) Z Z) Z<|.yv (.lenSl Fx.sl58 Z) Z<|.a Z Z<|.nt<|.bk<|.cu (X := Bool) [(0,_),(3,_)] ⟨rfl,rfl,trivial⟩ (fun z => [(19,.bool z)]) (fun z => H) (fun z => [.box b3 (formC (formOf kd)) 192]) (fun z => z = (!okKd kd || decide ((ex.length : Int) < ((formOf kd).lo : Nat)) || decide (((formOf kd).hi : Nat) < (ex.length : Int)))) ?_ fun z hC => ?_
 ·
  refine .sr<|.m Z Z<|.yv (.not Z) Z<|.a Z Z<|.nt<|.cd Z (fun h19 => ?_) (fun h19 => ?_)
  ·skip
   exact .sk<|.tN<|.me _ ⟨rfl,trivial⟩ ⟨rfl,rfl,trivial⟩ (fun _ s => s) (by first | (simp_all;done) | (simp_all;omega) | (simp_all;intros;omega))
  skip
  refine .sr<|.m Z Z<|.yv (.fieldAddr Z Fx.field192_2) Z<|.yv (.load Z Fx.agg3 (.head _) Z) Z<|.yv (.lss Z Z) Z<|.a Z Z<|.nt<|.cd Z (fun h19 => ?_) (fun h19 => ?_)
  ·skip
   exact .sk<|.tN<|.me _ ⟨rfl,trivial⟩ ⟨rfl,rfl,trivial⟩ (fun _ s => s) (by first | (simp_all;done) | (simp_all;omega) | (simp_all;intros;omega))
  skip
  exact .rg<|.m Z Z<|.yv (.fieldAddr Z Fx.field192_3) Z<|.yv (.load Z Fx.agg3 (.head _) Z) Z<|.yv (.gtr Z Z) Z<|.a Z Z<|.nt<|.me _ ⟨rfl,trivial⟩ ⟨rfl,rfl,trivial⟩ (fun _ s => s) (by first | (simp_all;done) | (simp_all;omega) | (simp_all;intros;omega))
 have e1 := hC
 refine .cd Z (fun h19 => ?_) (fun h19 => ?_)
 ·skip
  refine .sr<|.a Z Z<|.nt<|.rt<|.bR<|.tR<|?_
  refine Sx.ret1 (.inl rfl) rfl (.tmp rfl) fun W s => ⟨retB ?_,s.ext⟩
  first
   | (rw [frmS_eq,← e1,← e2,← e3,h19,h30,h51];simp)
   | (rw [frmS_eq,← e1,← e2,← e3,h19,h30,h51];rfl)
   | (rw [frmS_eq,← e1,← e2,h19,h30];rfl)
   | (rw [frmS_eq,← e1,h19];rfl)
 skip
 refine .cu (X := Bool) [(0,_),(3,_)] ⟨rfl,rfl,trivial⟩ (fun z => [(30,.bool z)]) (fun z => H) (fun z => [.box b3 (formC (formOf kd)) 192]) (fun z => z = ((!(formOf kd).nm && decide (¬ nm = [])) || (!(formOf kd).hd && decide (¬ hd = [])))) ?_ fun z hC => ?_
 ·
  refine .sr<|.yv (.fieldAddr Z Fx.field192_0) Z<|.yv (.load Z Fx.agg4 (.head _) Z) Z<|.yv (.not Z) Z<|.m Z Z<|.b2 (fun h34 => ?_) (fun h34 => ?_)
  ·skip
   refine .gd Z Z<|.yv (.move Z) Z<|.gd Z Z<|.yv (.nilCheck Z) Z<|.gd Z Z<|.yv (.fieldAddr Z Fx.field71_1) Z<|.gd Z Z<|.yv (.loadM Z Fx.agg9 hm (k := 1) Z Z) Z<|.gd Z Z<|.yv (.neS Z Z) Z<|.yv (.pickT Z Z) Z<|.a Z Z<|.nt<|.cd Z (fun h30 => ?_) (fun h30 => ?_)
   ·skip
    exact .sk<|.tN<|.me _ ⟨rfl,trivial⟩ ⟨rfl,rfl,trivial⟩ (fun _ s => s) (by first | (simp_all;done) | (simp_all;omega) | (simp_all;intros;omega))
   skip
   refine .rg<|.yv (.fieldAddr Z Fx.field192_1) Z<|.yv (.load Z Fx.agg4 (.head _) Z) Z<|.yv (.not Z) Z<|.m Z Z<|.b2 (fun h44 => ?_) (fun h44 => ?_)
   ·skip
    exact .gd Z Z<|.yv (.move Z) Z<|.gd Z Z<|.yv (.nilCheck Z) Z<|.gd Z Z<|.yv (.fieldAddr Z Fx.field71_2) Z<|.gd Z Z<|.yv (.loadM Z Fx.agg9 hm (k := 2) Z Z) Z<|.gd Z Z<|.yv (.neS Z Z) Z<|.yv (.pickT Z Z) Z<|.a Z Z<|.nt<|.me _ ⟨rfl,trivial⟩ ⟨rfl,rfl,trivial⟩ (fun _ s => s) (by first | (simp_all;done) | (simp_all;omega) | (simp_all;intros;omega))
   skip
   exact .gF Z Z Z Z<|.gF Z Z Z Z<|.gF Z Z Z Z<|.gF Z Z Z Z<|.gF Z Z Z Z<|.yv (.pickF Z Z) Z<|.a Z Z<|.nt<|.me _ ⟨rfl,trivial⟩ ⟨rfl,rfl,trivial⟩ (fun _ s => s) (by first | (simp_all;done) | (simp_all;omega) | (simp_all;intros;omega))
  skip
  refine .gF Z Z Z Z<|.gF Z Z Z Z<|.gF Z Z Z Z<|.gF Z Z Z Z<|.gF Z Z Z Z<|.yv (.pickF Z Z) Z<|.a Z Z<|.nt<|.cF Z<|.rg<|.yv (.fieldAddr Z Fx.field192_1) Z<|.yv (.load Z Fx.agg4 (.head _) Z) Z<|.yv (.not Z) Z<|.m Z Z<|.b2 (fun h44 => ?_) (fun h44 => ?_)
  ·skip
   exact .gd Z Z<|.yv (.move Z) Z<|.gd Z Z<|.yv (.nilCheck Z) Z<|.gd Z Z<|.yv (.fieldAddr Z Fx.field71_2) Z<|.gd Z Z<|.yv (.loadM Z Fx.agg9 hm (k := 2) Z Z) Z<|.gd Z Z<|.yv (.neS Z Z) Z<|.yv (.pickT Z Z) Z<|.a Z Z<|.nt<|.me _ ⟨rfl,trivial⟩ ⟨rfl,rfl,trivial⟩ (fun _ s => s) (by first | (simp_all;done) | (simp_all;omega) | (simp_all;intros;omega))
  skip
  exact .gF Z Z Z Z<|.gF Z Z Z Z<|.gF Z Z Z Z<|.gF Z Z Z Z<|.gF Z Z Z Z<|.yv (.pickF Z Z) Z<|.a Z Z<|.nt<|.me _ ⟨rfl,trivial⟩ ⟨rfl,rfl,trivial⟩ (fun _ s => s) (by first | (simp_all;done) | (simp_all;omega) | (simp_all;intros;omega))
 have e2 := hC
 refine .cd Z (fun h30 => ?_) (fun h30 => ?_)
 ·skip
  refine .sr<|.a Z Z<|.nt<|.rt<|.bR<|.tR<|?_
  refine Sx.ret1 (.inl rfl) rfl (.tmp rfl) fun W s => ⟨retB ?_,s.ext⟩
  first
   | (rw [frmS_eq,← e1,← e2,← e3,h19,h30,h51];simp)
   | (rw [frmS_eq,← e1,← e2,← e3,h19,h30,h51];rfl)
   | (rw [frmS_eq,← e1,← e2,h19,h30];rfl)
   | (rw [frmS_eq,← e1,h19];rfl)
 skip
 refine .cu (X := Bool) [(0,_)] ⟨rfl,trivial⟩ (fun z => [(51,.bool z)]) (fun z => H) (fun z => [.box b3 (formC (formOf kd)) 192]) (fun z => z = ((!(formOf kd).th && decide ((0 : Int) < th.length)) || (!(formOf kd).el && decide ((0 : Int) < el.length)))) ?_ fun z hC => ?_
 ·
  refine .sr<|.yv (.fieldAddr Z Fx.field192_4) Z<|.yv (.load Z Fx.agg4 (.head _) Z) Z<|.yv (.not Z) Z<|.m Z Z<|.b2 (fun h55 => ?_) (fun h55 => ?_)
  ·skip
   refine .gd Z Z<|.yv (.move Z) Z<|.gd Z Z<|.yv (.nilCheck Z) Z<|.gd Z Z<|.yv (.fieldAddr Z Fx.field71_4) Z<|.gd Z Z<|.yv (.loadM Z Fx.agg69 hm (k := 4) Z Z) Z<|.gd Z Z<|.yv (.lenSl Fx.sl69 Z) Z<|.gd Z Z<|.yv (.gtr Z Z) Z<|.yv (.pickT Z Z) Z<|.a Z Z<|.nt<|.cd Z (fun h51 => ?_) (fun h51 => ?_)
   ·skip
    exact .sk<|.tN<|.me _ ⟨rfl,trivial⟩ ⟨rfl,trivial⟩ (fun _ s => s) (by first | (simp_all;done) | (simp_all;omega) | (simp_all;intros;omega))
   skip
   refine .rg<|.yv (.fieldAddr Z Fx.field192_5) Z<|.yv (.load Z Fx.agg4 (.head _) Z) Z<|.yv (.not Z) Z<|.m Z Z<|.b2 (fun h66 => ?_) (fun h66 => ?_)
   ·skip
    exact .gd Z Z<|.yv (.move Z) Z<|.gd Z Z<|.yv (.nilCheck Z) Z<|.gd Z Z<|.yv (.fieldAddr Z Fx.field71_5) Z<|.gd Z Z<|.yv (.loadM Z Fx.agg69 hm (k := 5) Z Z) Z<|.gd Z Z<|.yv (.lenSl Fx.sl69 Z) Z<|.gd Z Z<|.yv (.gtr Z Z) Z<|.yv (.pickT Z Z) Z<|.a Z Z<|.nt<|.me _ ⟨rfl,trivial⟩ ⟨rfl,trivial⟩ (fun _ s => s) (by first | (simp_all;done) | (simp_all;omega) | (simp_all;intros;omega))
   skip
   exact .gF Z Z Z Z<|.gF Z Z Z Z<|.gF Z Z Z Z<|.gF Z Z Z Z<|.gF Z Z Z Z<|.gF Z Z Z Z<|.yv (.pickF Z Z) Z<|.a Z Z<|.nt<|.me _ ⟨rfl,trivial⟩ ⟨rfl,trivial⟩ (fun _ s => s) (by first | (simp_all;done) | (simp_all;omega) | (simp_all;intros;omega))
  skip
  refine .gF Z Z Z Z<|.gF Z Z Z Z<|.gF Z Z Z Z<|.gF Z Z Z Z<|.gF Z Z Z Z<|.gF Z Z Z Z<|.yv (.pickF Z Z) Z<|.a Z Z<|.nt<|.cF Z<|.rg<|.yv (.fieldAddr Z Fx.field192_5) Z<|.yv (.load Z Fx.agg4 (.head _) Z) Z<|.yv (.not Z) Z<|.m Z Z<|.b2 (fun h66 => ?_) (fun h66 => ?_)
  ·skip
   exact .gd Z Z<|.yv (.move Z) Z<|.gd Z Z<|.yv (.nilCheck Z) Z<|.gd Z Z<|.yv (.fieldAddr Z Fx.field71_5) Z<|.gd Z Z<|.yv (.loadM Z Fx.agg69 hm (k := 5) Z Z) Z<|.gd Z Z<|.yv (.lenSl Fx.sl69 Z) Z<|.gd Z Z<|.yv (.gtr Z Z) Z<|.yv (.pickT Z Z) Z<|.a Z Z<|.nt<|.me _ ⟨rfl,trivial⟩ ⟨rfl,trivial⟩ (fun _ s => s) (by first | (simp_all;done) | (simp_all;omega) | (simp_all;intros;omega))
  skip
  exact .gF Z Z Z Z<|.gF Z Z Z Z<|.gF Z Z Z Z<|.gF Z Z Z Z<|.gF Z Z Z Z<|.gF Z Z Z Z<|.yv (.pickF Z Z) Z<|.a Z Z<|.nt<|.me _ ⟨rfl,trivial⟩ ⟨rfl,trivial⟩ (fun _ s => s) (by first | (simp_all;done) | (simp_all;omega) | (simp_all;intros;omega))
 have e3 := hC
 refine .cd Z (fun h51 => ?_) (fun h51 => ?_)
 ·skip
  refine .sr<|.a Z Z<|.nt<|.rt<|.bR<|.tR<|?_
  refine Sx.ret1 (.inl rfl) rfl (.tmp rfl) fun W s => ⟨retB ?_,s.ext⟩
  first
   | (rw [frmS_eq,← e1,← e2,← e3,h19,h30,h51];simp)
   | (rw [frmS_eq,← e1,← e2,← e3,h19,h30,h51];rfl)
   | (rw [frmS_eq,← e1,← e2,h19,h30];rfl)
   | (rw [frmS_eq,← e1,h19];rfl)
 skip
 refine .sk<|.bN<|.tN<|.sr<|.m Z Z<|.yv (.call Fx.call100 Z (fun W s => within_any 90 frmE formedExpr_any H G _ _ _ _ _ _ _ b o W h hm s.agr)) Z<|.a Z Z<|.nt<|.rt<|?_
 refine Sx.ret1 (.inl rfl) rfl (.tmp rfl) fun W s => ⟨retB ?_,s.ext⟩
 first
  | (rw [frmS_eq,← e1,← e2,← e3,h19,h30,h51];simp)
  | (rw [frmS_eq,← e1,← e2,← e3,h19,h30,h51];rfl)
  | (rw [frmS_eq,← e1,← e2,h19,h30];rfl)
  | (rw [frmS_eq,← e1,h19];rfl)
set_option maxRecDepth 100000 in
theorem every_any (gf : FuncId) (q : Sm → Bool) (hg : SmFn gf q) (H : Hp) (G : Gl H) : ∀ (l : List Sm) (p : Option Addr) (n c : Nat) (w : World),Rep H (.seq 6 (l.map (dSm .u8))) [.slice p n c] → Sm.alls okS1 l = true → Agr H w →
 Calls Tryz.prog 59 #[.slice p n c,.func (.func gf) #[] #[]] w fun r w' => r = .returned (.bool (Sm.alls q l)) ∧ Ext w w' := by
 refine Sm.lists fun l ih => ?_
 intro p n c w hs hok hA
 obtain rfl : n = l.length := by have := hs.len.1;simpa using this
 have hcap := hs.cap
 refine Sx.enter (H := H) Tryz.func59 rfl Tryz.ntmps59 rfl hA ?_
 refine .sr<|.a Z Z<|.nt<|.sq<|.sr<|.m Z Z<|.yv (.lenSl Fx.sl69 Z) Z<|.m Z Z<|.nt<|.bk<|.lp (X := Nat) [(0,_),(1,_),(8,_)] ⟨rfl,rfl,rfl,trivial⟩ [] (fun k => [(9,.int .i64 (k : Nat))]) (fun k => H) (fun k => []) (fun k => k ≤ l.length ∧ Sm.alls q (l.take k) = true) (fun k => l.length - k) 0 (fun _ s => s) ⟨rfl,trivial⟩ ⟨by omega,rfl⟩ fun k hC => ?_
 obtain ⟨hk0,hal⟩ := hC
 refine .sr<|.yv (.lss Z Z) Z<|.nt<|.sq<|.cd Z (fun h10 => ?_) (fun h10 => ?_)
 ·try simp only [dt] at h10
  have hk : k < l.length := by omega
  obtain ⟨bE,oE,cE,hpE,rE,lE,mE⟩ := hs.elem (map_at hk)
  cases hpE
  have hi := ih _ (List.getElem_mem hk)
  have hf := salls_succ (q := q) hk
  have hbad := fun h => salls_bad (q := q) hk h
  have hok1 := salls_at hk hok
  generalize hx : l[k] = x at rE hi hf hbad hok1
  obtain ⟨kd,nm,hd,ex,th,el⟩ := x
  obtain ⟨p1,c1,p2,c2,p3,c3,rfl,hs1,hs2,hs3,hn1,hn2⟩ := sm_open rE
  simp only [Sm.th,Sm.el] at hi
  simp only [sall_mk,Bool.and_eq_true] at hok1
  refine .sk<|.tN<|.sq<|.bk<|.sr<|.m Z Z<|.a Z Z<|.ns<|.m Z Z<|.m Z Z<|.yv (.indexSl Fx.sl69 Z Z Z (by omega) (q := oE + k * 6) Z) Z<|.a Z Z<|.ns<|.m Z Z<|.m Z Z<|.yv (.callV (fi := []) (ca := []) Z hg.1 Z (fun W s => hg.2 H G _ _ bE (oE + k * 6) W rE mE hok1.1.1 s.agr)) Z<|.yv (.not Z) Z<|.m Z Z<|.b2 (fun h19 => ?_) (fun h19 => ?_)
  ·skip
   refine .gF Z Z Z Z<|.gF Z Z Z Z<|.gF Z Z Z Z<|.gF Z Z Z Z<|.gF Z Z Z Z<|.gF Z Z Z Z<|.gF Z Z Z Z<|.yv (.pickT Z Z) Z<|.m Z Z<|.gF Z Z Z Z<|.gF Z Z Z Z<|.gF Z Z Z Z<|.gF Z Z Z Z<|.gF Z Z Z Z<|.gF Z Z Z Z<|.gF Z Z Z Z<|.yv (.pickT Z Z) Z<|.nt<|.cT Z<|.sr<|.a Z Z<|.nt<|.rt<|.bR<|.tR<|.tR<|.bR<|.tR<|?_
   refine Sx.ret1 (.inl rfl) rfl (.tmp rfl) fun W s => ⟨retB ?_,s.ext⟩
   first
    | (rw [hal])
    | (rw [hbad (by rw [sall_mk];simp_all)])
  skip
  refine .gd Z Z<|.yv (.move Z) Z<|.gd Z Z<|.yv (.nilCheck Z) Z<|.gd Z Z<|.yv (.fieldAddr Z Fx.field71_4) Z<|.gd Z Z<|.yv (.loadM Z Fx.agg69 mE (k := 4) Z Z) Z<|.gd Z Z<|.yv (.move Z) Z<|.gd Z Z<|.yv (.call Fx.call59 Z (fun W s => hi.1 _ _ _ W hs2 hok1.1.2 s.agr)) Z<|.gd Z Z<|.yv (.not Z) Z<|.yv (.pickF Z Z) Z<|.m Z Z<|.b2 (fun h28 => ?_) (fun h28 => ?_)
  ·skip
   refine .gF Z Z Z Z<|.gF Z Z Z Z<|.gF Z Z Z Z<|.gF Z Z Z Z<|.gF Z Z Z Z<|.gF Z Z Z Z<|.gF Z Z Z Z<|.yv (.pickT Z Z) Z<|.nt<|.cT Z<|.sr<|.a Z Z<|.nt<|.rt<|.bR<|.tR<|.tR<|.bR<|.tR<|?_
   refine Sx.ret1 (.inl rfl) rfl (.tmp rfl) fun W s => ⟨retB ?_,s.ext⟩
   first
    | (rw [hal])
    | (rw [hbad (by rw [sall_mk];simp_all)])
  skip
  refine .gd Z Z<|.yv (.move Z) Z<|.gd Z Z<|.yv (.nilCheck Z) Z<|.gd Z Z<|.yv (.fieldAddr Z Fx.field71_5) Z<|.gd Z Z<|.yv (.loadM Z Fx.agg69 mE (k := 5) Z Z) Z<|.gd Z Z<|.yv (.move Z) Z<|.gd Z Z<|.yv (.call Fx.call59 Z (fun W s => hi.2 _ _ _ W hs3 hok1.2 s.agr)) Z<|.gd Z Z<|.yv (.not Z) Z<|.yv (.pickF Z Z) Z<|.nt<|.cd Z (fun h36 => ?_) (fun h36 => ?_)
  ·skip
   refine .sr<|.a Z Z<|.nt<|.rt<|.bR<|.tR<|.tR<|.bR<|.tR<|?_
   refine Sx.ret1 (.inl rfl) rfl (.tmp rfl) fun W s => ⟨retB ?_,s.ext⟩
   first
    | (rw [hal])
    | (rw [hbad (by rw [sall_mk];simp_all)])
  skip
  exact .sk<|.bN<|.tN<|.rg<|.yv (.add Z Z (w6 (by omega))) Z<|.m Z Z<|.nt<|.ag (k + 1) ⟨rfl,trivial⟩ ⟨rfl,rfl,rfl,trivial⟩ (fun _ s => s) ⟨by omega,by rw [hf,hal,sall_mk];simp_all⟩ (by omega)
 try simp only [df] at h10
 obtain rfl : k = l.length := by omega
 rw [List.take_length] at hal
 refine .ex<|.tE<|.tE<|.bE<|.tN<|.sr<|.a Z Z<|.nt<|.rt<|?_
 refine Sx.ret1 (.inl rfl) rfl (.tmp rfl) fun W s => ⟨retB ?_,s.ext⟩
 first
  | (rw [hal])
  | (rw [hbad (by rw [sall_mk];simp_all)])
set_option maxRecDepth 100000 in
theorem statements_any (H : Hp) : ∀ (l : List Sm) (p : Option Addr) (n c : Nat) (w : World),Rep H (.seq 6 (l.map (dSm .u8))) [.slice p n c] → Sm.counts l ≤ 1000000 → Agr H w →
 Calls Tryz.prog 95 #[.slice p n c] w fun r w' => r = .returned (.int .i64 (Sm.counts l : Nat)) ∧ Ext w w' := by
 refine Sm.lists fun l ih => ?_
 intro p n c w hs hb hA
 obtain rfl : n = l.length := by have := hs.len.1;simpa using this
 have hcap := hs.cap
 have hl0 := scounts_len l
 refine Sx.enter (H := H) Tryz.func95 rfl Tryz.ntmps95 rfl hA ?_
 refine .sr<|.a Z Z<|.ns<|.m Z Z<|.yv (.lenSl Fx.sl69 Z) Z<|.a Z Z<|.nt<|.sq<|.sr<|.m Z Z<|.yv (.lenSl Fx.sl69 Z) Z<|.m Z Z<|.nt<|.bk<|.lp (X := Nat) [(0,_),(8,_)] ⟨rfl,rfl,trivial⟩ [] (fun k => [(3,.int .i64 ((l.length + (Sm.counts (l.take k) - k) : Nat) : Int)),(9,.int .i64 (k : Nat))]) (fun k => H) (fun k => []) (fun k => k ≤ l.length) (fun k => l.length - k) 0 (fun _ s => s) ⟨rfl,rfl,trivial⟩ (by omega) fun k hC => ?_
 refine .sr<|.yv (.lss Z Z) Z<|.nt<|.sq<|.cd Z (fun h10 => ?_) (fun h10 => ?_)
 ·try simp only [dt] at h10
  have hk : k < l.length := by omega
  obtain ⟨bE,oE,cE,hpE,rE,lE,mE⟩ := hs.elem (map_at hk)
  cases hpE
  have hi := ih _ (List.getElem_mem hk)
  have hf := scounts_succ hk
  have hle := scounts_take l (k + 1)
  have hlk := scounts_len (l.take k)
  rw [List.length_take,Nat.min_eq_left (by omega)] at hlk
  generalize hx : l[k] = x at rE hi hf
  obtain ⟨kd,nm,hd,ex,th,el⟩ := x
  obtain ⟨p1,c1,p2,c2,p3,c3,rfl,hs1,hs2,hs3,hn1,hn2⟩ := sm_open rE
  simp only [Sm.th,Sm.el] at hi
  rw [scount_mk] at hf
  have e1 : th.length ≤ Sm.counts th := scounts_len th
  exact .sk<|.tN<|.sq<|.bk<|.sr<|.m Z Z<|.a Z Z<|.nt<|.fl (trip := [(_,_,_),(_,_,_),(_,_,_),(_,_,_),(_,_,_),(_,_,_),(_,_,_),(_,_,_),(_,_,_),(_,_,_),(_,_,_),(_,_,_),(_,_,_),(_,_,_),(_,_,_)]) 15 [(0,0),(1,0),(2,0),(3,0),(4,0),(5,0),(6,0),(7,0),(8,0),(9,0),(10,0),(11,0),(12,0),(13,0),(14,0)] (by kernel_rfl) (by kernel_rfl) Z<|.m Z Z<|.m Z Z<|.m Z Z<|.yv (.indexSl Fx.sl69 Z Z Z (by omega) (q := oE + k * 6) Z) Z<|.yv (.fieldAddr Z Fx.field71_4) Z<|.yv (.loadM Z Fx.agg69 mE (k := 4) Z Z) Z<|.yv (.call Fx.call95 Z (fun W s => hi.1 _ _ _ W hs2 (by omega) s.agr)) Z<|.m Z Z<|.m Z Z<|.yv (.indexSl Fx.sl69 Z Z Z (by omega) (q := oE + k * 6) Z) Z<|.yv (.fieldAddr Z Fx.field71_5) Z<|.yv (.loadM Z Fx.agg69 mE (k := 5) Z Z) Z<|.yv (.call Fx.call95 Z (fun W s => hi.2 _ _ _ W hs3 (by omega) s.agr)) Z<|.yv (.add Z Z (c := ((Sm.counts th + Sm.counts el : Nat) : Int)) ((w6 (by omega)).trans (by omega))) Z<|.yv (.add Z Z (c := ((l.length + (Sm.counts (l.take (k + 1)) - (k + 1)) : Nat) : Int)) ((w6 (by omega)).trans (by omega))) Z<|.fn (tl := [_]) Z<|.a Z Z<|.nl<|.bN<|.tN<|.rg<|.yv (.add Z Z (w6 (by omega))) Z<|.m Z Z<|.nt<|.ag (k + 1) ⟨rfl,rfl,trivial⟩ ⟨rfl,rfl,trivial⟩ (fun _ s => s) (by omega) (by omega)
 try simp only [df] at h10
 obtain rfl : k = l.length := by omega
 rw [List.take_length]
 have hlk := scounts_len l
 refine .ex<|.tE<|.tE<|.bE<|.tN<|.sr<|.m Z Z<|.a Z Z<|.nt<|.rt<|?_
 refine Sx.ret1 (.inl rfl) rfl (.tmp rfl) fun W s => ⟨?_,s.ext⟩
 first
  | (rw [show l.length + (Sm.counts l - l.length) = Sm.counts l by omega])
set_option maxRecDepth 100000 in
theorem rstatements_any (H : Hp) : ∀ (l : List Sm) (p : Option Addr) (n c : Nat) (w : World),Rep H (.seq 6 (l.map (dSm .i64))) [.slice p n c] → Sm.counts l ≤ 1000000 → Agr H w →
 Calls Tryz.prog 65 #[.slice p n c] w fun r w' => r = .returned (.int .i64 (Sm.counts l : Nat)) ∧ Ext w w' := by
 refine Sm.lists fun l ih => ?_
 intro p n c w hs hb hA
 obtain rfl : n = l.length := by have := hs.len.1;simpa using this
 have hcap := hs.cap
 have hl0 := scounts_len l
 refine Sx.enter (H := H) Tryz.func65 rfl Tryz.ntmps65 rfl hA ?_
 refine .sr<|.a Z Z<|.ns<|.m Z Z<|.yv (.lenSl Fx.sl98 Z) Z<|.a Z Z<|.nt<|.sq<|.sr<|.m Z Z<|.yv (.lenSl Fx.sl98 Z) Z<|.m Z Z<|.nt<|.bk<|.lp (X := Nat) [(8,_),(9,_)] ⟨rfl,rfl,trivial⟩ [] (fun k => [(3,.int .i64 ((l.length + (Sm.counts (l.take k) - k) : Nat) : Int)),(10,.int .i64 (k : Nat))]) (fun k => H) (fun k => []) (fun k => k ≤ l.length) (fun k => l.length - k) 0 (fun _ s => s) ⟨rfl,rfl,trivial⟩ (by omega) fun k hC => ?_
 refine .sr<|.yv (.lss Z Z) Z<|.nt<|.sq<|.cd Z (fun h11 => ?_) (fun h11 => ?_)
 ·try simp only [dt] at h11
  have hk : k < l.length := by omega
  obtain ⟨bE,oE,cE,hpE,rE,lE,mE⟩ := hs.elem (map_at hk)
  cases hpE
  have hi := ih _ (List.getElem_mem hk)
  have hf := scounts_succ hk
  have hle := scounts_take l (k + 1)
  have hlk := scounts_len (l.take k)
  rw [List.length_take,Nat.min_eq_left (by omega)] at hlk
  generalize hx : l[k] = x at rE hi hf
  obtain ⟨kd,nm,hd,ex,th,el⟩ := x
  obtain ⟨p1,c1,p2,c2,p3,c3,rfl,hs1,hs2,hs3,hn1,hn2⟩ := sm_open rE
  simp only [Sm.th,Sm.el] at hi
  rw [scount_mk] at hf
  have e1 : th.length ≤ Sm.counts th := scounts_len th
  exact .sk<|.tN<|.sq<|.bk<|.sr<|.yv (.indexSl Fx.sl98 Z Z Z (by omega) (q := oE + k * 6) Z) Z<|.yv (.loadMW Z Fx.agg150 mE Z) Z<|.al Fx.zero150 Z fun b5 => .sW .head Z Z Fx.size150 (by simp [Value.oneCell',strV]) Z<|.nt<|.fl (trip := [(_,_,_),(_,_,_),(_,_,_),(_,_,_),(_,_,_),(_,_,_),(_,_,_),(_,_,_),(_,_,_)]) 9 [(0,0),(1,0),(2,0),(3,0),(4,0),(5,0),(6,0),(7,0),(8,0)] (by kernel_rfl) (by kernel_rfl) Z<|.m Z Z<|.yv (.fieldAddr Z Fx.field150_4) Z<|.yv (.load Z Fx.agg98 (.head _) Z) Z<|.yv (.call Fx.call65 Z (fun W s => hi.1 _ _ _ W hs2 (by omega) s.agr)) Z<|.yv (.fieldAddr Z Fx.field150_5) Z<|.yv (.load Z Fx.agg98 (.head _) Z) Z<|.yv (.call Fx.call65 Z (fun W s => hi.2 _ _ _ W hs3 (by omega) s.agr)) Z<|.yv (.add Z Z (c := ((Sm.counts th + Sm.counts el : Nat) : Int)) ((w6 (by omega)).trans (by omega))) Z<|.yv (.add Z Z (c := ((l.length + (Sm.counts (l.take (k + 1)) - (k + 1)) : Nat) : Int)) ((w6 (by omega)).trans (by omega))) Z<|.fn (tl := [_]) Z<|.a Z Z<|.nl<|.bN<|.tN<|.rg<|.yv (.add Z Z (w6 (by omega))) Z<|.m Z Z<|.nt<|.ag (k + 1) ⟨rfl,rfl,trivial⟩ ⟨rfl,rfl,trivial⟩ (fun _ s => s.pick [] [] Z Z) (by omega) (by omega)
 try simp only [df] at h11
 obtain rfl : k = l.length := by omega
 rw [List.take_length]
 have hlk := scounts_len l
 refine .ex<|.tE<|.tE<|.bE<|.tN<|.sr<|.m Z Z<|.a Z Z<|.nt<|.rt<|?_
 refine Sx.ret1 (.inl rfl) rfl (.tmp rfl) fun W s => ⟨?_,s.ext⟩
 first
  | (rw [show l.length + (Sm.counts l - l.length) = Sm.counts l by omega])
set_option maxRecDepth 100000 in
theorem sdepth_any (H : Hp) : ∀ (l : List Sm) (p : Option Addr) (n c : Nat) (w : World),Rep H (.seq 6 (l.map (dSm .u8))) [.slice p n c] → Sm.deeps l ≤ 1000000 → Agr H w →
 Calls Tryz.prog 96 #[.slice p n c] w fun r w' => r = .returned (.int .i64 (Sm.deeps l : Nat)) ∧ Ext w w' := by
 refine Sm.lists fun l ih => ?_
 intro p n c w hs hb hA
 obtain rfl : n = l.length := by have := hs.len.1;simpa using this
 have hcap := hs.cap
 refine Sx.enter (H := H) Tryz.func96 rfl Tryz.ntmps96 rfl hA ?_
 refine .sr<|.a Z Z<|.nt<|.sq<|.sr<|.m Z Z<|.yv (.lenSl Fx.sl69 Z) Z<|.yv (.eql Z Z) Z<|.nt<|.cd Z (fun h7 => ?_) (fun h7 => ?_)
 ·try simp only [dt] at h7
  obtain rfl : l = [] := List.eq_nil_of_length_eq_zero (by omega)
  refine .sr<|.a Z Z<|.nt<|.rt<|.tR<|?_
  refine Sx.ret1 (.inl rfl) rfl (.tmp rfl) fun W s => ⟨?_,s.ext⟩
  first
   | (rfl)
   | (rw [show ((Sm.deeps l - 1 : Nat) : Int) + 1 = (Sm.deeps l : Nat) by
    have : 0 < Sm.deeps l := by
     match l,h7 with
     | ⟨kd,nm,hd,ex,th,el⟩ :: r,_ => simp only [Sm.deeps,sdepth_mk];omega
    omega])
 try simp only [df] at h7
 refine .sk<|.tN<|.sr<|.a Z Z<|.nt<|.sq<|.sr<|.m Z Z<|.yv (.lenSl Fx.sl69 Z) Z<|.m Z Z<|.nt<|.bk<|.lp (X := Nat) [(0,_),(9,_)] ⟨rfl,rfl,trivial⟩ [] (fun k => [(3,.int .i64 ((Sm.deeps (l.take k) - 1 : Nat) : Int)),(10,.int .i64 (k : Nat))]) (fun k => H) (fun k => []) (fun k => k ≤ l.length) (fun k => l.length - k) 0 (fun _ s => s) ⟨rfl,rfl,trivial⟩ (by omega) fun k hC => ?_
 refine .sr<|.yv (.lss Z Z) Z<|.nt<|.sq<|.cd Z (fun h11 => ?_) (fun h11 => ?_)
 ·try simp only [dt] at h11
  have hk : k < l.length := by omega
  obtain ⟨bE,oE,cE,hpE,rE,lE,mE⟩ := hs.elem (map_at hk)
  cases hpE
  have hi := ih _ (List.getElem_mem hk)
  have hf := sdeeps_succ hk
  have hle := sdeeps_take l (k + 1)
  generalize hx : l[k] = x at rE hi hf
  obtain ⟨kd,nm,hd,ex,th,el⟩ := x
  obtain ⟨p1,c1,p2,c2,p3,c3,rfl,hs1,hs2,hs3,hn1,hn2⟩ := sm_open rE
  simp only [Sm.th,Sm.el] at hi
  rw [sdepth_mk] at hf
  exact .sk<|.tN<|.sq<|.bk<|.sr<|.m Z Z<|.a Z Z<|.nt<|.fl (trip := [(_,_,_),(_,_,_),(_,_,_),(_,_,_),(_,_,_),(_,_,_),(_,_,_),(_,_,_),(_,_,_),(_,_,_),(_,_,_),(_,_,_),(_,_,_),(_,_,_)]) 14 [(0,0),(1,0),(2,0),(3,0),(4,0),(5,0),(6,0),(7,0),(8,0),(9,0),(10,0),(11,0),(12,0),(13,0)] (by kernel_rfl) (by kernel_rfl) Z<|.m Z Z<|.m Z Z<|.m Z Z<|.yv (.indexSl Fx.sl69 Z Z Z (by omega) (q := oE + k * 6) Z) Z<|.yv (.fieldAddr Z Fx.field71_4) Z<|.yv (.loadM Z Fx.agg69 mE (k := 4) Z Z) Z<|.yv (.call Fx.call96 Z (fun W s => hi.1 _ _ _ W hs2 (by omega) s.agr)) Z<|.m Z Z<|.m Z Z<|.yv (.indexSl Fx.sl69 Z Z Z (by omega) (q := oE + k * 6) Z) Z<|.yv (.fieldAddr Z Fx.field71_5) Z<|.yv (.loadM Z Fx.agg69 mE (k := 5) Z Z) Z<|.yv (.call Fx.call96 Z (fun W s => hi.2 _ _ _ W hs3 (by omega) s.agr)) Z<|.yv (.max3 Z Z Z (c := ((Sm.deeps (l.take (k + 1)) - 1 : Nat) : Int)) (by omega)) Z<|.fn (tl := [_]) Z<|.a Z Z<|.nl<|.bN<|.tN<|.rg<|.yv (.add Z Z (w6 (by omega))) Z<|.m Z Z<|.nt<|.ag (k + 1) ⟨rfl,rfl,trivial⟩ ⟨rfl,rfl,trivial⟩ (fun _ s => s) (by omega) (by omega)
 try simp only [df] at h11
 obtain rfl : k = l.length := by omega
 rw [List.take_length]
 refine .ex<|.tE<|.tE<|.bE<|.tN<|.sr<|.m Z Z<|.yv (.add Z Z (w6 (by omega))) Z<|.a Z Z<|.nt<|.rt<|?_
 refine Sx.ret1 (.inl rfl) rfl (.tmp rfl) fun W s => ⟨?_,s.ext⟩
 first
  | (rfl)
  | (rw [show ((Sm.deeps l - 1 : Nat) : Int) + 1 = (Sm.deeps l : Nat) by
   have : 0 < Sm.deeps l := by
    match l,h7 with
    | ⟨kd,nm,hd,ex,th,el⟩ :: r,_ => simp only [Sm.deeps,sdepth_mk];omega
   omega])
set_option maxRecDepth 100000 in
theorem rsdepth_any (H : Hp) : ∀ (l : List Sm) (p : Option Addr) (n c : Nat) (w : World),Rep H (.seq 6 (l.map (dSm .i64))) [.slice p n c] → Sm.deeps l ≤ 1000000 → Agr H w →
 Calls Tryz.prog 66 #[.slice p n c] w fun r w' => r = .returned (.int .i64 (Sm.deeps l : Nat)) ∧ Ext w w' := by
 refine Sm.lists fun l ih => ?_
 intro p n c w hs hb hA
 obtain rfl : n = l.length := by have := hs.len.1;simpa using this
 have hcap := hs.cap
 refine Sx.enter (H := H) Tryz.func66 rfl Tryz.ntmps66 rfl hA ?_
 refine .sr<|.a Z Z<|.ns<|.a Z Z<|.nt<|.sq<|.sr<|.m Z Z<|.yv (.lenSl Fx.sl98 Z) Z<|.m Z Z<|.nt<|.bk<|.lp (X := Nat) [(6,_),(7,_)] ⟨rfl,rfl,trivial⟩ [] (fun k => [(3,.int .i64 ((Sm.deeps (l.take k) : Nat) : Int)),(8,.int .i64 (k : Nat))]) (fun k => H) (fun k => []) (fun k => k ≤ l.length) (fun k => l.length - k) 0 (fun _ s => s) ⟨rfl,rfl,trivial⟩ (by omega) fun k hC => ?_
 refine .sr<|.yv (.lss Z Z) Z<|.nt<|.sq<|.cd Z (fun h9 => ?_) (fun h9 => ?_)
 ·try simp only [dt] at h9
  have hk : k < l.length := by omega
  obtain ⟨bE,oE,cE,hpE,rE,lE,mE⟩ := hs.elem (map_at hk)
  cases hpE
  have hi := ih _ (List.getElem_mem hk)
  have hf := sdeeps_succ hk
  have hle := sdeeps_take l (k + 1)
  generalize hx : l[k] = x at rE hi hf
  obtain ⟨kd,nm,hd,ex,th,el⟩ := x
  obtain ⟨p1,c1,p2,c2,p3,c3,rfl,hs1,hs2,hs3,hn1,hn2⟩ := sm_open rE
  simp only [Sm.th,Sm.el] at hi
  rw [sdepth_mk] at hf
  exact .sk<|.tN<|.sq<|.bk<|.sr<|.yv (.indexSl Fx.sl98 Z Z Z (by omega) (q := oE + k * 6) Z) Z<|.yv (.loadMW Z Fx.agg150 mE Z) Z<|.al Fx.zero150 Z fun b5 => .sW .head Z Z Fx.size150 (by simp [Value.oneCell',strV]) Z<|.nt<|.fl (trip := [(_,_,_),(_,_,_),(_,_,_),(_,_,_),(_,_,_),(_,_,_),(_,_,_),(_,_,_),(_,_,_),(_,_,_)]) 10 [(0,0),(1,0),(2,0),(3,0),(4,0),(5,0),(6,0),(7,0),(8,0),(9,0)] (by kernel_rfl) (by kernel_rfl) Z<|.m Z Z<|.yv (.fieldAddr Z Fx.field150_4) Z<|.yv (.load Z Fx.agg98 (.head _) Z) Z<|.yv (.call Fx.call66 Z (fun W s => hi.1 _ _ _ W hs2 (by omega) s.agr)) Z<|.yv (.fieldAddr Z Fx.field150_5) Z<|.yv (.load Z Fx.agg98 (.head _) Z) Z<|.yv (.call Fx.call66 Z (fun W s => hi.2 _ _ _ W hs3 (by omega) s.agr)) Z<|.yv (.max2 Z Z (c := ((max (Sm.deeps th) (Sm.deeps el) : Nat) : Int)) (by omega)) Z<|.yv (.add Z Z (w6 (by omega))) Z<|.yv (.max2 Z Z (c := ((Sm.deeps (l.take (k + 1)) : Nat) : Int)) (by omega)) Z<|.fn (tl := [_]) Z<|.a Z Z<|.nl<|.bN<|.tN<|.rg<|.yv (.add Z Z (w6 (by omega))) Z<|.m Z Z<|.nt<|.ag (k + 1) ⟨rfl,rfl,trivial⟩ ⟨rfl,rfl,trivial⟩ (fun _ s => s.pick [] [] Z Z) (by omega) (by omega)
 try simp only [df] at h9
 obtain rfl : k = l.length := by omega
 rw [List.take_length]
 refine .ex<|.tE<|.tE<|.bE<|.tN<|.sr<|.m Z Z<|.a Z Z<|.nt<|.rt<|?_
 refine Sx.ret1 (.inl rfl) rfl (.tmp rfl) fun W s => ⟨?_,s.ext⟩
 first
  | (rfl)
set_option maxRecDepth 100000 in
theorem smallStmt_any : SmFn 97 smaS := by
 refine ⟨Fx.call97,fun H G e cs b o w h hm hok hA => ?_⟩
 obtain ⟨kd,nm,hd,ex,th,el⟩ := e
 rw [okS1] at hok
 obtain ⟨p,c,p1,c1,p2,c2,rfl,hs,hs1,hs2,hn1,hn2⟩ := sm_open h
 have hcap := hs.cap
 refine Sx.enter (H := H) Tryz.func97 rfl Tryz.ntmps97 rfl hA ?_
 refine .sr<|.a Z Z<|.nt<|.sq<|.sr<|.m Z Z<|.yv (.nilCheck Z) Z<|.yv (.fieldAddr Z Fx.field71_3) Z<|.yv (.loadM Z Fx.agg58 hm (k := 3) Z Z) Z<|.yv (.lenSl Fx.sl58 Z) Z<|.m Z Z<|.nt<|.bk<|.lp (X := Nat) [(8,_),(9,_)] ⟨rfl,rfl,trivial⟩ [] (fun k => [(10,.int .i64 (k : Nat))]) (fun k => H) (fun k => []) (fun k => k ≤ ex.length ∧ (ex.take k).all (fun x => decide (x.depth ≤ 8)) = true) (fun k => ex.length - k) 0 (fun _ s => s) ⟨rfl,trivial⟩ ⟨by omega,rfl⟩ fun k hC => ?_
 obtain ⟨hk0,hal⟩ := hC
 refine .sr<|.yv (.lss Z Z) Z<|.nt<|.sq<|.cd Z (fun h11 => ?_) (fun h11 => ?_)
 ·try simp only [dt] at h11
  have hk : k < ex.length := by omega
  obtain ⟨bE,oE,cE,hpE,rE,lE,mE⟩ := hs.elem (map_at hk)
  cases hpE
  have hd1 := lall_at hk hok
  simp only [decide_eq_true_eq] at hd1
  refine .sk<|.tN<|.sq<|.bk<|.sr<|.yv (.indexSl Fx.sl58 Z Z Z (by omega) (q := oE + k * 4) Z) Z<|.yv (.loadMW Z Fx.agg60 mE lE) Z<|.al Fx.zero60 Z fun b4 => .sV .head Z Z Fx.size60 lE rE.one Z<|.ns<|.yv (.loadW Z Fx.agg60 (.head _) lE) Z<|.yv (.call Fx.call87 Z (fun W s => exprDepth_any _ H cE W rE hd1 s.agr)) Z<|.yv (.gtr Z Z) Z<|.nt<|.cd Z (fun h16 => ?_) (fun h16 => ?_)
  ·try simp only [dt] at h16
   refine .sr<|.a Z Z<|.nt<|.rt<|.bR<|.tR<|.tR<|.bR<|.tR<|?_
   refine Sx.ret1 (.inl rfl) rfl (.tmp rfl) fun W s => ⟨retB ?_,s.ext⟩
   first
    | (rw [smaS,hal])
    | (rw [smaS,lall_bad hk (by simp;omega)])
  try simp only [df] at h16
  exact .sk<|.bN<|.tN<|.rg<|.yv (.add Z Z (w6 (by omega))) Z<|.m Z Z<|.nt<|.ag (k + 1) ⟨rfl,trivial⟩ ⟨rfl,rfl,trivial⟩ (fun _ s => s.pick [] [] Z Z) ⟨by omega,by rw [lall_succ hk,hal];simp;omega⟩ (by omega)
 try simp only [df] at h11
 obtain rfl : k = ex.length := by omega
 rw [List.take_length] at hal
 refine .ex<|.tE<|.tE<|.bE<|.tN<|.sr<|.a Z Z<|.nt<|.rt<|?_
 refine Sx.ret1 (.inl rfl) rfl (.tmp rfl) fun W s => ⟨retB ?_,s.ext⟩
 first
  | (rw [smaS,hal])
  | (rw [smaS,lall_bad hk (by simp;omega)])
def HdFn (gf : FuncId) (q : Hd → Bool) : Prop := callN Tryz.prog gf = true ∧ ∀ (H : Hp),Gl H → ∀ (e : Hd) (cs : List Value) (w : World),Rep H (dHd .u8 e) cs → okH e = true → Agr H w →
 Calls Tryz.prog gf #[.agg cs.toArray] w fun r w' => r = .returned (.bool (q e)) ∧ Ext w w'
set_option maxRecDepth 100000 in
theorem smallHandler_any : HdFn 56 smaH := by
 refine ⟨Fx.call56,fun H G e cs w h hok hA => ?_⟩
 simp only [okH,Bool.and_eq_true,decide_eq_true_eq] at hok
 obtain ⟨⟨ho1,ho2⟩,ho3⟩ := hok
 obtain ⟨p1,c1,p2,c2,rfl,hnm,hs1,hs2⟩ := hd_open h
 have hcap := hs1.cap
 refine Sx.enter (H := H) Tryz.func56 rfl Tryz.ntmps56 rfl hA ?_
 refine .sr<|.bx Z Z Z fun b1 => .a Z Z<|.nt<|.sq<|.sr<|.yv (.fieldAddr Z Fx.field73_1) Z<|.yv (.load Z Fx.agg66 (.head _) Z) Z<|.yv (.lenSl Fx.sl66 Z) Z<|.yv (.gtr Z Z) Z<|.m Z Z<|.b2 (fun h7 => ?_) (fun h7 => ?_)
 ·try simp only [dt] at h7
  refine .gF Z Z Z Z<|.gF Z Z Z Z<|.gF Z Z Z Z<|.gF Z Z Z Z<|.yv (.pickT Z Z) Z<|.m Z Z<|.gF Z Z Z Z<|.gF Z Z Z Z<|.gF Z Z Z Z<|.gF Z Z Z Z<|.yv (.pickT Z Z) Z<|.nt<|.cT Z<|.sr<|.a Z Z<|.nt<|.rt<|.tR<|?_
  refine Sx.ret1 (.inl rfl) rfl (.tmp rfl) fun W s => ⟨retB ?_,s.ext⟩
  first
   | (simp only [smaH];simp;omega)
   | (simp only [smaH];simp [show ¬ 4 < e.ps.length by omega,show ¬ 40 < Sm.counts e.body by omega,show ¬ 8 < Sm.deeps e.body by omega])
 try simp only [df] at h7
 refine .gd Z Z<|.yv (.fieldAddr Z Fx.field73_2) Z<|.gd Z Z<|.yv (.load Z Fx.agg69 (.head _) Z) Z<|.gd Z Z<|.yv (.call Fx.call95 Z (fun W s => statements_any H _ _ _ _ W hs2 ho1 s.agr)) Z<|.gd Z Z<|.yv (.gtr Z Z) Z<|.yv (.pickF Z Z) Z<|.m Z Z<|.b2 (fun h13 => ?_) (fun h13 => ?_)
 ·try simp only [dt] at h13
  refine .gF Z Z Z Z<|.gF Z Z Z Z<|.gF Z Z Z Z<|.gF Z Z Z Z<|.yv (.pickT Z Z) Z<|.nt<|.cT Z<|.sr<|.a Z Z<|.nt<|.rt<|.tR<|?_
  refine Sx.ret1 (.inl rfl) rfl (.tmp rfl) fun W s => ⟨retB ?_,s.ext⟩
  first
   | (simp only [smaH];simp;omega)
   | (simp only [smaH];simp [show ¬ 4 < e.ps.length by omega,show ¬ 40 < Sm.counts e.body by omega,show ¬ 8 < Sm.deeps e.body by omega])
 try simp only [df] at h13
 refine .gd Z Z<|.yv (.fieldAddr Z Fx.field73_2) Z<|.gd Z Z<|.yv (.load Z Fx.agg69 (.head _) Z) Z<|.gd Z Z<|.yv (.call Fx.call96 Z (fun W s => sdepth_any H _ _ _ _ W hs2 ho2 s.agr)) Z<|.gd Z Z<|.yv (.gtr Z Z) Z<|.yv (.pickF Z Z) Z<|.nt<|.cd Z (fun h18 => ?_) (fun h18 => ?_)
 ·try simp only [dt] at h18
  refine .sr<|.a Z Z<|.nt<|.rt<|.tR<|?_
  refine Sx.ret1 (.inl rfl) rfl (.tmp rfl) fun W s => ⟨retB ?_,s.ext⟩
  first
   | (simp only [smaH];simp;omega)
   | (simp only [smaH];simp [show ¬ 4 < e.ps.length by omega,show ¬ 40 < Sm.counts e.body by omega,show ¬ 8 < Sm.deeps e.body by omega])
 try simp only [df] at h18
 refine .sk<|.tN<|.sr<|.yv (.fieldAddr Z Fx.field73_2) Z<|.yv (.load Z Fx.agg69 (.head _) Z) Z<|.yv (.call Fx.call59 Z (fun W s => every_any 97 smaS smallStmt_any H G _ _ _ _ W hs2 ho3 s.agr)) Z<|.a Z Z<|.nt<|.rt<|?_
 refine Sx.ret1 (.inl rfl) rfl (.tmp rfl) fun W s => ⟨retB ?_,s.ext⟩
 first
  | (simp only [smaH];simp;omega)
  | (simp only [smaH];simp [show ¬ 4 < e.ps.length by omega,show ¬ 40 < Sm.counts e.body by omega,show ¬ 8 < Sm.deeps e.body by omega])
set_option maxRecDepth 100000 in
theorem formedHandler_any : HdFn 62 frmH := by
 refine ⟨Fx.call62,fun H G e cs w h hok hA => ?_⟩
 simp only [okH,Bool.and_eq_true,decide_eq_true_eq] at hok
 obtain ⟨⟨ho1,ho2⟩,ho3⟩ := hok
 obtain ⟨p1,c1,p2,c2,rfl,hnm,hs1,hs2⟩ := hd_open h
 have hcap := hs1.cap
 refine Sx.enter (H := H) Tryz.func62 rfl Tryz.ntmps62 rfl hA ?_
 refine .sr<|.bx Z Z Z fun b1 => .a Z Z<|.ns<|.yv (.fieldAddr Z Fx.field73_2) Z<|.yv (.load Z Fx.agg69 (.head _) Z) Z<|.yv (.call Fx.call59 Z (fun W s => every_any 63 frmS formedStmt_any H G _ _ _ _ W hs2 ho3 s.agr)) Z<|.a Z Z<|.nt<|.rt<|?_
 refine Sx.ret1 (.inl rfl) rfl (.tmp rfl) fun W s => ⟨retB ?_,s.ext⟩
 first
  | (rw [frmH])
set_option maxRecDepth 100000 in
theorem namedHandler_any : HdFn 58 namH := by
 refine ⟨Fx.call58,fun H G e cs w h hok hA => ?_⟩
 simp only [okH,Bool.and_eq_true,decide_eq_true_eq] at hok
 obtain ⟨⟨ho1,ho2⟩,ho3⟩ := hok
 obtain ⟨p1,c1,p2,c2,rfl,hnm,hs1,hs2⟩ := hd_open h
 have hcap := hs1.cap
 refine Sx.enter (H := H) Tryz.func58 rfl Tryz.ntmps58 rfl hA ?_
 refine .sr<|.bx Z Z Z fun b1 => .a Z Z<|.ns<|.yv (.fieldAddr Z Fx.field73_0) Z<|.yv (.load Z Fx.agg9 (.head _) Z) Z<|.yv (.call Fx.call57 Z (fun W s => isName_any H G _ (by omega) W s.agr)) Z<|.a Z Z<|.nt<|.sq<|.sr<|.yv (.fieldAddr Z Fx.field73_1) Z<|.yv (.load Z Fx.agg66 (.head _) Z) Z<|.yv (.lenSl Fx.sl66 Z) Z<|.m Z Z<|.nt<|.bk<|.lp (X := Nat) [(1,_),(10,_),(11,_)] ⟨rfl,rfl,rfl,trivial⟩ [_] (fun k => [(12,.int .i64 (k : Nat)),(3,.bool (nameB e.nm && (e.ps.take k).all nameB))]) (fun k => H) (fun k => []) (fun k => k ≤ e.ps.length) (fun k => e.ps.length - k) 0 (fun _ s => s) ⟨rfl,(by rw [List.take_zero,List.all_nil,Bool.and_true];rfl),trivial⟩ (by omega) fun k hC => ?_
 refine .sr<|.yv (.lss Z Z) Z<|.nt<|.sq<|.cd Z (fun h13 => ?_) (fun h13 => ?_)
 ·try simp only [dt] at h13
  have hk : k < e.ps.length := by omega
  obtain ⟨bE,oE,cE,hpE,rE,lE,mE⟩ := hs1.elem (map_at hk)
  cases hpE
  obtain ⟨rfl,hsl⟩ := str_open rE
  refine .sk<|.tN<|.sq<|.bk<|.sr<|.yv (.indexSl Fx.sl66 Z Z Z (by omega) (q := oE + k * 1) Z) Z<|.yv (.loadM Z Fx.agg9 mE (k := 0) Z Z) Z<|.a Z Z<|.nt<|.rg<|.m Z Z<|.m Z Z<|.b2 (fun h17 => ?_) (fun h17 => ?_)
  ·skip
   exact .gd Z Z<|.yv (.move Z) Z<|.gd Z Z<|.yv (.call Fx.call57 Z (fun W s => isName_any H G _ (by omega) W s.agr)) Z<|.yv (.pickT Z Z) Z<|.a Z Z<|.nl<|.bN<|.tN<|.rg<|.yv (.add Z Z (w6 (by omega))) Z<|.m Z Z<|.nt<|.ag (k + 1) ⟨rfl,(by rw [lall_succ hk,← Bool.and_assoc];rw [h17];rfl),trivial⟩ ⟨rfl,rfl,rfl,trivial⟩ (fun _ s => s) (by omega) (by omega)
  skip
  exact .gF Z Z Z Z<|.gF Z Z Z Z<|.yv (.pickF Z Z) Z<|.a Z Z<|.nl<|.bN<|.tN<|.rg<|.yv (.add Z Z (w6 (by omega))) Z<|.m Z Z<|.nt<|.ag (k + 1) ⟨rfl,(by rw [lall_succ hk,← Bool.and_assoc];rw [h17];rfl),trivial⟩ ⟨rfl,rfl,rfl,trivial⟩ (fun _ s => s) (by omega) (by omega)
 try simp only [df] at h13
 obtain rfl : k = e.ps.length := by omega
 rw [List.take_length]
 refine .ex<|.tE<|.tE<|.bE<|.tN<|.sr<|.m Z Z<|.m Z Z<|.b2 (fun h23 => ?_) (fun h23 => ?_)
 ·skip
  refine .gd Z Z<|.yv (.fieldAddr Z Fx.field73_2) Z<|.gd Z Z<|.yv (.load Z Fx.agg69 (.head _) Z) Z<|.gd Z Z<|.yv (.call Fx.call59 Z (fun W s => every_any 60 namS namedStmt_any H G _ _ _ _ W hs2 ho3 s.agr)) Z<|.yv (.pickT Z Z) Z<|.a Z Z<|.nt<|.rt<|?_
  refine Sx.ret1 (.inl rfl) rfl (.tmp rfl) fun W s => ⟨retB ?_,s.ext⟩
  first
   | (rw [namH,h23];simp)
   | (rw [namH,h23];rfl)
 skip
 refine .gF Z Z Z Z<|.gF Z Z Z Z<|.gF Z Z Z Z<|.yv (.pickF Z Z) Z<|.a Z Z<|.nt<|.rt<|?_
 refine Sx.ret1 (.inl rfl) rfl (.tmp rfl) fun W s => ⟨retB ?_,s.ext⟩
 first
  | (rw [namH,h23];simp)
  | (rw [namH,h23];rfl)
set_option maxRecDepth 100000 in
theorem formedVar_any (H : Hp) (x : Vr) (cs : List Value) (h : Rep H (dVr .u8 x) cs) (w : World) (hA : Agr H w) :
 Calls Tryz.prog 61 #[.agg cs.toArray] w fun r w' => r = .returned (.bool (frmV x)) ∧ Ext w w' := by
 obtain ⟨rfl,hnm⟩ := vr_open h
 refine Sx.enter (H := H) Tryz.func61 rfl Tryz.ntmps61 rfl hA ?_
 refine .sr<|.bx Z Z Z fun b1 => .a Z Z<|.nt<|.sq<|.sr<|.yv (.fieldAddr Z Fx.field96_1) Z<|.yv (.load Z Fx.agg94 (.head _) Z) Z<|.nt<|.bk<|.sr<|.yv (.eql Z Z) Z<|.a Z Z<|.nt<|.cd Z (fun h5 => ?_) (fun h5 => ?_)
 ·try simp only [dt] at h5
  have hv : x.ty = 1 := UInt8.toNat_inj.1 (by show x.ty.toNat = 1;omega)
  refine .sr<|.yv (.fieldAddr Z Fx.field96_2) Z<|.yv (.load Z Fx.agg2 (.head _) Z) Z<|.yv (.neq Z Z) Z<|.a Z Z<|.nt<|.rt<|.bR<|.tR<|?_
  refine Sx.ret1 (.inl rfl) rfl (.tmp rfl) fun W s => ⟨retB ?_,s.ext⟩
  first
   | (simp only [frmV,hv];simp;done)
   | (simp only [frmV,hv];simp;omega)
   | (simp only [frmV,hv];simp_all)
   | (simp only [frmV];simp [hv1,hv2,hv3])
 try simp only [df] at h5
 have hv1 : ¬ x.ty = 1 := fun e => h5 (by rw [e];rfl)
 refine .sr<|.yv (.eql Z Z) Z<|.a Z Z<|.nt<|.cd Z (fun h10 => ?_) (fun h10 => ?_)
 ·try simp only [dt] at h10
  have hv : x.ty = 2 := UInt8.toNat_inj.1 (by show x.ty.toNat = 2;omega)
  refine .sr<|.yv (.fieldAddr Z Fx.field96_2) Z<|.yv (.load Z Fx.agg2 (.head _) Z) Z<|.yv (.eql Z Z) Z<|.m Z Z<|.b2 (fun h15 => ?_) (fun h15 => ?_)
  ·try simp only [dt] at h15
   refine .gF Z Z Z Z<|.gF Z Z Z Z<|.gF Z Z Z Z<|.yv (.pickT Z Z) Z<|.a Z Z<|.nt<|.rt<|.bR<|.tR<|?_
   refine Sx.ret1 (.inl rfl) rfl (.tmp rfl) fun W s => ⟨retB ?_,s.ext⟩
   first
    | (simp only [frmV,hv];simp;done)
    | (simp only [frmV,hv];simp;omega)
    | (simp only [frmV,hv];simp_all)
    | (simp only [frmV];simp [hv1,hv2,hv3])
  try simp only [df] at h15
  refine .gd Z Z<|.yv (.fieldAddr Z Fx.field96_2) Z<|.gd Z Z<|.yv (.load Z Fx.agg2 (.head _) Z) Z<|.gd Z Z<|.yv (.eql Z Z) Z<|.yv (.pickF Z Z) Z<|.a Z Z<|.nt<|.rt<|.bR<|.tR<|?_
  refine Sx.ret1 (.inl rfl) rfl (.tmp rfl) fun W s => ⟨retB ?_,s.ext⟩
  first
   | (simp only [frmV,hv];simp;done)
   | (simp only [frmV,hv];simp;omega)
   | (simp only [frmV,hv];simp_all)
   | (simp only [frmV];simp [hv1,hv2,hv3])
 try simp only [df] at h10
 have hv2 : ¬ x.ty = 2 := fun e => h10 (by rw [e];rfl)
 refine .sr<|.yv (.eql Z Z) Z<|.a Z Z<|.nt<|.cd Z (fun h20 => ?_) (fun h20 => ?_)
 ·try simp only [dt] at h20
  have hv : x.ty = 3 := UInt8.toNat_inj.1 (by show x.ty.toNat = 3;omega)
  refine .sr<|.yv (.fieldAddr Z Fx.field96_2) Z<|.yv (.load Z Fx.agg2 (.head _) Z) Z<|.yv (.eql Z Z) Z<|.a Z Z<|.nt<|.rt<|.bR<|.tR<|?_
  refine Sx.ret1 (.inl rfl) rfl (.tmp rfl) fun W s => ⟨retB ?_,s.ext⟩
  first
   | (simp only [frmV,hv];simp;done)
   | (simp only [frmV,hv];simp;omega)
   | (simp only [frmV,hv];simp_all)
   | (simp only [frmV];simp [hv1,hv2,hv3])
 try simp only [df] at h20
 have hv3 : ¬ x.ty = 3 := fun e => h20 (by rw [e];rfl)
 refine .sk<|.bN<|.tN<|.sr<|.a Z Z<|.nt<|.rt<|?_
 refine Sx.ret1 (.inl rfl) rfl (.tmp rfl) fun W s => ⟨retB ?_,s.ext⟩
 first
  | (simp only [frmV,hv];simp;done)
  | (simp only [frmV,hv];simp;omega)
  | (simp only [frmV,hv];simp_all)
  | (simp only [frmV];simp [hv1,hv2,hv3])
set_option maxRecDepth 100000 in
theorem everyHandler_any (gf : FuncId) (q : Hd → Bool) (hg : HdFn gf q) (H : Hp) (G : Gl H) (f : Ft) (cs : List Value) (h : Rep H (dFt .u8 f) cs) (hok : evH okH f = true) (w : World) (hA : Agr H w) :
 Calls Tryz.prog 55 #[.agg cs.toArray,.func (.func gf) #[] #[]] w fun r w' => r = .returned (.bool (evH q f)) ∧ Ext w w' := by
 rw [evH_eq] at hok
 obtain ⟨p1,c1,p2,c2,p3,c3,rfl,hnm,hs1,hs2,hs3⟩ := ft_open h
 have hcap1 := hs1.cap
 have hcap2 := hs2.cap
 have hcap3 := hs3.cap
 refine Sx.enter (H := H) Tryz.func55 rfl Tryz.ntmps55 rfl hA ?_
 refine .sr<|.bx Z Z Z fun b2 => .a Z Z<|.nt<|.sq<|.sr<|.yv (.fieldAddr Z Fx.field40_3) Z<|.yv (.load Z Fx.agg38 (.head _) Z) Z<|.yv (.lenSl Fx.sl38 Z) Z<|.m Z Z<|.nt<|.bk<|.lp (X := Nat) [(1,_),(12,_),(13,_)] ⟨rfl,rfl,rfl,trivial⟩ [_] (fun k1 => [(14,.int .i64 (k1 : Nat))]) (fun k1 => H) (fun k1 => []) (fun k1 => k1 ≤ f.comps.length ∧ (f.comps.take k1).all (cpAll q) = true) (fun k1 => f.comps.length - k1) 0 (fun _ s => s) ⟨rfl,trivial⟩ ⟨by omega,rfl⟩ fun k1 hC => ?_
 obtain ⟨hq1,hal1⟩ := hC
 refine .sr<|.yv (.lss Z Z) Z<|.nt<|.sq<|.cd Z (fun h15 => ?_) (fun h15 => ?_)
 ·try simp only [dt] at h15
  have hk1 : k1 < f.comps.length := by omega
  obtain ⟨bE1,oE1,cE1,hpE1,rE1,lE1,mE1⟩ := hs3.elem (map_at hk1)
  cases hpE1
  have hok1 := lall_at hk1 hok
  generalize hx1 : f.comps[k1] = x1 at rE1 hok1
  obtain ⟨p4,c4,p5,c5,rfl,hn4,hs4,hs5⟩ := cp_open rE1
  have hcap5 := hs5.cap
  rw [cpAll] at hok1
  refine .sk<|.tN<|.sq<|.bk<|.sr<|.yv (.indexSl Fx.sl38 Z Z Z (by omega) (q := oE1 + k1 * 3) Z) Z<|.yv (.loadMW Z Fx.agg80 mE1 Z) Z<|.al Fx.zero80 Z fun b6 => .sW .head Z Z Fx.size80 (by simp [Value.oneCell',strV]) Z<|.ns<|.yv (.fieldAddr Z Fx.field80_2) Z<|.yv (.load Z Fx.agg77 (.head _) Z) Z<|.yv (.lenSl Fx.sl77 Z) Z<|.m Z Z<|.nt<|.bk<|.lp (X := Nat) [(1,_),(12,_),(13,_),(14,_),(19,_),(20,_)] ⟨rfl,rfl,rfl,rfl,rfl,rfl,trivial⟩ [_,_] (fun k2 => [(21,.int .i64 (k2 : Nat))]) (fun k2 => H) (fun k2 => []) (fun k2 => k2 ≤ x1.vers.length ∧ (x1.vers.take k2).all (fun v => v.all q) = true) (fun k2 => x1.vers.length - k2) 0 (fun _ s => s) ⟨rfl,trivial⟩ ⟨by omega,rfl⟩ fun k2 hC => ?_
  obtain ⟨hq2,hal2⟩ := hC
  refine .sr<|.yv (.lss Z Z) Z<|.nt<|.sq<|.cd Z (fun h22 => ?_) (fun h22 => ?_)
  ·try simp only [dt] at h22
   have hk2 : k2 < x1.vers.length := by omega
   obtain ⟨bE2,oE2,cE2,hpE2,rE2,lE2,mE2⟩ := hs5.elem (map_at hk2)
   cases hpE2
   have hok2 := lall_at hk2 hok1
   generalize hx2 : x1.vers[k2] = x2 at rE2 hok2
   obtain ⟨p6,c6,rfl,hs6⟩ := vs_open rE2
   have hcap6 := hs6.cap
   refine .sk<|.tN<|.sq<|.bk<|.sr<|.yv (.indexSl Fx.sl77 Z Z Z (by omega) (q := oE2 + k2 * 1) Z) Z<|.yv (.loadMW Z Fx.agg76 mE2 Z) Z<|.al Fx.zero76 Z fun b8 => .sW .head Z Z Fx.size76 (by simp [Value.oneCell',strV]) Z<|.ns<|.yv (.fieldAddr Z Fx.field76_0) Z<|.yv (.load Z Fx.agg74 (.head _) Z) Z<|.yv (.lenSl Fx.sl74 Z) Z<|.m Z Z<|.nt<|.bk<|.lp (X := Nat) [(1,_),(12,_),(13,_),(14,_),(19,_),(20,_),(21,_),(26,_),(27,_)] ⟨rfl,rfl,rfl,rfl,rfl,rfl,rfl,rfl,rfl,trivial⟩ [_,_,_] (fun k3 => [(28,.int .i64 (k3 : Nat))]) (fun k3 => H) (fun k3 => []) (fun k3 => k3 ≤ x2.length ∧ (x2.take k3).all q = true) (fun k3 => x2.length - k3) 0 (fun _ s => s) ⟨rfl,trivial⟩ ⟨by omega,rfl⟩ fun k3 hC => ?_
   obtain ⟨hq3,hal3⟩ := hC
   refine .sr<|.yv (.lss Z Z) Z<|.nt<|.sq<|.cd Z (fun h29 => ?_) (fun h29 => ?_)
   ·try simp only [dt] at h29
    have hk3 : k3 < x2.length := by omega
    obtain ⟨bE3,oE3,cE3,hpE3,rE3,lE3,mE3⟩ := hs6.elem (map_at hk3)
    cases hpE3
    have hok3 := lall_at hk3 hok2
    refine .sk<|.tN<|.sq<|.bk<|.sr<|.yv (.indexSl Fx.sl74 Z Z Z (by omega) (q := oE3 + k3 * 3) Z) Z<|.yv (.loadMW Z Fx.agg73 mE3 lE3) Z<|.al Fx.zero73 Z fun b10 => .sV .head Z Z Fx.size73 lE3 rE3.one Z<|.ns<|.m Z Z<|.yv (.loadW Z Fx.agg73 (.head _) lE3) Z<|.yv (.callV (fi := []) (ca := []) Z hg.1 Z (fun W s => hg.2 H G _ _ W rE3 hok3 s.agr)) Z<|.yv (.not Z) Z<|.nt<|.cd Z (fun h35 => ?_) (fun h35 => ?_)
    ·skip
     refine .sr<|.a Z Z<|.nt<|.rt<|.bR<|.tR<|.tR<|.bR<|.bR<|.tR<|.tR<|.bR<|.bR<|.tR<|.tR<|.bR<|.tR<|?_
     refine Sx.ret1 (.inl rfl) rfl (.tmp rfl) fun W s => ⟨retB ?_,s.ext⟩
     first
      | (rw [evH_eq,hal1])
      | (rw [evH_eq,lall_bad hk1 (by rw [hx1,cpAll];exact lall_bad hk2 (by rw [hx2];exact lall_bad hk3 (by simpa using h35)))])
    skip
    exact .sk<|.bN<|.tN<|.rg<|.yv (.add Z Z (w6 (by omega))) Z<|.m Z Z<|.nt<|.ag (k3 + 1) ⟨rfl,trivial⟩ ⟨rfl,rfl,rfl,rfl,rfl,rfl,rfl,rfl,rfl,trivial⟩ (fun _ s => s.pick [1,2,3] [_,_,_] Z Z) ⟨by omega,by rw [lall_succ hk3,hal3];simpa using h35⟩ (by omega)
   try simp only [df] at h29
   obtain rfl : k3 = x2.length := by omega
   rw [List.take_length] at hal3
   exact .ex<|.tE<|.tE<|.bE<|.bN<|.tN<|.rg<|.yv (.add Z Z (w6 (by omega))) Z<|.m Z Z<|.nt<|.ag (k2 + 1) ⟨rfl,trivial⟩ ⟨rfl,rfl,rfl,rfl,rfl,rfl,trivial⟩ (fun _ s => s.pick [1,2] [_,_] Z Z) ⟨by omega,by rw [lall_succ hk2,hal2,hx2,hal3];rfl⟩ (by omega)
  try simp only [df] at h22
  obtain rfl : k2 = x1.vers.length := by omega
  rw [List.take_length] at hal2
  exact .ex<|.tE<|.tE<|.bE<|.bN<|.tN<|.rg<|.yv (.add Z Z (w6 (by omega))) Z<|.m Z Z<|.nt<|.ag (k1 + 1) ⟨rfl,trivial⟩ ⟨rfl,rfl,rfl,trivial⟩ (fun _ s => s.pick [1] [_] Z Z) ⟨by omega,by rw [lall_succ hk1,hal1,hx1,cpAll,hal2];rfl⟩ (by omega)
 try simp only [df] at h15
 obtain rfl : k1 = f.comps.length := by omega
 rw [List.take_length] at hal1
 refine .ex<|.tE<|.tE<|.bE<|.tN<|.sr<|.a Z Z<|.nt<|.rt<|?_
 refine Sx.ret1 (.inl rfl) rfl (.tmp rfl) fun W s => ⟨retB ?_,s.ext⟩
 first
  | (rw [evH_eq,hal1])
  | (rw [evH_eq,lall_bad hk1 (by rw [hx1,cpAll];exact lall_bad hk2 (by rw [hx2];exact lall_bad hk3 (by simpa using h35)))])
set_option maxRecDepth 100000 in
theorem formed_any (H : Hp) (G : Gl H) (f : Ft) (cs : List Value) (h : Rep H (dFt .u8 f) cs) (hok : evH okH f = true) (w : World) (hA : Agr H w) :
 Calls Tryz.prog 26 #[.agg cs.toArray] w fun r w' => r = .returned (.bool (frmF f)) ∧ Ext w w' := by
 obtain ⟨p1,c1,p2,c2,p3,c3,rfl,hnm,hs1,hs2,hs3⟩ := ft_open h
 have hcap1 := hs1.cap
 have hcap2 := hs2.cap
 have hcap3 := hs3.cap
 refine Sx.enter (H := H) Tryz.func26 rfl Tryz.ntmps26 rfl hA ?_
 refine .sr<|.bx Z Z Z fun b1 => .a Z Z<|.nt<|.sq<|.sr<|.yv (.fieldAddr Z Fx.field40_2) Z<|.yv (.load Z Fx.agg37 (.head _) Z) Z<|.yv (.lenSl Fx.sl37 Z) Z<|.m Z Z<|.nt<|.bk<|.lp (X := Nat) [(1,_),(10,_),(11,_)] ⟨rfl,rfl,rfl,trivial⟩ [_] (fun k0 => [(12,.int .i64 (k0 : Nat))]) (fun k0 => H) (fun k0 => []) (fun k0 => k0 ≤ f.links.length ∧ (f.links.take k0).all lkB = true) (fun k0 => f.links.length - k0) 0 (fun _ s => s) ⟨rfl,trivial⟩ ⟨by omega,rfl⟩ fun k0 hC => ?_
 obtain ⟨hq0,hal0⟩ := hC
 refine .sr<|.yv (.lss Z Z) Z<|.nt<|.sq<|.cd Z (fun h13 => ?_) (fun h13 => ?_)
 ·try simp only [dt] at h13
  have hk0 : k0 < f.links.length := by omega
  obtain ⟨bE0,oE0,cE0,hpE0,rE0,lE0,mE0⟩ := hs2.elem (map_at hk0)
  cases hpE0
  obtain ⟨rfl,hn5,hn6⟩ := lk_open rE0
  refine .sk<|.tN<|.sq<|.bk<|.sr<|.yv (.indexSl Fx.sl37 Z Z Z (by omega) (q := oE0 + k0 * 3) Z) Z<|.yv (.loadMW Z Fx.agg87 mE0 Z) Z<|.al Fx.zero87 Z fun b4 => .sW .head Z Z Fx.size87 (by simp [Value.oneCell',strV]) Z<|.ns<|.yv (.fieldAddr Z Fx.field87_2) Z<|.yv (.load Z Fx.agg3 (.head _) Z) Z<|.yv (.lss Z Z) Z<|.m Z Z<|.b2 (fun h19 => ?_) (fun h19 => ?_)
  ·try simp only [dt] at h19
   refine .gF Z Z Z Z<|.gF Z Z Z Z<|.gF Z Z Z Z<|.yv (.pickT Z Z) Z<|.nt<|.cT Z<|.sr<|.a Z Z<|.nt<|.rt<|.bR<|.tR<|.tR<|.bR<|.tR<|?_
   refine Sx.ret1 (.inl rfl) rfl (.tmp rfl) fun W s => ⟨retB ?_,s.ext⟩
   first
    | (rw [frmF,hal0,hal1];simp)
    | (rw [frmF,lall_bad hk0 (by simp [lkB];omega)];simp)
    | (rw [frmF,show f.comps.all (fun c => c.vars.all frmV) = false from lall_bad hk1 (by rw [hx1];exact lall_bad hk2 (by simpa using h41))];simp)
  try simp only [df] at h19
  refine .gd Z Z<|.yv (.fieldAddr Z Fx.field87_2) Z<|.gd Z Z<|.yv (.load Z Fx.agg3 (.head _) Z) Z<|.gd Z Z<|.yv (.gtr Z Z) Z<|.yv (.pickF Z Z) Z<|.nt<|.cd Z (fun h23 => ?_) (fun h23 => ?_)
  ·try simp only [dt] at h23
   refine .sr<|.a Z Z<|.nt<|.rt<|.bR<|.tR<|.tR<|.bR<|.tR<|?_
   refine Sx.ret1 (.inl rfl) rfl (.tmp rfl) fun W s => ⟨retB ?_,s.ext⟩
   first
    | (rw [frmF,hal0,hal1];simp)
    | (rw [frmF,lall_bad hk0 (by simp [lkB];omega)];simp)
    | (rw [frmF,show f.comps.all (fun c => c.vars.all frmV) = false from lall_bad hk1 (by rw [hx1];exact lall_bad hk2 (by simpa using h41))];simp)
  try simp only [df] at h23
  exact .sk<|.bN<|.tN<|.rg<|.yv (.add Z Z (w6 (by omega))) Z<|.m Z Z<|.nt<|.ag (k0 + 1) ⟨rfl,trivial⟩ ⟨rfl,rfl,rfl,trivial⟩ (fun _ s => s.pick [1] [_] Z Z) ⟨by omega,by rw [lall_succ hk0,hal0];simp [lkB];omega⟩ (by omega)
 try simp only [df] at h13
 obtain rfl : k0 = f.links.length := by omega
 rw [List.take_length] at hal0
 refine .ex<|.tE<|.tE<|.bE<|.tN<|.sq<|.sr<|.yv (.fieldAddr Z Fx.field40_3) Z<|.yv (.load Z Fx.agg38 (.head _) Z) Z<|.yv (.lenSl Fx.sl38 Z) Z<|.m Z Z<|.nt<|.bk<|.lp (X := Nat) [(1,_),(26,_),(27,_)] ⟨rfl,rfl,rfl,trivial⟩ [_] (fun k1 => [(28,.int .i64 (k1 : Nat))]) (fun k1 => H) (fun k1 => []) (fun k1 => k1 ≤ f.comps.length ∧ (f.comps.take k1).all (fun c => c.vars.all frmV) = true) (fun k1 => f.comps.length - k1) 0 (fun _ s => s) ⟨rfl,trivial⟩ ⟨by omega,rfl⟩ fun k1 hC => ?_
 obtain ⟨hq1,hal1⟩ := hC
 refine .sr<|.yv (.lss Z Z) Z<|.nt<|.sq<|.cd Z (fun h29 => ?_) (fun h29 => ?_)
 ·try simp only [dt] at h29
  have hk1 : k1 < f.comps.length := by omega
  obtain ⟨bE1,oE1,cE1,hpE1,rE1,lE1,mE1⟩ := hs3.elem (map_at hk1)
  cases hpE1
  generalize hx1 : f.comps[k1] = x1 at rE1
  obtain ⟨p4,c4,p5,c5,rfl,hn4,hs4,hs5⟩ := cp_open rE1
  have hcap4 := hs4.cap
  refine .sk<|.tN<|.sq<|.bk<|.sr<|.yv (.indexSl Fx.sl38 Z Z Z (by omega) (q := oE1 + k1 * 3) Z) Z<|.yv (.loadMW Z Fx.agg80 mE1 Z) Z<|.al Fx.zero80 Z fun b6 => .sW .head Z Z Fx.size80 (by simp [Value.oneCell',strV]) Z<|.ns<|.yv (.fieldAddr Z Fx.field80_1) Z<|.yv (.load Z Fx.agg78 (.head _) Z) Z<|.yv (.lenSl Fx.sl78 Z) Z<|.m Z Z<|.nt<|.bk<|.lp (X := Nat) [(1,_),(26,_),(27,_),(28,_),(33,_),(34,_)] ⟨rfl,rfl,rfl,rfl,rfl,rfl,trivial⟩ [_,_] (fun k2 => [(35,.int .i64 (k2 : Nat))]) (fun k2 => H) (fun k2 => []) (fun k2 => k2 ≤ x1.vars.length ∧ (x1.vars.take k2).all frmV = true) (fun k2 => x1.vars.length - k2) 0 (fun _ s => s) ⟨rfl,trivial⟩ ⟨by omega,rfl⟩ fun k2 hC => ?_
  obtain ⟨hq2,hal2⟩ := hC
  refine .sr<|.yv (.lss Z Z) Z<|.nt<|.sq<|.cd Z (fun h36 => ?_) (fun h36 => ?_)
  ·try simp only [dt] at h36
   have hk2 : k2 < x1.vars.length := by omega
   obtain ⟨bE2,oE2,cE2,hpE2,rE2,lE2,mE2⟩ := hs4.elem (map_at hk2)
   cases hpE2

   refine .sk<|.tN<|.sq<|.bk<|.sr<|.yv (.indexSl Fx.sl78 Z Z Z (by omega) (q := oE2 + k2 * 3) Z) Z<|.yv (.loadMW Z Fx.agg96 mE2 lE2) Z<|.al Fx.zero96 Z fun b8 => .sV .head Z Z Fx.size96 lE2 rE2.one Z<|.ns<|.yv (.loadW Z Fx.agg96 (.head _) lE2) Z<|.yv (.call Fx.call61 Z (fun W s => formedVar_any H _ _ rE2 W s.agr)) Z<|.yv (.not Z) Z<|.nt<|.cd Z (fun h41 => ?_) (fun h41 => ?_)
   ·skip
    refine .sr<|.a Z Z<|.nt<|.rt<|.bR<|.tR<|.tR<|.bR<|.bR<|.tR<|.tR<|.bR<|.tR<|?_
    refine Sx.ret1 (.inl rfl) rfl (.tmp rfl) fun W s => ⟨retB ?_,s.ext⟩
    first
     | (rw [frmF,hal0,hal1];simp)
     | (rw [frmF,lall_bad hk0 (by simp [lkB];omega)];simp)
     | (rw [frmF,show f.comps.all (fun c => c.vars.all frmV) = false from lall_bad hk1 (by rw [hx1];exact lall_bad hk2 (by simpa using h41))];simp)
   skip
   exact .sk<|.bN<|.tN<|.rg<|.yv (.add Z Z (w6 (by omega))) Z<|.m Z Z<|.nt<|.ag (k2 + 1) ⟨rfl,trivial⟩ ⟨rfl,rfl,rfl,rfl,rfl,rfl,trivial⟩ (fun _ s => s.pick [1,2] [_,_] Z Z) ⟨by omega,by rw [lall_succ hk2,hal2];simpa using h41⟩ (by omega)
  try simp only [df] at h36
  obtain rfl : k2 = x1.vars.length := by omega
  rw [List.take_length] at hal2
  exact .ex<|.tE<|.tE<|.bE<|.bN<|.tN<|.rg<|.yv (.add Z Z (w6 (by omega))) Z<|.m Z Z<|.nt<|.ag (k1 + 1) ⟨rfl,trivial⟩ ⟨rfl,rfl,rfl,trivial⟩ (fun _ s => s.pick [1] [_] Z Z) ⟨by omega,by rw [lall_succ hk1,hal1,hx1,hal2];rfl⟩ (by omega)
 try simp only [df] at h29
 obtain rfl : k1 = f.comps.length := by omega
 rw [List.take_length] at hal1
 refine .ex<|.tE<|.tE<|.bE<|.tN<|.sr<|.yv (.loadW Z Fx.agg40 (.head _) Z) Z<|.yv (.call Fx.call55 Z (fun W s => everyHandler_any 62 frmH formedHandler_any H G f _ h hok W s.agr)) Z<|.a Z Z<|.nt<|.rt<|?_
 refine Sx.ret1 (.inl rfl) rfl (.tmp rfl) fun W s => ⟨retB ?_,s.ext⟩
 first
  | (rw [frmF,hal0,hal1];simp)
  | (rw [frmF,lall_bad hk0 (by simp [lkB];omega)];simp)
  | (rw [frmF,show f.comps.all (fun c => c.vars.all frmV) = false from lall_bad hk1 (by rw [hx1];exact lall_bad hk2 (by simpa using h41))];simp)
set_option maxRecDepth 100000 in
theorem named_any (H : Hp) (G : Gl H) (f : Ft) (cs : List Value) (h : Rep H (dFt .u8 f) cs) (hok : evH okH f = true) (w : World) (hA : Agr H w) :
 Calls Tryz.prog 25 #[.agg cs.toArray] w fun r w' => r = .returned (.bool (namF f)) ∧ Ext w w' := by
 obtain ⟨p1,c1,p2,c2,p3,c3,rfl,hnm,hs1,hs2,hs3⟩ := ft_open h
 have hcap1 := hs1.cap
 have hcap2 := hs2.cap
 have hcap3 := hs3.cap
 refine Sx.enter (H := H) Tryz.func25 rfl Tryz.ntmps25 rfl hA ?_
 refine .sr<|.bx Z Z Z fun b1 => .a Z Z<|.ns<|.yv (.fieldAddr Z Fx.field40_0) Z<|.yv (.load Z Fx.agg9 (.head _) Z) Z<|.yv (.call Fx.call57 Z (fun W s => isName_any H G _ (by omega) W s.agr)) Z<|.a Z Z<|.nt<|.sq<|.sr<|.yv (.fieldAddr Z Fx.field40_1) Z<|.yv (.load Z Fx.agg36 (.head _) Z) Z<|.yv (.lenSl Fx.sl36 Z) Z<|.m Z Z<|.nt<|.bk<|.lp (X := Nat) [(1,_),(16,_),(17,_)] ⟨rfl,rfl,rfl,trivial⟩ [_] (fun k0 => [(18,.int .i64 (k0 : Nat)),(3,.bool (nameB f.nm && (f.flags.take k0).all (fun x => nameB x.nm)))]) (fun k0 => H) (fun k0 => []) (fun k0 => k0 ≤ f.flags.length) (fun k0 => f.flags.length - k0) 0 (fun _ s => s) ⟨rfl,(by rw [List.take_zero,List.all_nil,Bool.and_true];rfl),trivial⟩ (by omega) fun k0 hC => ?_
 refine .sr<|.yv (.lss Z Z) Z<|.nt<|.sq<|.cd Z (fun h19 => ?_) (fun h19 => ?_)
 ·try simp only [dt] at h19
  have hk0 : k0 < f.flags.length := by omega
  obtain ⟨bE0,oE0,cE0,hpE0,rE0,lE0,mE0⟩ := hs1.elem (map_at hk0)
  cases hpE0
  obtain ⟨rfl,hn5⟩ := fg_open rE0
  refine .sk<|.tN<|.sq<|.bk<|.sr<|.yv (.indexSl Fx.sl36 Z Z Z (by omega) (q := oE0 + k0 * 2) Z) Z<|.yv (.loadMW Z Fx.agg65 mE0 Z) Z<|.al Fx.zero65 Z fun b5 => .sW .head Z Z Fx.size65 (by simp [Value.oneCell',strV]) Z<|.nt<|.rg<|.m Z Z<|.m Z Z<|.b2 (fun h23 => ?_) (fun h23 => ?_)
  ·skip
   exact .gd Z Z<|.yv (.fieldAddr Z Fx.field65_0) Z<|.gd Z Z<|.yv (.load Z Fx.agg9 (.head _) Z) Z<|.gd Z Z<|.yv (.call Fx.call57 Z (fun W s => isName_any H G _ (by omega) W s.agr)) Z<|.yv (.pickT Z Z) Z<|.a Z Z<|.nl<|.bN<|.tN<|.rg<|.yv (.add Z Z (w6 (by omega))) Z<|.m Z Z<|.nt<|.ag (k0 + 1) ⟨rfl,(by rw [lall_succ hk0,← Bool.and_assoc,h23];rfl),trivial⟩ ⟨rfl,rfl,rfl,trivial⟩ (fun _ s => s.pick [1] [_] Z Z) (by omega) (by omega)
  skip
  exact .gF Z Z Z Z<|.gF Z Z Z Z<|.gF Z Z Z Z<|.yv (.pickF Z Z) Z<|.a Z Z<|.nl<|.bN<|.tN<|.rg<|.yv (.add Z Z (w6 (by omega))) Z<|.m Z Z<|.nt<|.ag (k0 + 1) ⟨rfl,(by rw [lall_succ hk0,← Bool.and_assoc,h23];rfl),trivial⟩ ⟨rfl,rfl,rfl,trivial⟩ (fun _ s => s.pick [1] [_] Z Z) (by omega) (by omega)
 try simp only [df] at h19
 obtain rfl : k0 = f.flags.length := by omega
 rw [List.take_length]
 refine .ex<|.tE<|.tE<|.bE<|.tN<|.sq<|.sr<|.yv (.fieldAddr Z Fx.field40_2) Z<|.yv (.load Z Fx.agg37 (.head _) Z) Z<|.yv (.lenSl Fx.sl37 Z) Z<|.m Z Z<|.nt<|.bk<|.lp (X := Nat) [(1,_),(30,_),(31,_)] ⟨rfl,rfl,rfl,trivial⟩ [_] (fun k1 => [(32,.int .i64 (k1 : Nat)),(3,.bool (nameB f.nm && f.flags.all (fun x => nameB x.nm) && (f.links.take k1).all (fun x => nameB x.fr && nameB x.to)))]) (fun k1 => H) (fun k1 => []) (fun k1 => k1 ≤ f.links.length) (fun k1 => f.links.length - k1) 0 (fun _ s => s) ⟨rfl,(by rw [List.take_zero,List.all_nil,Bool.and_true];rfl),trivial⟩ (by omega) fun k1 hC => ?_
 refine .sr<|.yv (.lss Z Z) Z<|.nt<|.sq<|.cd Z (fun h33 => ?_) (fun h33 => ?_)
 ·try simp only [dt] at h33
  have hk1 : k1 < f.links.length := by omega
  obtain ⟨bE1,oE1,cE1,hpE1,rE1,lE1,mE1⟩ := hs2.elem (map_at hk1)
  cases hpE1
  obtain ⟨rfl,hn5,hn6⟩ := lk_open rE1
  refine .sk<|.tN<|.sq<|.bk<|.sr<|.yv (.indexSl Fx.sl37 Z Z Z (by omega) (q := oE1 + k1 * 3) Z) Z<|.yv (.loadMW Z Fx.agg87 mE1 Z) Z<|.al Fx.zero87 Z fun b7 => .sW .head Z Z Fx.size87 (by simp [Value.oneCell',strV]) Z<|.nt<|.rg<|.m Z Z<|.m Z Z<|.b2 (fun h37 => ?_) (fun h37 => ?_)
  ·skip
   refine .gd Z Z<|.yv (.fieldAddr Z Fx.field87_0) Z<|.gd Z Z<|.yv (.load Z Fx.agg9 (.head _) Z) Z<|.gd Z Z<|.yv (.call Fx.call57 Z (fun W s => isName_any H G _ (by omega) W s.agr)) Z<|.yv (.pickT Z Z) Z<|.m Z Z<|.b2 (fun h42 => ?_) (fun h42 => ?_)
   ·skip
    exact .gd Z Z<|.yv (.fieldAddr Z Fx.field87_1) Z<|.gd Z Z<|.yv (.load Z Fx.agg9 (.head _) Z) Z<|.gd Z Z<|.yv (.call Fx.call57 Z (fun W s => isName_any H G _ (by omega) W s.agr)) Z<|.yv (.pickT Z Z) Z<|.a Z Z<|.nl<|.bN<|.tN<|.rg<|.yv (.add Z Z (w6 (by omega))) Z<|.m Z Z<|.nt<|.ag (k1 + 1) ⟨rfl,(by rw [lall_succ hk1,← Bool.and_assoc,h37];first | rfl | (rw [Bool.true_and,h42];rfl)),trivial⟩ ⟨rfl,rfl,rfl,trivial⟩ (fun _ s => s.pick [1] [_] Z Z) (by omega) (by omega)
   skip
   exact .gF Z Z Z Z<|.gF Z Z Z Z<|.gF Z Z Z Z<|.yv (.pickF Z Z) Z<|.a Z Z<|.nl<|.bN<|.tN<|.rg<|.yv (.add Z Z (w6 (by omega))) Z<|.m Z Z<|.nt<|.ag (k1 + 1) ⟨rfl,(by rw [lall_succ hk1,← Bool.and_assoc,h37];first | rfl | (rw [Bool.true_and,h42];rfl)),trivial⟩ ⟨rfl,rfl,rfl,trivial⟩ (fun _ s => s.pick [1] [_] Z Z) (by omega) (by omega)
  skip
  exact .gF Z Z Z Z<|.gF Z Z Z Z<|.gF Z Z Z Z<|.yv (.pickF Z Z) Z<|.m Z Z<|.gF Z Z Z Z<|.gF Z Z Z Z<|.gF Z Z Z Z<|.yv (.pickF Z Z) Z<|.a Z Z<|.nl<|.bN<|.tN<|.rg<|.yv (.add Z Z (w6 (by omega))) Z<|.m Z Z<|.nt<|.ag (k1 + 1) ⟨rfl,(by rw [lall_succ hk1,← Bool.and_assoc,h37];first | rfl | (rw [Bool.true_and,h42];rfl)),trivial⟩ ⟨rfl,rfl,rfl,trivial⟩ (fun _ s => s.pick [1] [_] Z Z) (by omega) (by omega)
 try simp only [df] at h33
 obtain rfl : k1 = f.links.length := by omega
 rw [List.take_length]
 refine .ex<|.tE<|.tE<|.bE<|.tN<|.sq<|.sr<|.yv (.fieldAddr Z Fx.field40_3) Z<|.yv (.load Z Fx.agg38 (.head _) Z) Z<|.yv (.lenSl Fx.sl38 Z) Z<|.m Z Z<|.nt<|.bk<|.lp (X := Nat) [(1,_),(49,_),(50,_)] ⟨rfl,rfl,rfl,trivial⟩ [_] (fun k2 => [(51,.int .i64 (k2 : Nat)),(3,.bool (nameB f.nm && f.flags.all (fun x => nameB x.nm) && f.links.all (fun x => nameB x.fr && nameB x.to) && (f.comps.take k2).all (fun c : Cp => nameB c.nm && c.vars.all fun v => nameB v.nm)))]) (fun k2 => H) (fun k2 => []) (fun k2 => k2 ≤ f.comps.length) (fun k2 => f.comps.length - k2) 0 (fun _ s => s) ⟨rfl,(by rw [List.take_zero,List.all_nil,Bool.and_true];rfl),trivial⟩ (by omega) fun k2 hC => ?_
 refine .sr<|.yv (.lss Z Z) Z<|.nt<|.sq<|.cd Z (fun h52 => ?_) (fun h52 => ?_)
 ·try simp only [dt] at h52
  have hk2 : k2 < f.comps.length := by omega
  obtain ⟨bE2,oE2,cE2,hpE2,rE2,lE2,mE2⟩ := hs3.elem (map_at hk2)
  cases hpE2
  generalize hx2 : f.comps[k2] = x2 at rE2
  obtain ⟨p4,c4,p5,c5,rfl,hn4,hs4,hs5⟩ := cp_open rE2
  have hcap4 := hs4.cap
  refine .sk<|.tN<|.sq<|.bk<|.sr<|.yv (.indexSl Fx.sl38 Z Z Z (by omega) (q := oE2 + k2 * 3) Z) Z<|.yv (.loadMW Z Fx.agg80 mE2 Z) Z<|.al Fx.zero80 Z fun b9 => .sW .head Z Z Fx.size80 (by simp [Value.oneCell',strV]) Z<|.ns<|.m Z Z<|.m Z Z<|.b2 (fun h56 => ?_) (fun h56 => ?_)
  ·skip
   refine .gd Z Z<|.yv (.fieldAddr Z Fx.field80_0) Z<|.gd Z Z<|.yv (.load Z Fx.agg9 (.head _) Z) Z<|.gd Z Z<|.yv (.call Fx.call57 Z (fun W s => isName_any H G _ (by omega) W s.agr)) Z<|.yv (.pickT Z Z) Z<|.a Z Z<|.ns<|.yv (.fieldAddr Z Fx.field80_1) Z<|.yv (.load Z Fx.agg78 (.head _) Z) Z<|.yv (.lenSl Fx.sl78 Z) Z<|.m Z Z<|.nt<|.bk<|.lp (X := Nat) [(1,_),(49,_),(50,_),(51,_),(62,_),(63,_)] ⟨rfl,rfl,rfl,rfl,rfl,rfl,trivial⟩ [_,_] (fun k3 => [(64,.int .i64 (k3 : Nat)),(3,.bool (nameB f.nm && f.flags.all (fun x => nameB x.nm) && f.links.all (fun x => nameB x.fr && nameB x.to) && (f.comps.take k2).all (fun c : Cp => nameB c.nm && c.vars.all fun v => nameB v.nm) && nameB x2.nm && (x2.vars.take k3).all (fun v => nameB v.nm)))]) (fun k3 => H) (fun k3 => []) (fun k3 => k3 ≤ x2.vars.length) (fun k3 => x2.vars.length - k3) 0 (fun _ s => s) ⟨rfl,(by rw [List.take_zero,List.all_nil,Bool.and_true,h56];rfl),trivial⟩ (by omega) fun k3 hC => ?_
   refine .sr<|.yv (.lss Z Z) Z<|.nt<|.sq<|.cd Z (fun h65 => ?_) (fun h65 => ?_)
   ·try simp only [dt] at h65
    have hk3 : k3 < x2.vars.length := by omega
    obtain ⟨bE3,oE3,cE3,hpE3,rE3,lE3,mE3⟩ := hs4.elem (map_at hk3)
    cases hpE3
    obtain ⟨rfl,hn7⟩ := vr_open rE3
    refine .sk<|.tN<|.sq<|.bk<|.sr<|.yv (.indexSl Fx.sl78 Z Z Z (by omega) (q := oE3 + k3 * 3) Z) Z<|.yv (.loadMW Z Fx.agg96 mE3 Z) Z<|.al Fx.zero96 Z fun b11 => .sW .head Z Z Fx.size96 (by simp [Value.oneCell',strV]) Z<|.nt<|.rg<|.m Z Z<|.m Z Z<|.b2 (fun h69 => ?_) (fun h69 => ?_)
    ·skip
     exact .gd Z Z<|.yv (.fieldAddr Z Fx.field96_0) Z<|.gd Z Z<|.yv (.load Z Fx.agg9 (.head _) Z) Z<|.gd Z Z<|.yv (.call Fx.call57 Z (fun W s => isName_any H G _ (by omega) W s.agr)) Z<|.yv (.pickT Z Z) Z<|.a Z Z<|.nl<|.bN<|.tN<|.rg<|.yv (.add Z Z (w6 (by omega))) Z<|.m Z Z<|.nt<|.ag (k3 + 1) ⟨rfl,(by rw [lall_succ hk3,← Bool.and_assoc,h69];rfl),trivial⟩ ⟨rfl,rfl,rfl,rfl,rfl,rfl,trivial⟩ (fun _ s => s.pick [1,2] [_,_] Z Z) (by omega) (by omega)
    skip
    exact .gF Z Z Z Z<|.gF Z Z Z Z<|.gF Z Z Z Z<|.yv (.pickF Z Z) Z<|.a Z Z<|.nl<|.bN<|.tN<|.rg<|.yv (.add Z Z (w6 (by omega))) Z<|.m Z Z<|.nt<|.ag (k3 + 1) ⟨rfl,(by rw [lall_succ hk3,← Bool.and_assoc,h69];rfl),trivial⟩ ⟨rfl,rfl,rfl,rfl,rfl,rfl,trivial⟩ (fun _ s => s.pick [1,2] [_,_] Z Z) (by omega) (by omega)
   try simp only [df] at h65
   obtain rfl : k3 = x2.vars.length := by omega
   rw [List.take_length]
   exact .ex<|.tE<|.tE<|.bE<|.bN<|.tN<|.rg<|.yv (.add Z Z (w6 (by omega))) Z<|.m Z Z<|.nt<|.ag (k2 + 1) ⟨rfl,(by rw [lall_succ hk2,← Bool.and_assoc,hx2,← Bool.and_assoc];rfl),trivial⟩ ⟨rfl,rfl,rfl,trivial⟩ (fun _ s => s.pick [1] [_] Z Z) (by omega) (by omega)
  skip
  refine .gF Z Z Z Z<|.gF Z Z Z Z<|.gF Z Z Z Z<|.yv (.pickF Z Z) Z<|.a Z Z<|.ns<|.yv (.fieldAddr Z Fx.field80_1) Z<|.yv (.load Z Fx.agg78 (.head _) Z) Z<|.yv (.lenSl Fx.sl78 Z) Z<|.m Z Z<|.nt<|.bk<|.lp (X := Nat) [(1,_),(49,_),(50,_),(51,_),(62,_),(63,_)] ⟨rfl,rfl,rfl,rfl,rfl,rfl,trivial⟩ [_,_] (fun k3 => [(64,.int .i64 (k3 : Nat)),(3,.bool (nameB f.nm && f.flags.all (fun x => nameB x.nm) && f.links.all (fun x => nameB x.fr && nameB x.to) && (f.comps.take k2).all (fun c : Cp => nameB c.nm && c.vars.all fun v => nameB v.nm) && nameB x2.nm && (x2.vars.take k3).all (fun v => nameB v.nm)))]) (fun k3 => H) (fun k3 => []) (fun k3 => k3 ≤ x2.vars.length) (fun k3 => x2.vars.length - k3) 0 (fun _ s => s) ⟨rfl,(by rw [List.take_zero,List.all_nil,Bool.and_true,h56];rfl),trivial⟩ (by omega) fun k3 hC => ?_
  refine .sr<|.yv (.lss Z Z) Z<|.nt<|.sq<|.cd Z (fun h65 => ?_) (fun h65 => ?_)
  ·try simp only [dt] at h65
   have hk3 : k3 < x2.vars.length := by omega
   obtain ⟨bE3,oE3,cE3,hpE3,rE3,lE3,mE3⟩ := hs4.elem (map_at hk3)
   cases hpE3
   obtain ⟨rfl,hn7⟩ := vr_open rE3
   refine .sk<|.tN<|.sq<|.bk<|.sr<|.yv (.indexSl Fx.sl78 Z Z Z (by omega) (q := oE3 + k3 * 3) Z) Z<|.yv (.loadMW Z Fx.agg96 mE3 Z) Z<|.al Fx.zero96 Z fun b11 => .sW .head Z Z Fx.size96 (by simp [Value.oneCell',strV]) Z<|.nt<|.rg<|.m Z Z<|.m Z Z<|.b2 (fun h69 => ?_) (fun h69 => ?_)
   ·skip
    exact .gd Z Z<|.yv (.fieldAddr Z Fx.field96_0) Z<|.gd Z Z<|.yv (.load Z Fx.agg9 (.head _) Z) Z<|.gd Z Z<|.yv (.call Fx.call57 Z (fun W s => isName_any H G _ (by omega) W s.agr)) Z<|.yv (.pickT Z Z) Z<|.a Z Z<|.nl<|.bN<|.tN<|.rg<|.yv (.add Z Z (w6 (by omega))) Z<|.m Z Z<|.nt<|.ag (k3 + 1) ⟨rfl,(by rw [lall_succ hk3,← Bool.and_assoc,h69];rfl),trivial⟩ ⟨rfl,rfl,rfl,rfl,rfl,rfl,trivial⟩ (fun _ s => s.pick [1,2] [_,_] Z Z) (by omega) (by omega)
   skip
   exact .gF Z Z Z Z<|.gF Z Z Z Z<|.gF Z Z Z Z<|.yv (.pickF Z Z) Z<|.a Z Z<|.nl<|.bN<|.tN<|.rg<|.yv (.add Z Z (w6 (by omega))) Z<|.m Z Z<|.nt<|.ag (k3 + 1) ⟨rfl,(by rw [lall_succ hk3,← Bool.and_assoc,h69];rfl),trivial⟩ ⟨rfl,rfl,rfl,rfl,rfl,rfl,trivial⟩ (fun _ s => s.pick [1,2] [_,_] Z Z) (by omega) (by omega)
  try simp only [df] at h65
  obtain rfl : k3 = x2.vars.length := by omega
  rw [List.take_length]
  exact .ex<|.tE<|.tE<|.bE<|.bN<|.tN<|.rg<|.yv (.add Z Z (w6 (by omega))) Z<|.m Z Z<|.nt<|.ag (k2 + 1) ⟨rfl,(by rw [lall_succ hk2,← Bool.and_assoc,hx2,← Bool.and_assoc];rfl),trivial⟩ ⟨rfl,rfl,rfl,trivial⟩ (fun _ s => s.pick [1] [_] Z Z) (by omega) (by omega)
 try simp only [df] at h52
 obtain rfl : k2 = f.comps.length := by omega
 rw [List.take_length]
 refine .ex<|.tE<|.tE<|.bE<|.tN<|.sr<|.m Z Z<|.m Z Z<|.b2 (fun h77 => ?_) (fun h77 => ?_)
 ·skip
  refine .gd Z Z<|.yv (.loadW Z Fx.agg40 (.head _) Z) Z<|.gd Z Z<|.yv (.call Fx.call55 Z (fun W s => everyHandler_any 58 namH namedHandler_any H G f _ h hok W s.agr)) Z<|.yv (.pickT Z Z) Z<|.a Z Z<|.nt<|.rt<|?_
  refine Sx.ret1 (.inl rfl) rfl (.tmp rfl) fun W s => ⟨retB ?_,s.ext⟩
  first
   | (rw [namF,h77];simp)
   | (rw [namF,h77];rfl)
 skip
 refine .gF Z Z Z Z<|.gF Z Z Z Z<|.yv (.pickF Z Z) Z<|.a Z Z<|.nt<|.rt<|?_
 refine Sx.ret1 (.inl rfl) rfl (.tmp rfl) fun W s => ⟨retB ?_,s.ext⟩
 first
  | (rw [namF,h77];simp)
  | (rw [namF,h77];rfl)
set_option maxRecDepth 100000 in
theorem small_any (H : Hp) (G : Gl H) (f : Ft) (cs : List Value) (h : Rep H (dFt .u8 f) cs) (hok : evH okH f = true) (w : World) (hA : Agr H w) :
 Calls Tryz.prog 24 #[.agg cs.toArray] w fun r w' => r = .returned (.bool (smlF f)) ∧ Ext w w' := by
 obtain ⟨p1,c1,p2,c2,p3,c3,rfl,hnm,hs1,hs2,hs3⟩ := ft_open h
 have hcap1 := hs1.cap
 have hcap2 := hs2.cap
 have hcap3 := hs3.cap
 refine Sx.enter (H := H) Tryz.func24 rfl Tryz.ntmps24 rfl hA ?_
 refine .sr<|.bx Z Z Z fun b1 => .a Z Z<|.ns<|.yv (.fieldAddr Z Fx.field40_3) Z<|.yv (.load Z Fx.agg38 (.head _) Z) Z<|.yv (.lenSl Fx.sl38 Z) Z<|.a Z Z<|.nt<|.sq<|.sr<|.m Z Z<|.yv (.eql Z Z) Z<|.m Z Z<|.b2 (fun h17 => ?_) (fun h17 => ?_)
 ·try simp only [dt] at h17
  refine .gF Z Z Z Z<|.gF Z Z Z Z<|.yv (.pickT Z Z) Z<|.m Z Z<|.gF Z Z Z Z<|.gF Z Z Z Z<|.gF Z Z Z Z<|.gF Z Z Z Z<|.yv (.pickT Z Z) Z<|.m Z Z<|.gF Z Z Z Z<|.gF Z Z Z Z<|.gF Z Z Z Z<|.gF Z Z Z Z<|.yv (.pickT Z Z) Z<|.nt<|.cT Z<|.sr<|.a Z Z<|.nt<|.rt<|.tR<|?_
  refine Sx.ret1 (.inl rfl) rfl (.tmp rfl) fun W s => ⟨retB ?_,s.ext⟩
  first
   | (rw [smlF,hal1,show limF f = true by simp only [limF,Bool.and_eq_true,decide_eq_true_eq];omega];simp)
   | (rw [smlF,show limF f = false by simp only [limF,Bool.and_eq_false_iff,decide_eq_false_iff_not];omega];rfl)
   | (rw [smlF,show f.comps.all smlC = false from lall_bad hk1 (by rw [hx1];simp only [smlC,Bool.and_eq_false_iff,decide_eq_false_iff_not];omega)];simp)
 try simp only [df] at h17
 refine .gd Z Z<|.yv (.move Z) Z<|.gd Z Z<|.yv (.gtr Z Z) Z<|.yv (.pickF Z Z) Z<|.m Z Z<|.b2 (fun h21 => ?_) (fun h21 => ?_)
 ·try simp only [dt] at h21
  refine .gF Z Z Z Z<|.gF Z Z Z Z<|.gF Z Z Z Z<|.gF Z Z Z Z<|.yv (.pickT Z Z) Z<|.m Z Z<|.gF Z Z Z Z<|.gF Z Z Z Z<|.gF Z Z Z Z<|.gF Z Z Z Z<|.yv (.pickT Z Z) Z<|.nt<|.cT Z<|.sr<|.a Z Z<|.nt<|.rt<|.tR<|?_
  refine Sx.ret1 (.inl rfl) rfl (.tmp rfl) fun W s => ⟨retB ?_,s.ext⟩
  first
   | (rw [smlF,hal1,show limF f = true by simp only [limF,Bool.and_eq_true,decide_eq_true_eq];omega];simp)
   | (rw [smlF,show limF f = false by simp only [limF,Bool.and_eq_false_iff,decide_eq_false_iff_not];omega];rfl)
   | (rw [smlF,show f.comps.all smlC = false from lall_bad hk1 (by rw [hx1];simp only [smlC,Bool.and_eq_false_iff,decide_eq_false_iff_not];omega)];simp)
 try simp only [df] at h21
 refine .gd Z Z<|.yv (.fieldAddr Z Fx.field40_1) Z<|.gd Z Z<|.yv (.load Z Fx.agg36 (.head _) Z) Z<|.gd Z Z<|.yv (.lenSl Fx.sl36 Z) Z<|.gd Z Z<|.yv (.gtr Z Z) Z<|.yv (.pickF Z Z) Z<|.m Z Z<|.b2 (fun h27 => ?_) (fun h27 => ?_)
 ·try simp only [dt] at h27
  refine .gF Z Z Z Z<|.gF Z Z Z Z<|.gF Z Z Z Z<|.gF Z Z Z Z<|.yv (.pickT Z Z) Z<|.nt<|.cT Z<|.sr<|.a Z Z<|.nt<|.rt<|.tR<|?_
  refine Sx.ret1 (.inl rfl) rfl (.tmp rfl) fun W s => ⟨retB ?_,s.ext⟩
  first
   | (rw [smlF,hal1,show limF f = true by simp only [limF,Bool.and_eq_true,decide_eq_true_eq];omega];simp)
   | (rw [smlF,show limF f = false by simp only [limF,Bool.and_eq_false_iff,decide_eq_false_iff_not];omega];rfl)
   | (rw [smlF,show f.comps.all smlC = false from lall_bad hk1 (by rw [hx1];simp only [smlC,Bool.and_eq_false_iff,decide_eq_false_iff_not];omega)];simp)
 try simp only [df] at h27
 refine .gd Z Z<|.yv (.fieldAddr Z Fx.field40_2) Z<|.gd Z Z<|.yv (.load Z Fx.agg37 (.head _) Z) Z<|.gd Z Z<|.yv (.lenSl Fx.sl37 Z) Z<|.gd Z Z<|.yv (.gtr Z Z) Z<|.yv (.pickF Z Z) Z<|.nt<|.cd Z (fun h32 => ?_) (fun h32 => ?_)
 ·try simp only [dt] at h32
  refine .sr<|.a Z Z<|.nt<|.rt<|.tR<|?_
  refine Sx.ret1 (.inl rfl) rfl (.tmp rfl) fun W s => ⟨retB ?_,s.ext⟩
  first
   | (rw [smlF,hal1,show limF f = true by simp only [limF,Bool.and_eq_true,decide_eq_true_eq];omega];simp)
   | (rw [smlF,show limF f = false by simp only [limF,Bool.and_eq_false_iff,decide_eq_false_iff_not];omega];rfl)
   | (rw [smlF,show f.comps.all smlC = false from lall_bad hk1 (by rw [hx1];simp only [smlC,Bool.and_eq_false_iff,decide_eq_false_iff_not];omega)];simp)
 try simp only [df] at h32
 refine .sk<|.tN<|.sq<|.sr<|.yv (.fieldAddr Z Fx.field40_3) Z<|.yv (.load Z Fx.agg38 (.head _) Z) Z<|.yv (.lenSl Fx.sl38 Z) Z<|.m Z Z<|.nt<|.bk<|.lp (X := Nat) [(1,_),(34,_),(35,_)] ⟨rfl,rfl,rfl,trivial⟩ [_] (fun k1 => [(36,.int .i64 (k1 : Nat))]) (fun k1 => H) (fun k1 => []) (fun k1 => k1 ≤ f.comps.length ∧ (f.comps.take k1).all smlC = true) (fun k1 => f.comps.length - k1) 0 (fun _ s => s) ⟨rfl,trivial⟩ ⟨by omega,rfl⟩ fun k1 hC => ?_
 obtain ⟨hq1,hal1⟩ := hC
 refine .sr<|.yv (.lss Z Z) Z<|.nt<|.sq<|.cd Z (fun h37 => ?_) (fun h37 => ?_)
 ·try simp only [dt] at h37
  have hk1 : k1 < f.comps.length := by omega
  obtain ⟨bE1,oE1,cE1,hpE1,rE1,lE1,mE1⟩ := hs3.elem (map_at hk1)
  cases hpE1
  generalize hx1 : f.comps[k1] = x1 at rE1
  obtain ⟨p4,c4,p5,c5,rfl,hn4,hs4,hs5⟩ := cp_open rE1
  have hcap5 := hs5.cap
  refine .sk<|.tN<|.sq<|.bk<|.sr<|.yv (.indexSl Fx.sl38 Z Z Z (by omega) (q := oE1 + k1 * 3) Z) Z<|.yv (.loadMW Z Fx.agg80 mE1 Z) Z<|.al Fx.zero80 Z fun b5 => .sW .head Z Z Fx.size80 (by simp [Value.oneCell',strV]) Z<|.nt<|.sq<|.sr<|.yv (.fieldAddr Z Fx.field80_2) Z<|.yv (.load Z Fx.agg77 (.head _) Z) Z<|.yv (.lenSl Fx.sl77 Z) Z<|.a Z Z<|.ns<|.yv (.fieldAddr Z Fx.field80_1) Z<|.yv (.load Z Fx.agg78 (.head _) Z) Z<|.yv (.lenSl Fx.sl78 Z) Z<|.yv (.gtr Z Z) Z<|.m Z Z<|.b2 (fun h47 => ?_) (fun h47 => ?_)
  ·try simp only [dt] at h47
   refine .gF Z Z Z Z<|.gF Z Z Z Z<|.yv (.pickT Z Z) Z<|.m Z Z<|.gF Z Z Z Z<|.gF Z Z Z Z<|.yv (.pickT Z Z) Z<|.nt<|.cT Z<|.sr<|.a Z Z<|.nt<|.rt<|.tR<|.bR<|.tR<|.tR<|.bR<|.tR<|?_
   refine Sx.ret1 (.inl rfl) rfl (.tmp rfl) fun W s => ⟨retB ?_,s.ext⟩
   first
    | (rw [smlF,hal1,show limF f = true by simp only [limF,Bool.and_eq_true,decide_eq_true_eq];omega];simp)
    | (rw [smlF,show limF f = false by simp only [limF,Bool.and_eq_false_iff,decide_eq_false_iff_not];omega];rfl)
    | (rw [smlF,show f.comps.all smlC = false from lall_bad hk1 (by rw [hx1];simp only [smlC,Bool.and_eq_false_iff,decide_eq_false_iff_not];omega)];simp)
  try simp only [df] at h47
  refine .gd Z Z<|.yv (.move Z) Z<|.gd Z Z<|.yv (.eql Z Z) Z<|.yv (.pickF Z Z) Z<|.m Z Z<|.b2 (fun h51 => ?_) (fun h51 => ?_)
  ·try simp only [dt] at h51
   refine .gF Z Z Z Z<|.gF Z Z Z Z<|.yv (.pickT Z Z) Z<|.nt<|.cT Z<|.sr<|.a Z Z<|.nt<|.rt<|.tR<|.bR<|.tR<|.tR<|.bR<|.tR<|?_
   refine Sx.ret1 (.inl rfl) rfl (.tmp rfl) fun W s => ⟨retB ?_,s.ext⟩
   first
    | (rw [smlF,hal1,show limF f = true by simp only [limF,Bool.and_eq_true,decide_eq_true_eq];omega];simp)
    | (rw [smlF,show limF f = false by simp only [limF,Bool.and_eq_false_iff,decide_eq_false_iff_not];omega];rfl)
    | (rw [smlF,show f.comps.all smlC = false from lall_bad hk1 (by rw [hx1];simp only [smlC,Bool.and_eq_false_iff,decide_eq_false_iff_not];omega)];simp)
  try simp only [df] at h51
  refine .gd Z Z<|.yv (.move Z) Z<|.gd Z Z<|.yv (.gtr Z Z) Z<|.yv (.pickF Z Z) Z<|.nt<|.cd Z (fun h54 => ?_) (fun h54 => ?_)
  ·try simp only [dt] at h54
   refine .sr<|.a Z Z<|.nt<|.rt<|.tR<|.bR<|.tR<|.tR<|.bR<|.tR<|?_
   refine Sx.ret1 (.inl rfl) rfl (.tmp rfl) fun W s => ⟨retB ?_,s.ext⟩
   first
    | (rw [smlF,hal1,show limF f = true by simp only [limF,Bool.and_eq_true,decide_eq_true_eq];omega];simp)
    | (rw [smlF,show limF f = false by simp only [limF,Bool.and_eq_false_iff,decide_eq_false_iff_not];omega];rfl)
    | (rw [smlF,show f.comps.all smlC = false from lall_bad hk1 (by rw [hx1];simp only [smlC,Bool.and_eq_false_iff,decide_eq_false_iff_not];omega)];simp)
  try simp only [df] at h54
  refine .sk<|.tN<|.sr<|.mm Fx.map142 Z fun b55 => .a Z Z<|.nt<|.sq<|.sr<|.yv (.fieldAddr Z Fx.field80_2) Z<|.yv (.load Z Fx.agg77 (.tail _<|.head _) Z) Z<|.yv (.lenSl Fx.sl77 Z) Z<|.m Z Z<|.nt<|.bk<|.lp (X := Nat) [(1,_),(7,_),(34,_),(35,_),(36,_),(57,_),(58,_)] ⟨rfl,rfl,rfl,rfl,rfl,rfl,rfl,trivial⟩ [_,_] (fun k2 => [(59,.int .i64 (k2 : Nat))]) (fun k2 => H) (fun k2 => [(.obj b55 (mo ((x1.vers.take k2).foldl stepV [])))]) (fun k2 => k2 ≤ x1.vers.length) (fun k2 => x1.vers.length - k2) 0 (fun _ s => s) ⟨rfl,trivial⟩ (by omega) fun k2 hC => ?_
  refine .sr<|.yv (.lss Z Z) Z<|.nt<|.sq<|.cd Z (fun h60 => ?_) (fun h60 => ?_)
  ·try simp only [dt] at h60
   have hk2 : k2 < x1.vers.length := by omega
   obtain ⟨bE2,oE2,cE2,hpE2,rE2,lE2,mE2⟩ := hs5.elem (map_at hk2)
   cases hpE2
   generalize hx2 : x1.vers[k2] = x2 at rE2
   obtain ⟨p6,c6,rfl,hs6⟩ := vs_open rE2
   have hcap6 := hs6.cap
   refine .sk<|.tN<|.sq<|.bk<|.sr<|.yv (.indexSl Fx.sl77 Z Z Z (by omega) (q := oE2 + k2 * 1) Z) Z<|.yv (.loadMW Z Fx.agg76 mE2 Z) Z<|.al Fx.zero76 Z fun b9 => .sW .head Z Z Fx.size76 (by simp [Value.oneCell',strV]) Z<|.ns<|.yv (.fieldAddr Z Fx.field76_0) Z<|.yv (.load Z Fx.agg74 (.head _) Z) Z<|.yv (.lenSl Fx.sl74 Z) Z<|.m Z Z<|.nt<|.bk<|.pm [1,0,2,3] [_,_,_,_] Z Z<|.lp (X := Nat) [(1,_),(7,_),(34,_),(35,_),(36,_),(57,_),(58,_),(59,_),(64,_),(65,_)] ⟨rfl,rfl,rfl,rfl,rfl,rfl,rfl,rfl,rfl,rfl,trivial⟩ [_,_,_] (fun k3 => [(66,.int .i64 (k3 : Nat))]) (fun k3 => H) (fun k3 => [(.obj b55 (mo ((x2.take k3).foldl stepH ((x1.vers.take k2).foldl stepV []))))]) (fun k3 => k3 ≤ x2.length) (fun k3 => x2.length - k3) 0 (fun _ s => s) ⟨rfl,trivial⟩ (by omega) fun k3 hC => ?_
   refine .sr<|.yv (.lss Z Z) Z<|.nt<|.sq<|.cd Z (fun h67 => ?_) (fun h67 => ?_)
   ·try simp only [dt] at h67
    have hk3 : k3 < x2.length := by omega
    obtain ⟨bE3,oE3,cE3,hpE3,rE3,lE3,mE3⟩ := hs6.elem (map_at hk3)
    cases hpE3
    generalize hx3 : x2[k3] = x3 at rE3
    obtain ⟨p7,c7,p8,c8,rfl,hn7,hs7,hs8⟩ := hd_open rE3
    exact .sk<|.tN<|.sq<|.bk<|.sr<|.yv (.indexSl Fx.sl74 Z Z Z (by omega) (q := oE3 + k3 * 3) Z) Z<|.yv (.loadMW Z Fx.agg73 mE3 Z) Z<|.al Fx.zero73 Z fun b11 => .sW .head Z Z Fx.size73 (by simp [Value.oneCell',strV]) Z<|.nt<|.rg<|.m Z Z<|.yv (.fieldAddr Z Fx.field73_0) Z<|.yv (.load Z Fx.agg9 (.head _) Z) Z<|.mu (.tail<|.head) Fx.map142 Z Z Z<|.nl<|.bN<|.tN<|.rg<|.yv (.add Z Z (w6 (by omega))) Z<|.m Z Z<|.nt<|.ag (k3 + 1) ⟨rfl,trivial⟩ ⟨rfl,rfl,rfl,rfl,rfl,rfl,rfl,rfl,rfl,rfl,trivial⟩ (fun W s => by rw [fold_succ hk3,hx3];exact (s.pick [1,2,3,4] _ Z Z)) (by omega) (by omega)
   try simp only [df] at h67
   obtain rfl : k3 = x2.length := by omega
   rw [List.take_length]
   exact .ex<|.tE<|.tE<|.bE<|.bN<|.tN<|.rg<|.yv (.add Z Z (w6 (by omega))) Z<|.m Z Z<|.nt<|.ag (k2 + 1) ⟨rfl,trivial⟩ ⟨rfl,rfl,rfl,rfl,rfl,rfl,rfl,trivial⟩ (fun W s => by rw [show (x1.vers.take (k2 + 1)).foldl stepV [] = x2.foldl stepH ((x1.vers.take k2).foldl stepV []) by rw [fold_succ hk2,hx2];rfl];exact (s.pick [0,2,3] _ Z Z)) (by omega) (by omega)
  try simp only [df] at h60
  obtain rfl : k2 = x1.vers.length := by omega
  rw [List.take_length]
  have hnm1 : (x1.vers.foldl stepV []).length = (namesOf x1).length := rfl
  refine .ex<|.tE<|.tE<|.bE<|.tN<|.sr<|.m Z Z<|.yv (.lenM Fx.map142 (.head _) Z) Z<|.yv (.gtr Z Z) Z<|.nt<|.cd Z (fun h77 => ?_) (fun h77 => ?_)
  ·try simp only [dt] at h77
   refine .sr<|.a Z Z<|.nt<|.rt<|.bR<|.tR<|.tR<|.bR<|.tR<|?_
   refine Sx.ret1 (.inl rfl) rfl (.tmp rfl) fun W s => ⟨retB ?_,s.ext⟩
   first
    | (rw [smlF,hal1,show limF f = true by simp only [limF,Bool.and_eq_true,decide_eq_true_eq];omega];simp)
    | (rw [smlF,show limF f = false by simp only [limF,Bool.and_eq_false_iff,decide_eq_false_iff_not];omega];rfl)
    | (rw [smlF,show f.comps.all smlC = false from lall_bad hk1 (by rw [hx1];simp only [smlC,Bool.and_eq_false_iff,decide_eq_false_iff_not];omega)];simp)
  try simp only [df] at h77
  exact .sk<|.bN<|.tN<|.rg<|.yv (.add Z Z (w6 (by omega))) Z<|.m Z Z<|.nt<|.ag (k1 + 1) ⟨rfl,trivial⟩ ⟨rfl,rfl,rfl,trivial⟩ (fun _ s => s.pick [2] [_] Z Z) ⟨by omega,by rw [lall_succ hk1,hal1,hx1];simp only [smlC,Bool.true_and,Bool.and_eq_true,decide_eq_true_eq];omega⟩ (by omega)
 try simp only [df] at h37
 obtain rfl : k1 = f.comps.length := by omega
 rw [List.take_length] at hal1
 refine .ex<|.tE<|.tE<|.bE<|.tN<|.sr<|.yv (.loadW Z Fx.agg40 (.head _) Z) Z<|.yv (.call Fx.call55 Z (fun W s => everyHandler_any 56 smaH smallHandler_any H G f _ h hok W s.agr)) Z<|.a Z Z<|.nt<|.rt<|?_
 refine Sx.ret1 (.inl rfl) rfl (.tmp rfl) fun W s => ⟨retB ?_,s.ext⟩
 first
  | (rw [smlF,hal1,show limF f = true by simp only [limF,Bool.and_eq_true,decide_eq_true_eq];omega];simp)
  | (rw [smlF,show limF f = false by simp only [limF,Bool.and_eq_false_iff,decide_eq_false_iff_not];omega];rfl)
  | (rw [smlF,show f.comps.all smlC = false from lall_bad hk1 (by rw [hx1];simp only [smlC,Bool.and_eq_false_iff,decide_eq_false_iff_not];omega)];simp)
set_option maxRecDepth 100000 in
theorem check_any (H : Hp) (G : Gl H) (f : Ft) (cs : List Value) (h : Rep H (dFt .u8 f) cs) (hok : evH okH f = true) (w : World) (hA : Agr H w) :
 Calls Tryz.prog 9 #[.agg cs.toArray] w fun r w' => r = .returned (.int .i64 (checkF f : Nat)) ∧ Ext w w' := by
 obtain ⟨p1,c1,p2,c2,p3,c3,rfl,hnm,hs1,hs2,hs3⟩ := ft_open h
 have hcap1 := hs1.cap
 have hcap2 := hs2.cap
 have hcap3 := hs3.cap
 refine Sx.enter (H := H) Tryz.func9 rfl Tryz.ntmps9 rfl hA ?_
 refine .sr<|.bx Z Z Z fun b1 => .a Z Z<|.nt<|.sq<|.bk<|.sr<|.yv (.loadW Z Fx.agg40 (.head _) Z) Z<|.yv (.call Fx.call24 Z (fun W s => small_any H G f _ h hok W s.agr)) Z<|.yv (.not Z) Z<|.a Z Z<|.nt<|.cd Z (fun h3 => ?_) (fun h3 => ?_)
 ·skip
  refine .sr<|.a Z Z<|.nt<|.rt<|.bR<|.tR<|?_
  refine Sx.ret1 (.inl rfl) rfl (.tmp rfl) fun W s => ⟨?_,s.ext⟩
  first
   | (rw [checkF,if_pos (by simpa using h3)];rfl)
   | (rw [checkF,if_neg (by simpa using h3),if_pos (by simpa using h7)];rfl)
   | (rw [checkF,if_neg (by simpa using h3),if_neg (by simpa using h7),if_pos (by simpa using h11)];rfl)
   | (rw [checkF,if_neg (by simpa using h3),if_neg (by simpa using h7),if_neg (by simpa using h11)];rfl)
 skip
 refine .sr<|.yv (.loadW Z Fx.agg40 (.head _) Z) Z<|.yv (.call Fx.call25 Z (fun W s => named_any H G f _ h hok W s.agr)) Z<|.yv (.not Z) Z<|.a Z Z<|.nt<|.cd Z (fun h7 => ?_) (fun h7 => ?_)
 ·skip
  refine .sr<|.a Z Z<|.nt<|.rt<|.bR<|.tR<|?_
  refine Sx.ret1 (.inl rfl) rfl (.tmp rfl) fun W s => ⟨?_,s.ext⟩
  first
   | (rw [checkF,if_pos (by simpa using h3)];rfl)
   | (rw [checkF,if_neg (by simpa using h3),if_pos (by simpa using h7)];rfl)
   | (rw [checkF,if_neg (by simpa using h3),if_neg (by simpa using h7),if_pos (by simpa using h11)];rfl)
   | (rw [checkF,if_neg (by simpa using h3),if_neg (by simpa using h7),if_neg (by simpa using h11)];rfl)
 skip
 refine .sr<|.yv (.loadW Z Fx.agg40 (.head _) Z) Z<|.yv (.call Fx.call26 Z (fun W s => formed_any H G f _ h hok W s.agr)) Z<|.yv (.not Z) Z<|.a Z Z<|.nt<|.cd Z (fun h11 => ?_) (fun h11 => ?_)
 ·skip
  refine .sr<|.a Z Z<|.nt<|.rt<|.bR<|.tR<|?_
  refine Sx.ret1 (.inl rfl) rfl (.tmp rfl) fun W s => ⟨?_,s.ext⟩
  first
   | (rw [checkF,if_pos (by simpa using h3)];rfl)
   | (rw [checkF,if_neg (by simpa using h3),if_pos (by simpa using h7)];rfl)
   | (rw [checkF,if_neg (by simpa using h3),if_neg (by simpa using h7),if_pos (by simpa using h11)];rfl)
   | (rw [checkF,if_neg (by simpa using h3),if_neg (by simpa using h7),if_neg (by simpa using h11)];rfl)
 skip
 refine .sk<|.bN<|.tN<|.sr<|.a Z Z<|.nt<|.rt<|?_
 refine Sx.ret1 (.inl rfl) rfl (.tmp rfl) fun W s => ⟨?_,s.ext⟩
 first
  | (rw [checkF,if_pos (by simpa using h3)];rfl)
  | (rw [checkF,if_neg (by simpa using h3),if_pos (by simpa using h7)];rfl)
  | (rw [checkF,if_neg (by simpa using h3),if_neg (by simpa using h7),if_pos (by simpa using h11)];rfl)
  | (rw [checkF,if_neg (by simpa using h3),if_neg (by simpa using h7),if_neg (by simpa using h11)];rfl)
end Go.Proofs.YtmbiojpcidccjaaGreatDoor
namespace Go.Proofs
open Go.Shelf
def Tryz.lays156_ren : Go.Shelf.Ren := ⟨fun | 156 => 110 | 165 => 132 | 166 => 73 | 169 => 39 | 240 => 108 | 241 => 149 | 276 => 127 | 277 => 154 | n => n,fun | 31 => 66 | 9 => 9 | 3 => 3 | 4 => 4 | 0 => 0 | 20 => 20 | 72 => 110 | 76 => 158 | 70 => 108 | 37 => 22 | 75 => 157 | 127 => 163 | 164 => 222 | 5 => 5 | 80 => 116 | n => n,fun | n => n⟩
theorem Tryz.lays156 : Go.Proofs.Lays.n156 Tryz.prog Tryz.lays156_ren := {
 mixed := by kernel_rfl
 f156 := Tryz.func110.trans (congrArg some (by kernel_rfl))
 f165 := Tryz.func132.trans (congrArg some (by kernel_rfl))
 f166 := Tryz.func73.trans (congrArg some (by kernel_rfl))
 f169 := Tryz.func39.trans (congrArg some (by kernel_rfl))
 f240 := Tryz.func108.trans (congrArg some (by kernel_rfl))
 f241 := Tryz.func149.trans (congrArg some (by kernel_rfl))
 f276 := Tryz.func127.trans (congrArg some (by kernel_rfl))
 f277 := Tryz.func154.trans (congrArg some (by kernel_rfl))
 t0 := Tryz.underlying0
 a0 := Tryz.isAgg0
 z0 := Tryz.sizeOf0
 v0 := Tryz.zeroValue0
 t3 := Tryz.underlying3
 a3 := Tryz.isAgg3
 z3 := Tryz.sizeOf3
 v3 := Tryz.zeroValue3
 t4 := Tryz.underlying4
 a4 := Tryz.isAgg4
 z4 := Tryz.sizeOf4
 v4 := Tryz.zeroValue4
 t9 := Tryz.underlying9
 a9 := Tryz.isAgg9
 z9 := Tryz.sizeOf9
 v9 := Tryz.zeroValue9
 t20 := Tryz.underlying20
 a20 := Tryz.isAgg20
 z20 := Tryz.sizeOf20
 v20 := Tryz.zeroValue20
 t31 := Tryz.underlying66
 a31 := Tryz.isAgg66
 z31 := Tryz.sizeOf66
 v31 := Tryz.zeroValue66
 t37 := Tryz.underlying22
 a37 := Tryz.isAgg22
 z37 := Tryz.sizeOf22
 v37 := Tryz.zeroValue22
 t70 := Tryz.underlying108
 a70 := Tryz.isAgg108
 z70 := Tryz.sizeOf108
 v70 := Tryz.zeroValue108
 t72 := Tryz.underlying110
 a72 := Tryz.isAgg110
 z72 := Tryz.sizeOf110
 v72 := Tryz.zeroValue110
 t75 := Tryz.underlying157
 a75 := Tryz.isAgg157
 z75 := Tryz.sizeOf157
 v75 := Tryz.zeroValue157
 t76 := Tryz.underlying158
 a76 := Tryz.isAgg158
 z76 := Tryz.sizeOf158
 v76 := Tryz.zeroValue158
 t127 := Tryz.underlying163
 a127 := Tryz.isAgg163
 z127 := Tryz.sizeOf163
 v127 := Tryz.zeroValue163
 t164 := Tryz.underlying222
 a164 := Tryz.isAgg222
 z164 := Tryz.sizeOf222
 v164 := Tryz.zeroValue222 }
theorem Tryz.Builder_Extra_156 : Builder.Extra Tryz.prog Tryz.lays156_ren := {
 sizeBuilder := by kernel_rfl
 liesBuilder := by kernel_rfl
 t5 := Tryz.underlying5
 a5 := Tryz.isAgg5
 z5 := Tryz.sizeOf5
 v5 := Tryz.zeroValue5
 infoByte := by kernel_rfl
 cellsByte := by kernel_rfl
 sizeByte := by kernel_rfl
 neB5 := by decide }
open Go.RowKit in
theorem Tryz.strings_Join_none (a : Option Addr) (c : Nat) (sep : ByteArray) (w : World) :
 Calls Tryz.prog 110 #[.slice a 0 c,.string sep] w fun e w' => e = .returned (.string ⟨#[]⟩) ∧ w' = w := Any.strings_Join_none Tryz.lays156 Tryz.Builder_Extra_156 a c sep w
open Go.RowKit in
theorem Tryz.strings_Join (bk o c : Nat) (xs : List ByteArray) (sep : ByteArray) (w : World) (hcells : ∀ (j : Nat) x,xs[j]? = some x → w.cell? ⟨bk,o + j,none⟩ = some (.string x)) (hbk : bk < w.heap.size) (hN : xs.length ≤ 140737488355328) (hcap : xs.length ≤ c) (hlen : (Lib.join (xs.map (·.data.toList)) sep.data.toList).length ≤ 140737488355328) :
 Calls Tryz.prog 110 #[.slice (some ⟨bk,o,none⟩) xs.length c,.string sep] w fun e w' => e = .returned (.string ⟨(Lib.join (xs.map (·.data.toList)) sep.data.toList).toArray⟩) ∧ Below w.heap.size w w' := Any.strings_Join Tryz.lays156 Tryz.Builder_Extra_156 bk o c xs sep w hcells hbk hN hcap hlen
def Tryz.lays121_ren : Go.Shelf.Ren := ⟨fun | 121 => 36 | 214 => 75 | n => n,fun | 4 => 4 | 9 => 9 | n => n,fun | n => n⟩
theorem Tryz.lays121 : Go.Proofs.Lays.n121 Tryz.prog Tryz.lays121_ren := {
 mixed := by kernel_rfl
 f121 := Tryz.func36.trans (congrArg some (by kernel_rfl))
 f214 := Tryz.func75.trans (congrArg some (by kernel_rfl))
 t4 := Tryz.underlying4
 a4 := Tryz.isAgg4
 z4 := Tryz.sizeOf4
 v4 := Tryz.zeroValue4
 t9 := Tryz.underlying9
 a9 := Tryz.isAgg9
 z9 := Tryz.sizeOf9
 v9 := Tryz.zeroValue9 }
open Go.RowKit in
theorem Tryz.strconv_FormatBool (b : Bool) (w : World) :
 Calls Tryz.prog 36 #[.bool b] w fun e w' => e = .returned (.string ⟨(Lib.formatBool b).toArray⟩) ∧ w' = w := Any.strconv_FormatBool Tryz.lays121 b w
def Tryz.laysM171_ren : Go.Shelf.Ren := ⟨fun | 171 => 37 | 243 => 76 | 246 => 109 | 283 => 128 | 284 => 129 | 285 => 130 | 286 => 131 | 129 => 145 | 317 => 144 | 318 => 146 | 319 => 147 | 320 => 148 | 337 => 152 | 338 => 153 | n => n,fun | 3 => 3 | 9 => 9 | 2 => 2 | 4 => 4 | 171 => 224 | 0 => 0 | 53 => 139 | 37 => 22 | 5 => 5 | 173 => 227 | 212 => 237 | 51 => 238 | 20 => 20 | 213 => 239 | 46 => 241 | 232 => 248 | 233 => 249 | n => n,fun | 17 => 4 | 18 => 5 | 19 => 6 | n => n⟩
theorem Tryz.laysM171 : Go.Proofs.LaysM.n171 Tryz.prog Tryz.laysM171_ren := {
 mixed := by kernel_rfl
 f129 := Tryz.func145.trans (congrArg some (by kernel_rfl))
 f171 := Tryz.func37.trans (congrArg some (by kernel_rfl))
 f243 := Tryz.func76.trans (congrArg some (by kernel_rfl))
 f246 := Tryz.func109.trans (congrArg some (by kernel_rfl))
 f283 := Tryz.func128.trans (congrArg some (by kernel_rfl))
 f284 := Tryz.func129.trans (congrArg some (by kernel_rfl))
 f285 := Tryz.func130.trans (congrArg some (by kernel_rfl))
 f286 := Tryz.func131.trans (congrArg some (by kernel_rfl))
 f317 := Tryz.func144.trans (congrArg some (by kernel_rfl))
 f318 := Tryz.func146.trans (congrArg some (by kernel_rfl))
 f319 := Tryz.func147.trans (congrArg some (by kernel_rfl))
 f320 := Tryz.func148.trans (congrArg some (by kernel_rfl))
 f337 := Tryz.func152.trans (congrArg some (by kernel_rfl))
 f338 := Tryz.func153.trans (congrArg some (by kernel_rfl))
 t0 := Tryz.underlying0
 a0 := Tryz.isAgg0
 z0 := Tryz.sizeOf0
 v0 := Tryz.zeroValue0
 t2 := Tryz.underlying2
 a2 := Tryz.isAgg2
 z2 := Tryz.sizeOf2
 v2 := Tryz.zeroValue2
 t3 := Tryz.underlying3
 a3 := Tryz.isAgg3
 z3 := Tryz.sizeOf3
 v3 := Tryz.zeroValue3
 t4 := Tryz.underlying4
 a4 := Tryz.isAgg4
 z4 := Tryz.sizeOf4
 v4 := Tryz.zeroValue4
 t5 := Tryz.underlying5
 a5 := Tryz.isAgg5
 z5 := Tryz.sizeOf5
 v5 := Tryz.zeroValue5
 t9 := Tryz.underlying9
 a9 := Tryz.isAgg9
 z9 := Tryz.sizeOf9
 v9 := Tryz.zeroValue9
 t20 := Tryz.underlying20
 a20 := Tryz.isAgg20
 z20 := Tryz.sizeOf20
 v20 := Tryz.zeroValue20
 t37 := Tryz.underlying22
 a37 := Tryz.isAgg22
 z37 := Tryz.sizeOf22
 v37 := Tryz.zeroValue22
 t46 := Tryz.underlying241
 a46 := Tryz.isAgg241
 z46 := Tryz.sizeOf241
 v46 := Tryz.zeroValue241
 t51 := Tryz.underlying238
 a51 := Tryz.isAgg238
 z51 := Tryz.sizeOf238
 v51 := Tryz.zeroValue238
 t53 := Tryz.underlying139
 a53 := Tryz.isAgg139
 z53 := Tryz.sizeOf139
 v53 := Tryz.zeroValue139
 t171 := Tryz.underlying224
 a171 := Tryz.isAgg224
 z171 := Tryz.sizeOf224
 v171 := Tryz.zeroValue224
 t173 := Tryz.underlying227
 a173 := Tryz.isAgg227
 z173 := Tryz.sizeOf227
 v173 := Tryz.zeroValue227
 t212 := Tryz.underlying237
 a212 := Tryz.isAgg237
 z212 := Tryz.sizeOf237
 v212 := Tryz.zeroValue237
 t213 := Tryz.underlying239
 a213 := Tryz.isAgg239
 z213 := Tryz.sizeOf239
 t232 := Tryz.underlying248
 a232 := Tryz.isAgg248
 z232 := Tryz.sizeOf248
 v232 := Tryz.zeroValue248
 t233 := Tryz.underlying249
 a233 := Tryz.isAgg249
 z233 := Tryz.sizeOf249
 v233 := Tryz.zeroValue249
 g17 := by kernel_rfl
 g18 := by kernel_rfl
 g19 := by kernel_rfl
 i0 := by kernel_rfl
 i2 := by kernel_rfl
 i3 := by kernel_rfl
 i4 := by kernel_rfl
 i5 := by kernel_rfl
 i9 := by kernel_rfl
 i20 := by kernel_rfl
 i37 := by kernel_rfl
 i46 := by kernel_rfl
 i51 := by kernel_rfl
 i53 := by kernel_rfl
 i171 := by kernel_rfl
 i173 := by kernel_rfl
 i212 := by kernel_rfl
 i232 := by kernel_rfl
 i233 := by kernel_rfl
 m17 := by kernel_rfl
 m18 := by kernel_rfl
 m19 := by kernel_rfl }
open Go.RowKit Go.Sort Go.Lib in
theorem Tryz.strconv_Itoa (n : Int) (h0 : -9223372036854775808 ≤ n) (h1 : n ≤ 9223372036854775807) (w : World) (htab : Lib.TabIs Tryz.prog w "internal/strconv.uint64pow10" .u64 Lib.pow10Tab) :
 Calls Tryz.prog 37 #[.int .i64 n] w fun e w' => e = .returned (.string ⟨(Lib.itoa n).toArray⟩) ∧ ∃ k os,w' = grow (w.drewN k) os := Any.strconv_Itoa Tryz.laysM171 n h0 h1 w htab
def Tryz.laysM173_ren : Go.Shelf.Ren := ⟨fun | 173 => 77 | 246 => 109 | 283 => 128 | 284 => 129 | 285 => 130 | 286 => 131 | 129 => 145 | 317 => 144 | 318 => 146 | 319 => 147 | 320 => 148 | 337 => 152 | 338 => 153 | n => n,fun | 2 => 2 | 3 => 3 | 9 => 9 | 4 => 4 | 171 => 224 | 0 => 0 | 53 => 139 | 37 => 22 | 5 => 5 | 173 => 227 | 212 => 237 | 51 => 238 | 20 => 20 | 213 => 239 | 46 => 241 | 232 => 248 | 233 => 249 | n => n,fun | 17 => 4 | 18 => 5 | 19 => 6 | n => n⟩
theorem Tryz.laysM173 : Go.Proofs.LaysM.n173 Tryz.prog Tryz.laysM173_ren := {
 mixed := by kernel_rfl
 f129 := Tryz.func145.trans (congrArg some (by kernel_rfl))
 f173 := Tryz.func77.trans (congrArg some (by kernel_rfl))
 f246 := Tryz.func109.trans (congrArg some (by kernel_rfl))
 f283 := Tryz.func128.trans (congrArg some (by kernel_rfl))
 f284 := Tryz.func129.trans (congrArg some (by kernel_rfl))
 f285 := Tryz.func130.trans (congrArg some (by kernel_rfl))
 f286 := Tryz.func131.trans (congrArg some (by kernel_rfl))
 f317 := Tryz.func144.trans (congrArg some (by kernel_rfl))
 f318 := Tryz.func146.trans (congrArg some (by kernel_rfl))
 f319 := Tryz.func147.trans (congrArg some (by kernel_rfl))
 f320 := Tryz.func148.trans (congrArg some (by kernel_rfl))
 f337 := Tryz.func152.trans (congrArg some (by kernel_rfl))
 f338 := Tryz.func153.trans (congrArg some (by kernel_rfl))
 t0 := Tryz.underlying0
 a0 := Tryz.isAgg0
 z0 := Tryz.sizeOf0
 v0 := Tryz.zeroValue0
 t2 := Tryz.underlying2
 a2 := Tryz.isAgg2
 z2 := Tryz.sizeOf2
 v2 := Tryz.zeroValue2
 t3 := Tryz.underlying3
 a3 := Tryz.isAgg3
 z3 := Tryz.sizeOf3
 v3 := Tryz.zeroValue3
 t4 := Tryz.underlying4
 a4 := Tryz.isAgg4
 z4 := Tryz.sizeOf4
 v4 := Tryz.zeroValue4
 t5 := Tryz.underlying5
 a5 := Tryz.isAgg5
 z5 := Tryz.sizeOf5
 v5 := Tryz.zeroValue5
 t9 := Tryz.underlying9
 a9 := Tryz.isAgg9
 z9 := Tryz.sizeOf9
 v9 := Tryz.zeroValue9
 t20 := Tryz.underlying20
 a20 := Tryz.isAgg20
 z20 := Tryz.sizeOf20
 v20 := Tryz.zeroValue20
 t37 := Tryz.underlying22
 a37 := Tryz.isAgg22
 z37 := Tryz.sizeOf22
 v37 := Tryz.zeroValue22
 t46 := Tryz.underlying241
 a46 := Tryz.isAgg241
 z46 := Tryz.sizeOf241
 v46 := Tryz.zeroValue241
 t51 := Tryz.underlying238
 a51 := Tryz.isAgg238
 z51 := Tryz.sizeOf238
 v51 := Tryz.zeroValue238
 t53 := Tryz.underlying139
 a53 := Tryz.isAgg139
 z53 := Tryz.sizeOf139
 v53 := Tryz.zeroValue139
 t171 := Tryz.underlying224
 a171 := Tryz.isAgg224
 z171 := Tryz.sizeOf224
 v171 := Tryz.zeroValue224
 t173 := Tryz.underlying227
 a173 := Tryz.isAgg227
 z173 := Tryz.sizeOf227
 v173 := Tryz.zeroValue227
 t212 := Tryz.underlying237
 a212 := Tryz.isAgg237
 z212 := Tryz.sizeOf237
 v212 := Tryz.zeroValue237
 t213 := Tryz.underlying239
 a213 := Tryz.isAgg239
 z213 := Tryz.sizeOf239
 t232 := Tryz.underlying248
 a232 := Tryz.isAgg248
 z232 := Tryz.sizeOf248
 v232 := Tryz.zeroValue248
 t233 := Tryz.underlying249
 a233 := Tryz.isAgg249
 z233 := Tryz.sizeOf249
 v233 := Tryz.zeroValue249
 g17 := by kernel_rfl
 g18 := by kernel_rfl
 g19 := by kernel_rfl
 i0 := by kernel_rfl
 i2 := by kernel_rfl
 i3 := by kernel_rfl
 i4 := by kernel_rfl
 i5 := by kernel_rfl
 i9 := by kernel_rfl
 i20 := by kernel_rfl
 i37 := by kernel_rfl
 i46 := by kernel_rfl
 i51 := by kernel_rfl
 i53 := by kernel_rfl
 i171 := by kernel_rfl
 i173 := by kernel_rfl
 i212 := by kernel_rfl
 i232 := by kernel_rfl
 i233 := by kernel_rfl
 m17 := by kernel_rfl
 m18 := by kernel_rfl
 m19 := by kernel_rfl }
open Go.RowKit Go.Sort Go.Lib in
theorem Tryz.strconv_FormatInt_10 (n : Int) (h0 : -9223372036854775808 ≤ n) (h1 : n ≤ 9223372036854775807) (w : World) (htab : Lib.TabIs Tryz.prog w "internal/strconv.uint64pow10" .u64 Lib.pow10Tab) :
 Calls Tryz.prog 77 #[.int .i64 n,.int .i64 10] w fun e w' => e = .returned (.string ⟨(Lib.itoa n).toArray⟩) ∧ ∃ k os,w' = grow (w.drewN k) os := Any.strconv_FormatInt_10 Tryz.laysM173 n h0 h1 w htab
end Go.Proofs
namespace Go.Proofs.YtmbiojpcidccjaaGreatDoor
open Go.RowKit Go.Par Go.Sx
def Gt (H : Hp) : Prop := ∀ W,Agr H W → Lib.TabIs Tryz.prog W "internal/strconv.uint64pow10" .u64 Lib.pow10Tab
theorem Gt.up {H H' : Hp} (g : Gt H) (u : Up H H') : Gt H' := fun W a => g W fun b o e => a b o (u b o e)
theorem ext_grow {w : World} (os : Array Obj) : Ext w (Sort.grow w os) :=
 Ext.of_below ⟨rfl,rfl,rfl,by simp [Sort.grow],fun k hk => by simp [Sort.grow,Array.getElem?_append,hk]⟩
theorem formatInt_any (H : Hp) (g : Gt H) (n : Int64) (w : World) (hA : Agr H w) : Calls Tryz.prog 77 #[.int .i64 n.toInt,.int .i64 10] w fun r w' => r = .returned (strV (Lib.itoa n.toInt)) ∧ Ext w w' :=
 (Tryz.strconv_FormatInt_10 n.toInt (by have := n.le_toInt;omega) (by have := n.toInt_lt;omega) w (g w hA)).mono fun _ _ ⟨he,k,os,hw⟩ => ⟨he,hw ▸ ((Ext.refl w).drewN k).trans (ext_grow os)⟩
def TextOf (H : Hp) (e : Ex) : Prop := ∀ (cs : List Value) (w : World),Rep H (dEx .u8 e) cs → Ex.all frmE e = true → e.text.length ≤ 1000000000 → Agr H w →
 Calls Tryz.prog 52 #[.agg cs.toArray] w fun r w' => r = .returned (strV e.text) ∧ Ext w w'
set_option maxRecDepth 100000 in
theorem operand_any (H : Hp) (G : Gl H) (e : Ex) (ht : TextOf H e) (cs : List Value) (h : Rep H (dEx .u8 e) cs) (hf : Ex.all frmE e = true) (hl : e.text.length ≤ 1000000000) (k : Nat) (w : World) (hA : Agr H w) :
 Calls Tryz.prog 92 #[.agg cs.toArray,.int .i64 (k : Nat)] w fun r w' => r = .returned (strV (opT k ((shapeOf e.op).lv,e.text))) ∧ Ext w w' := by
 obtain ⟨op,nm,nn,args⟩ := e
 obtain ⟨p,c,rfl,hs,hnm⟩ := ex_open h
 refine Sx.enter (H := H) Tryz.func92 rfl Tryz.ntmps92 rfl hA ?_
 refine .sr<|.bx Z Z Z fun b2 => .a Z Z<|.nt<|.sq<|.sr<|.yv (.fieldAddr Z Fx.field60_0) Z<|.yv (.load Z Fx.agg57 (.head _) Z) Z<|.yv (.call Fx.call91 Z (fun W s => shape_any H G op W s.agr)) Z<|.m Z Z<|.yv (.extract Z Z) Z<|.yv (.extract Z Z) Z<|.al Fx.zero180 Z fun b5 => .sV .head Z Z Fx.size180 Z (by simp [shapeC,Value.oneCell',strV]) Z<|.a Z Z<|.ns<|.yv (.fieldAddr Z Fx.field180_2) Z<|.yv (.load Z Fx.agg3 (.head _) Z) Z<|.m Z Z<|.yv (.lss Z Z) Z<|.nt<|.cd Z (fun h16 => ?_) (fun h16 => ?_)
 ·try simp only [dt] at h16
  refine .sr<|.yv (.loadW Z Fx.agg60 (.tail _<|.head _) Z) Z<|.yv (.call Fx.call52 Z (fun W s => ht _ W h hf hl s.agr)) Z<|.yv (.app Z Z (by simp;omega)) Z<|.yv (.app Z Z (by simp;omega)) Z<|.a Z Z<|.nt<|.rt<|.tR<|?_
  refine Sx.ret1 (.inl rfl) rfl (.tmp rfl) fun W s => ⟨?_,s.ext⟩
  first
   | (rw [opT,if_pos (by show (shapeOf op).lv < k;omega)] <;> rfl)
   | (rw [opT,if_neg (by show ¬ (shapeOf op).lv < k;omega)] <;> rfl)
 try simp only [df] at h16
 refine .sk<|.tN<|.sr<|.yv (.loadW Z Fx.agg60 (.tail _<|.head _) Z) Z<|.yv (.call Fx.call52 Z (fun W s => ht _ W h hf hl s.agr)) Z<|.a Z Z<|.nt<|.rt<|?_
 refine Sx.ret1 (.inl rfl) rfl (.tmp rfl) fun W s => ⟨?_,s.ext⟩
 first
  | (rw [opT,if_pos (by show (shapeOf op).lv < k;omega)] <;> rfl)
  | (rw [opT,if_neg (by show ¬ (shapeOf op).lv < k;omega)] <;> rfl)
theorem lalls_at {q : Ex → Bool} {l : List Ex} {k : Nat} (h : k < l.length) (ha : Ex.alls q l = true) : Ex.all q l[k] = true := by
 cases hb : Ex.all q l[k] with
 | true => rfl
 | false => rw [alls_bad h hb] at ha;cases ha
set_option maxRecDepth 100000 in
theorem text_any (H : Hp) (G : Gl H) (g : Gt H) (e : Ex) : TextOf H e := by
 induction e using Ex.ind with | _ op nm nn args ih
 intro cs w h hf hl hA
 obtain ⟨p,c,rfl,hs,hnm⟩ := ex_open h
 rw [all_mk,Bool.and_eq_true] at hf
 obtain ⟨hf1,hf2⟩ := hf
 simp only [frmE,Bool.and_eq_true,decide_eq_true_eq] at hf1
 obtain ⟨⟨⟨hok,har⟩,_⟩,_⟩ := hf1
 refine Sx.enter (H := H) Tryz.func52 rfl Tryz.ntmps52 rfl hA ?_
 refine .sr<|.bx Z Z Z fun b1 => .a Z Z<|.ns<|.yv (.fieldAddr Z Fx.field60_0) Z<|.yv (.load Z Fx.agg57 (.head _) Z) Z<|.yv (.call Fx.call91 Z (fun W s => shape_any H G op W s.agr)) Z<|.m Z Z<|.yv (.extract Z Z) Z<|.yv (.extract Z Z) Z<|.al Fx.zero180 Z fun b3 => .sV .head Z Z Fx.size180 Z (by simp [shapeC,Value.oneCell',strV]) Z<|.a Z Z<|.nt<|.sq<|.sr<|.yv (.fieldAddr Z Fx.field60_0) Z<|.yv (.load Z Fx.agg57 (.tail _<|.head _) Z) Z<|.nt<|.bk<|.sr<|.yv (.eql Z Z) Z<|.a Z Z<|.nt<|.cd Z (fun h14 => ?_) (fun h14 => ?_)
 ·try simp only [dt] at h14
  have e1 : op = 1 := UInt8.toNat_inj.1 (by show op.toNat = 1;omega)
  refine .sr<|.yv (.fieldAddr Z Fx.field60_2) Z<|.yv (.load Z Fx.agg2 (.tail _<|.head _) Z) Z<|.yv (.call Fx.call77 Z (fun W s => formatInt_any H g nn W s.agr)) Z<|.a Z Z<|.nt<|.rt<|.bR<|.tR<|?_
  refine Sx.ret1 (.inl rfl) rfl (.tmp rfl) fun W s => ⟨?_,s.ext⟩
  first
   | (rw [text_mk,txt,if_pos e1] <;> rfl)
   | (rw [text_mk,txt,if_neg e1,if_pos q2] <;> rfl)
   | (rw [text_mk,txt,if_neg e1,if_neg q2,if_pos q3,map_getD h0] <;> rfl)
   | (rw [text_mk,txt,if_neg e1,if_neg q2,if_neg q3,if_pos q4,map_getD h0] <;> rfl)
   | (rw [text_mk,txt,if_neg e1,if_neg q2,if_neg q3,if_neg q4,if_pos q5] <;> rfl)
   | (rw [text_mk,txt,if_neg e1,if_neg q2,if_neg (not_or.2 q3),if_neg (not_or.2 q4),if_neg q5,map_getD h0,map_getD h1] <;> rfl)
 try simp only [df] at h14
 have e1 : ¬ op = 1 := fun e => h14 (by rw [e];rfl)
 refine .cu (X := Bool) [(1,_),(3,_),(13,_)] ⟨rfl,rfl,rfl,trivial⟩ (fun z => [(19,.bool z)]) (fun z => H) (fun z => [.box b3 (shapeC (shapeOf op)) 180,.box b1 [.int .u8 op.toNat,strV nm,.int .i64 nn.toInt,.slice p args.length c] 60]) (fun z => z = decide (op = 5 ∨ op = 8)) ?_ fun z hC => ?_
 ·
  refine .sr<|.yv (.eql Z Z) Z<|.a Z Z<|.nt<|.cd Z (fun h19 => ?_) (fun h19 => ?_)
  ·skip
   exact .sk<|.tN<|.me _ ⟨rfl,trivial⟩ ⟨rfl,rfl,rfl,trivial⟩ (fun _ s => s) (by rw [Bool.eq_iff_iff];simp only [decide_eq_true_eq,← UInt8.toNat_inj,show (UInt8.toNat 5) = 5 from Z,show (UInt8.toNat 8) = 8 from Z];(try simp only [decide_eq_true_eq,decide_eq_false_iff_not] at *);omega)
  skip
  exact .rg<|.yv (.eql Z Z) Z<|.a Z Z<|.nt<|.me _ ⟨rfl,trivial⟩ ⟨rfl,rfl,rfl,trivial⟩ (fun _ s => s) (by rw [Bool.eq_iff_iff];simp only [decide_eq_true_eq,← UInt8.toNat_inj,show (UInt8.toNat 5) = 5 from Z,show (UInt8.toNat 8) = 8 from Z];(try simp only [decide_eq_true_eq,decide_eq_false_iff_not] at *);omega)
 have e2 := hC
 refine .cd Z (fun h19 => ?_) (fun h19 => ?_)
 ·have q2 : op = 5 ∨ op = 8 := by rw [h19] at e2;simpa using e2.symm
  have ht := shape_tx op
  refine .sr<|.yv (.fieldAddr Z Fx.field180_3) Z<|.yv (.load Z Fx.agg9 (.head _) Z) Z<|.yv (.fieldAddr Z Fx.field60_1) Z<|.yv (.load Z Fx.agg9 (.tail _<|.head _) Z) Z<|.yv (.app Z Z (by (try simp only [List.length_append,List.length_cons,List.length_nil]);omega)) Z<|.a Z Z<|.nt<|.rt<|.bR<|.tR<|?_
  refine Sx.ret1 (.inl rfl) rfl (.tmp rfl) fun W s => ⟨?_,s.ext⟩
  first
   | (rw [text_mk,txt,if_pos e1] <;> rfl)
   | (rw [text_mk,txt,if_neg e1,if_pos q2] <;> rfl)
   | (rw [text_mk,txt,if_neg e1,if_neg q2,if_pos q3,map_getD h0] <;> rfl)
   | (rw [text_mk,txt,if_neg e1,if_neg q2,if_neg q3,if_pos q4,map_getD h0] <;> rfl)
   | (rw [text_mk,txt,if_neg e1,if_neg q2,if_neg q3,if_neg q4,if_pos q5] <;> rfl)
   | (rw [text_mk,txt,if_neg e1,if_neg q2,if_neg (not_or.2 q3),if_neg (not_or.2 q4),if_neg q5,map_getD h0,map_getD h1] <;> rfl)
 have q2 : ¬ (op = 5 ∨ op = 8) := by rw [h19] at e2;simpa using e2.symm
 refine .cu (X := Bool) [(1,_),(3,_),(13,_)] ⟨rfl,rfl,rfl,trivial⟩ (fun z => [(27,.bool z)]) (fun z => H) (fun z => [.box b3 (shapeC (shapeOf op)) 180,.box b1 [.int .u8 op.toNat,strV nm,.int .i64 nn.toInt,.slice p args.length c] 60]) (fun z => z = decide (op = 6 ∨ op = 7)) ?_ fun z hC => ?_
 ·
  refine .sr<|.yv (.eql Z Z) Z<|.a Z Z<|.nt<|.cd Z (fun h27 => ?_) (fun h27 => ?_)
  ·skip
   exact .sk<|.tN<|.me _ ⟨rfl,trivial⟩ ⟨rfl,rfl,rfl,trivial⟩ (fun _ s => s) (by rw [Bool.eq_iff_iff];simp only [decide_eq_true_eq,← UInt8.toNat_inj,show (UInt8.toNat 6) = 6 from Z,show (UInt8.toNat 7) = 7 from Z];(try simp only [decide_eq_true_eq,decide_eq_false_iff_not] at *);omega)
  skip
  exact .rg<|.yv (.eql Z Z) Z<|.a Z Z<|.nt<|.me _ ⟨rfl,trivial⟩ ⟨rfl,rfl,rfl,trivial⟩ (fun _ s => s) (by rw [Bool.eq_iff_iff];simp only [decide_eq_true_eq,← UInt8.toNat_inj,show (UInt8.toNat 6) = 6 from Z,show (UInt8.toNat 7) = 7 from Z];(try simp only [decide_eq_true_eq,decide_eq_false_iff_not] at *);omega)
 have e3 := hC
 refine .cd Z (fun h27 => ?_) (fun h27 => ?_)
 ·have q3 : op = 6 ∨ op = 7 := by rw [h27] at e3;simpa using e3.symm
  have ht := shape_tx op
  have hn1 : (shapeOf op).n = 1 := by rcases q3 with rfl | rfl <;> decide
  have h0 : 0 < args.length := by omega
  obtain ⟨b0,o0,c0,hp0,r0,l0,m0⟩ := hs.elem (map_at h0)
  cases hp0
  have hf0 := lalls_at h0 hf2
  rw [text_mk,txt,if_neg e1,if_neg q2,if_pos q3,map_getD h0] at hl
  simp only [List.length_append,List.length_cons,List.length_nil] at hl
  refine .sq<|.fl (trip := [(_,_,_),(_,_,_),(_,_,_),(_,_,_),(_,_,_),(_,_,_),(_,_,_),(_,_,_),(_,_,_),(_,_,_),(_,_,_),(_,_,_),(_,_,_)]) 13 [(0,0),(1,0),(2,0),(3,0),(4,0),(5,0),(6,0),(7,0),(8,0),(9,0),(10,0),(11,0),(12,0)] (by kernel_rfl) (by kernel_rfl) Z<|.yv (.fieldAddr Z Fx.field180_3) Z<|.yv (.load Z Fx.agg9 (.head _) Z) Z<|.yv (.fieldAddr Z Fx.field60_1) Z<|.yv (.load Z Fx.agg9 (.tail _<|.head _) Z) Z<|.yv (.app Z Z (by (try simp only [List.length_append,List.length_cons,List.length_nil]);omega)) Z<|.yv (.app Z Z (by (try simp only [List.length_append,List.length_cons,List.length_nil]);omega)) Z<|.yv (.fieldAddr Z Fx.field60_3) Z<|.yv (.load Z Fx.agg58 (.tail _<|.head _) Z) Z<|.yv (.indexSl Fx.sl58 Z Z (i := 0) Z (by omega) (q := o0 + 0 * 4) Z) Z<|.yv (.loadMW Z Fx.agg60 m0 l0) Z<|.yv (.call Fx.call52 Z (fun W s => ih _ (List.getElem_mem h0) _ W r0 hf0 (by omega) s.agr)) Z<|.yv (.app Z Z (by (try simp only [List.length_append,List.length_cons,List.length_nil]);omega)) Z<|.yv (.app Z Z (by (try simp only [List.length_append,List.length_cons,List.length_nil]);omega)) Z<|.fn (tl := [_]) Z<|.a Z Z<|.nt<|.rt<|.bR<|.tR<|?_
  refine Sx.ret1 (.inl rfl) rfl (.tmp rfl) fun W s => ⟨?_,s.ext⟩
  first
   | (rw [text_mk,txt,if_pos e1] <;> rfl)
   | (rw [text_mk,txt,if_neg e1,if_pos q2] <;> rfl)
   | (rw [text_mk,txt,if_neg e1,if_neg q2,if_pos q3,map_getD h0] <;> rfl)
   | (rw [text_mk,txt,if_neg e1,if_neg q2,if_neg q3,if_pos q4,map_getD h0] <;> rfl)
   | (rw [text_mk,txt,if_neg e1,if_neg q2,if_neg q3,if_neg q4,if_pos q5] <;> rfl)
   | (rw [text_mk,txt,if_neg e1,if_neg q2,if_neg (not_or.2 q3),if_neg (not_or.2 q4),if_neg q5,map_getD h0,map_getD h1] <;> rfl)
 have q3 : ¬ (op = 6 ∨ op = 7) := by rw [h27] at e3;simpa using e3.symm
 refine .cu (X := Bool) [(1,_),(3,_)] ⟨rfl,rfl,trivial⟩ (fun z => [(43,.bool z)]) (fun z => H) (fun z => [.box b3 (shapeC (shapeOf op)) 180,.box b1 [.int .u8 op.toNat,strV nm,.int .i64 nn.toInt,.slice p args.length c] 60]) (fun z => z = decide (op = 9 ∨ op = 10)) ?_ fun z hC => ?_
 ·
  refine .sr<|.yv (.eql Z Z) Z<|.a Z Z<|.nt<|.cd Z (fun h43 => ?_) (fun h43 => ?_)
  ·skip
   exact .sk<|.tN<|.me _ ⟨rfl,trivial⟩ ⟨rfl,rfl,trivial⟩ (fun _ s => s) (by rw [Bool.eq_iff_iff];simp only [decide_eq_true_eq,← UInt8.toNat_inj,show (UInt8.toNat 9) = 9 from Z,show (UInt8.toNat 10) = 10 from Z];(try simp only [decide_eq_true_eq,decide_eq_false_iff_not] at *);omega)
  skip
  exact .rg<|.yv (.eql Z Z) Z<|.a Z Z<|.nt<|.me _ ⟨rfl,trivial⟩ ⟨rfl,rfl,trivial⟩ (fun _ s => s) (by rw [Bool.eq_iff_iff];simp only [decide_eq_true_eq,← UInt8.toNat_inj,show (UInt8.toNat 9) = 9 from Z,show (UInt8.toNat 10) = 10 from Z];(try simp only [decide_eq_true_eq,decide_eq_false_iff_not] at *);omega)
 have e4 := hC
 refine .cd Z (fun h43 => ?_) (fun h43 => ?_)
 ·have q4 : op = 9 ∨ op = 10 := by rw [h43] at e4;simpa using e4.symm
  have ht := shape_tx op
  have hn1 : (shapeOf op).n = 1 := by rcases q4 with rfl | rfl <;> decide
  have h0 : 0 < args.length := by omega
  obtain ⟨b0,o0,c0,hp0,r0,l0,m0⟩ := hs.elem (map_at h0)
  cases hp0
  have hf0 := lalls_at h0 hf2
  rw [text_mk,txt,if_neg e1,if_neg q2,if_neg q3,if_pos q4,map_getD h0] at hl
  simp only [List.length_append] at hl
  have ho := opT_len (shapeOf op).lv ((shapeOf args[0].op).lv,args[0].text)
  dsimp only at ho
  refine .sq<|.fl (trip := [(_,_,_),(_,_,_),(_,_,_),(_,_,_),(_,_,_),(_,_,_),(_,_,_),(_,_,_),(_,_,_),(_,_,_)]) 10 [(0,0),(1,0),(2,0),(3,0),(4,0),(5,0),(6,0),(7,0),(8,0),(9,0)] (by kernel_rfl) (by kernel_rfl) Z<|.yv (.fieldAddr Z Fx.field180_3) Z<|.yv (.load Z Fx.agg9 (.head _) Z) Z<|.yv (.fieldAddr Z Fx.field60_3) Z<|.yv (.load Z Fx.agg58 (.tail _<|.head _) Z) Z<|.yv (.indexSl Fx.sl58 Z Z (i := 0) Z (by omega) (q := o0 + 0 * 4) Z) Z<|.yv (.loadMW Z Fx.agg60 m0 l0) Z<|.yv (.fieldAddr Z Fx.field180_2) Z<|.yv (.load Z Fx.agg3 (.head _) Z) Z<|.yv (.call Fx.call92 Z (fun W s => operand_any H G _ (ih _ (List.getElem_mem h0)) _ r0 hf0 (by omega) (shapeOf op).lv W s.agr)) Z<|.yv (.app Z Z (by (try simp only [List.length_append,List.length_cons,List.length_nil]);omega)) Z<|.fn (tl := [_]) Z<|.a Z Z<|.nt<|.rt<|.bR<|.tR<|?_
  refine Sx.ret1 (.inl rfl) rfl (.tmp rfl) fun W s => ⟨?_,s.ext⟩
  first
   | (rw [text_mk,txt,if_pos e1] <;> rfl)
   | (rw [text_mk,txt,if_neg e1,if_pos q2] <;> rfl)
   | (rw [text_mk,txt,if_neg e1,if_neg q2,if_pos q3,map_getD h0] <;> rfl)
   | (rw [text_mk,txt,if_neg e1,if_neg q2,if_neg q3,if_pos q4,map_getD h0] <;> rfl)
   | (rw [text_mk,txt,if_neg e1,if_neg q2,if_neg q3,if_neg q4,if_pos q5] <;> rfl)
   | (rw [text_mk,txt,if_neg e1,if_neg q2,if_neg (not_or.2 q3),if_neg (not_or.2 q4),if_neg q5,map_getD h0,map_getD h1] <;> rfl)
 have q4 : ¬ (op = 9 ∨ op = 10) := by rw [h43] at e4;simpa using e4.symm
 refine .sk<|.bN<|.tN<|.sq<|.sr<|.yv (.fieldAddr Z Fx.field180_0) Z<|.yv (.load Z Fx.agg3 (.head _) Z) Z<|.yv (.eql Z Z) Z<|.nt<|.cd Z (fun h58 => ?_) (fun h58 => ?_)
 ·try simp only [dt] at h58
  have q5 : (shapeOf op).n = 0 := by omega
  refine .sr<|.yv (.fieldAddr Z Fx.field180_3) Z<|.yv (.load Z Fx.agg9 (.head _) Z) Z<|.a Z Z<|.nt<|.rt<|.tR<|?_
  refine Sx.ret1 (.inl rfl) rfl (.tmp rfl) fun W s => ⟨?_,s.ext⟩
  first
   | (rw [text_mk,txt,if_pos e1] <;> rfl)
   | (rw [text_mk,txt,if_neg e1,if_pos q2] <;> rfl)
   | (rw [text_mk,txt,if_neg e1,if_neg q2,if_pos q3,map_getD h0] <;> rfl)
   | (rw [text_mk,txt,if_neg e1,if_neg q2,if_neg q3,if_pos q4,map_getD h0] <;> rfl)
   | (rw [text_mk,txt,if_neg e1,if_neg q2,if_neg q3,if_neg q4,if_pos q5] <;> rfl)
   | (rw [text_mk,txt,if_neg e1,if_neg q2,if_neg (not_or.2 q3),if_neg (not_or.2 q4),if_neg q5,map_getD h0,map_getD h1] <;> rfl)
 try simp only [df] at h58
 have q5 : ¬ (shapeOf op).n = 0 := by omega
 have ht := shape_tx op
 have hlv := shape_lv op
 simp only [not_or] at q3 q4
 have hn2 : (shapeOf op).n = 2 := (shape_n hok q3.1 q3.2 q4.1 q4.2).resolve_left q5
 have h0 : 0 < args.length := by omega
 obtain ⟨b0,o0,c0,hp0,r0,l0,m0⟩ := hs.elem (map_at h0)
 cases hp0
 have hf0 := lalls_at h0 hf2
 have h1 : 1 < args.length := by omega
 obtain ⟨b1x,o1,c1,hp1,r1,l1,m1⟩ := hs.elem (map_at h1)
 cases hp1
 have hf1 := lalls_at h1 hf2
 rw [text_mk,txt,if_neg e1,if_neg q2,if_neg (not_or.2 q3),if_neg (not_or.2 q4),if_neg q5,map_getD h0,map_getD h1] at hl
 simp only [List.length_append] at hl
 have ho := opT_len (lftT (shapeOf op).lv) ((shapeOf args[0].op).lv,args[0].text)
 have ho1 := opT_len ((shapeOf op).lv + 1) ((shapeOf args[1].op).lv,args[1].text)
 dsimp only at ho ho1
 refine .sk<|.tN<|.sr<|.yv (.fieldAddr Z Fx.field180_2) Z<|.yv (.load Z Fx.agg3 (.head _) Z) Z<|.a Z Z<|.nt<|.cu (X := Unit) [(1,_),(3,_)] ⟨rfl,rfl,trivial⟩ (fun z => [(5,.int .i64 (lftT (shapeOf op).lv : Nat))]) (fun z => H) (fun z => [.box b3 (shapeC (shapeOf op)) 180,.box b1 [.int .u8 op.toNat,strV nm,.int .i64 nn.toInt,.slice (some ⟨b0,o0,none⟩) args.length c] 60]) (fun z => True) ?_ fun z hC => ?_
 ·
  refine .sr<|.m Z Z<|.yv (.eql Z Z) Z<|.nt<|.cd Z (fun h64 => ?_) (fun h64 => ?_)
  ·try simp only [dt] at h64
   exact .rg<|.m Z Z<|.yv (.add Z Z (w6 (by omega))) Z<|.a Z Z<|.nt<|.me () ⟨(by first | (rw [lftT,if_pos (by omega)];rfl) | (rw [lftT,if_neg (by omega)];rfl)),trivial⟩ ⟨rfl,rfl,trivial⟩ (fun _ s => s) trivial
  try simp only [df] at h64
  exact .sk<|.tN<|.me () ⟨(by first | (rw [lftT,if_pos (by omega)];rfl) | (rw [lftT,if_neg (by omega)];rfl)),trivial⟩ ⟨rfl,rfl,trivial⟩ (fun _ s => s) trivial
 refine .sq<|.fl (trip := [(_,_,_),(_,_,_),(_,_,_),(_,_,_),(_,_,_),(_,_,_),(_,_,_),(_,_,_),(_,_,_),(_,_,_),(_,_,_),(_,_,_),(_,_,_),(_,_,_),(_,_,_),(_,_,_),(_,_,_),(_,_,_)]) 18 [(0,0),(1,0),(2,0),(3,0),(4,0),(5,0),(6,0),(7,0),(8,0),(9,0),(10,0),(11,0),(12,0),(13,0),(14,0),(15,0),(16,0),(17,0)] (by kernel_rfl) (by kernel_rfl) Z<|.yv (.fieldAddr Z Fx.field60_3) Z<|.yv (.load Z Fx.agg58 (.tail _<|.head _) Z) Z<|.yv (.indexSl Fx.sl58 Z Z (i := 0) Z (by omega) (q := o0 + 0 * 4) Z) Z<|.yv (.loadMW Z Fx.agg60 m0 l0) Z<|.m Z Z<|.yv (.call Fx.call92 Z (fun W s => operand_any H G _ (ih _ (List.getElem_mem h0)) _ r0 hf0 (by omega) (lftT (shapeOf op).lv) W s.agr)) Z<|.yv (.fieldAddr Z Fx.field180_3) Z<|.yv (.load Z Fx.agg9 (.head _) Z) Z<|.yv (.app Z Z (by (try simp only [List.length_append,List.length_cons,List.length_nil]);omega)) Z<|.yv (.fieldAddr Z Fx.field60_3) Z<|.yv (.load Z Fx.agg58 (.tail _<|.head _) Z) Z<|.yv (.indexSl Fx.sl58 Z Z (i := 1) Z (by omega) (q := o0 + 1 * 4) Z) Z<|.yv (.loadMW Z Fx.agg60 m1 l1) Z<|.yv (.fieldAddr Z Fx.field180_2) Z<|.yv (.load Z Fx.agg3 (.head _) Z) Z<|.yv (.add Z Z (w6 (by omega))) Z<|.yv (.call Fx.call92 Z (fun W s => operand_any H G _ (ih _ (List.getElem_mem h1)) _ r1 hf1 (by omega) ((shapeOf op).lv + 1) W s.agr)) Z<|.yv (.app Z Z (by (try simp only [List.length_append,List.length_cons,List.length_nil]);omega)) Z<|.fn (tl := [_]) Z<|.a Z Z<|.nt<|.rt<|?_
 refine Sx.ret1 (.inl rfl) rfl (.tmp rfl) fun W s => ⟨?_,s.ext⟩
 first
  | (rw [text_mk,txt,if_pos e1] <;> rfl)
  | (rw [text_mk,txt,if_neg e1,if_pos q2] <;> rfl)
  | (rw [text_mk,txt,if_neg e1,if_neg q2,if_pos q3,map_getD h0] <;> rfl)
  | (rw [text_mk,txt,if_neg e1,if_neg q2,if_neg q3,if_pos q4,map_getD h0] <;> rfl)
  | (rw [text_mk,txt,if_neg e1,if_neg q2,if_neg q3,if_neg q4,if_pos q5] <;> rfl)
  | (rw [text_mk,txt,if_neg e1,if_neg q2,if_neg (not_or.2 q3),if_neg (not_or.2 q4),if_neg q5,map_getD h0,map_getD h1] <;> rfl)
theorem noEscape_run (v : Value) (W : World) : (callFunc 127 [v].toArray).run Tryz.prog W = .ok (.value v) W := by
 rw [run_callFunc_extern Tryz.func127 (by kernel_rfl) (by kernel_rfl) (by kernel_rfl) (e := Extern.AbiNoEscape.same) (by kernel_rfl)]
 rw [show ([v].toArray : Array Value) = #[v] from rfl,Lib.run_noEscape]
 rfl
set_option maxRecDepth 100000 in
theorem copyCheck_st {H : Hp} {w0 W : World} {bs : List Res} {b : Nat} {a : Option Addr} {r i : Value} (s : St H w0 (.box b [.pointer a,r,i] 112 :: bs) W) (ha : a = none ∨ a = some ⟨b,0,none⟩) :
 Calls Tryz.prog 108 #[.pointer (some ⟨b,0,none⟩)] W fun e W' => ∃ _ : Unit,True ∧ e = .returned (.tuple #[]) ∧ St H w0 (.box b [.pointer (some ⟨b,0,none⟩),r,i] 112 :: bs) W' := by
 rcases ha with rfl | rfl
 ·refine Sx.enterS Tryz.func108 rfl Tryz.ntmps108 rfl s ?_
  refine .sr<|.m Z Z<|.yv (.nilCheck Z) Z<|.yv (.fieldAddr Z Fx.field110_0) Z<|.yv (.load Z Fx.agg108 (.head _) Z) Z<|.yv (.eqPn Fx.ptr108 Z Z) Z<|.nt<|.cT Z<|.rg<|.m Z Z<|.m Z Z<|.yv (.toU (m := 1) Fx.pts108 Fx.uns222 (.head _) (nb Z) Z) Z<|.yv (.ext Z (fun W => noEscape_run _ W)) Z<|.yv (.fromU Fx.uns222 Fx.pts108 (.head _) (by kernel_rfl) Z) Z<|.yv (.nilCheck Z) Z<|.yv (.fieldAddr Z Fx.field110_0) Z<|.st .head Z Z Fx.size108 Z (nb Z) Z<|.nl<|?_
  exact Sx.retN (.inr rfl) rfl .nil rfl fun W s => ⟨(),trivial,rfl,s⟩
 ·refine Sx.enterS Tryz.func108 rfl Tryz.ntmps108 rfl s ?_
  refine .sr<|.m Z Z<|.yv (.nilCheck Z) Z<|.yv (.fieldAddr Z Fx.field110_0) Z<|.yv (.load Z Fx.agg108 (.head _) Z) Z<|.yv (.eqPn Fx.ptr108 Z Z) Z<|.nt<|.cF Z<|.sr<|.m Z Z<|.yv (.nilCheck Z) Z<|.yv (.fieldAddr Z Fx.field110_0) Z<|.yv (.load Z Fx.agg108 (.head _) Z) Z<|.m Z Z<|.yv (.neqP Fx.ptr108 Z Z) Z<|.nt<|.cF Z<|.sk<|?_
  exact Sx.retN (.inr rfl) rfl .nil rfl fun W s => ⟨(),trivial,rfl,s⟩
set_option maxRecDepth 100000 in
theorem writeString_st {H : Hp} {w0 W : World} {bs : List Res} {b : Nat} {a : Option Addr} {r i : Value} {l : Str} (t : Str) (s : St H w0 (.box b [.pointer a,r,i] 112 :: .row 5 1 r l.length (l.map byteV) :: bs) W) (ha : a = none ∨ a = some ⟨b,0,none⟩) (hl : l.length + t.length ≤ 140737488355328) :
 Calls Tryz.prog 73 #[.pointer (some ⟨b,0,none⟩),strV t] W fun e W' => ∃ r',True ∧ e = .returned (.tuple #[.int .i64 (t.length : Nat),.nilIface]) ∧ St H w0 (.box b [.pointer (some ⟨b,0,none⟩),r',i] 112 :: .row 5 1 r' (l ++ t).length ((l ++ t).map byteV) :: bs) W' := by
 refine Sx.enterS Tryz.func73 rfl Tryz.ntmps73 rfl s ?_
 refine .sr<|.a Z Z<|.a Z Z<|.ns<|.m Z Z<|.cs (X := Unit) Fx.call108 Z (fun W s => copyCheck_st s ha) Z fun _ _ => .ns<|.m Z Z<|.m Z Z<|.yv (.nilCheck Z) Z<|.yv (.fieldAddr Z Fx.field110_1) Z<|.yv (.load Z Fx.agg22 (.head _) Z) Z<|.m Z Z<|.as (s0 := t) Fx.byt22 Fx.str9 Z (fun _ => .tail .head) Z (by omega) Z fun r2 => ?_
 refine .ra (.tail _ (.head _)) fun p2 c2 e2 => ?_
 subst e2
 refine .yv (.nilCheck Z) Z<|.yv (.fieldAddr Z Fx.field110_1) Z<|.st .head Z Z Fx.size22 Z (nb Z) Z<|.ns<|.m Z Z<|.yv (.lenS Fx.str9 Z) Z<|.a Z Z<|.a Z Z<|.nt<|.rt<|?_
 exact Sx.retN (.inl rfl) rfl (.cons (.tmp rfl) (.cons (.tmp rfl) .nil)) rfl fun W s => ⟨_,trivial,rfl,by simpa using s⟩
set_option maxRecDepth 100000 in
theorem writeByte_st {H : Hp} {w0 W : World} {bs : List Res} {b : Nat} {a : Option Addr} {r i : Value} {l : Str} (c : UInt8) (s : St H w0 (.box b [.pointer a,r,i] 112 :: .row 5 1 r l.length (l.map byteV) :: bs) W) (ha : a = none ∨ a = some ⟨b,0,none⟩) (hl : l.length + 1 ≤ 140737488355328) :
 Calls Tryz.prog 74 #[.pointer (some ⟨b,0,none⟩),byteV c] W fun e W' => ∃ r',True ∧ e = .returned .nilIface ∧ St H w0 (.box b [.pointer (some ⟨b,0,none⟩),r',i] 112 :: .row 5 1 r' (l ++ [c]).length ((l ++ [c]).map byteV) :: bs) W' := by
 refine Sx.enterS Tryz.func74 rfl Tryz.ntmps74 rfl s ?_
 refine .sr<|.a Z Z<|.ns<|.m Z Z<|.cs (X := Unit) Fx.call108 Z (fun W s => copyCheck_st s ha) Z fun _ _ => .ns<|.m Z Z<|.m Z Z<|.yv (.nilCheck Z) Z<|.yv (.fieldAddr Z Fx.field110_1) Z<|.yv (.load Z Fx.agg22 (.head _) Z) Z<|.m Z Z<|.bl Z (Fx.bsl22_1 _) Z fun b13 => .ap (news := [byteV c]) Fx.row22 Z (fun _ => .tail (.tail .head)) Z (.box (.head _) z0) Z (by simp [byteV,Value.oneCell']) (by simp [maxLen];omega) (by omega) Z fun r2 _ => ?_
 refine .ra (.tail _ (.tail _ (.head _))) fun p2 c2 e2 => ?_
 subst e2
 refine .yv (.nilCheck Z) Z<|.yv (.fieldAddr Z Fx.field110_1) Z<|.st (.tail<|.head) Z Z Fx.size22 Z (nb Z) Z<|.ns<|.a Z Z<|.nt<|.rt<|?_
 exact Sx.ret1 (.inl rfl) rfl (.tmp rfl) fun W s => ⟨_,trivial,rfl,by simpa using s.drop⟩
set_option maxRecDepth 100000 in
theorem string_st {H : Hp} {w0 W : World} {bs : List Res} {b g c : Nat} {a : Option Addr} {i : Value} {l : Str} (s : St H w0 (.box b [.pointer a,.slice (some ⟨g,0,none⟩) l.length c,i] 112 :: .row 5 1 (.slice (some ⟨g,0,none⟩) l.length c) l.length (l.map byteV) :: bs) W) (h0 : l ≠ []) (hc : l.length ≤ c) (hl : l.length ≤ 140737488355328) :
 Calls Tryz.prog 39 #[.pointer (some ⟨b,0,none⟩)] W fun e W' => ∃ _ : Unit,True ∧ e = .returned (strV l) ∧ St H w0 [] W' := by
 have hl0 : 0 < l.length := List.length_pos_iff.2 h0
 refine Sx.enterS Tryz.func39 rfl Tryz.ntmps39 rfl s ?_
 refine .sr<|.a Z Z<|.nt<|.sq<|.fl (trip := [(_,_,_),(_,_,_),(_,_,_),(_,_,_),(_,_,_),(_,_,_),(_,_,_),(_,_,_),(_,_,_),(_,_,_)]) 10 [(0,0),(1,0),(2,0),(3,0),(4,0),(5,0),(6,0),(7,0),(8,0),(9,0)] (by kernel_rfl) (by kernel_rfl) Z<|.m Z Z<|.yv (.nilCheck Z) Z<|.yv (.fieldAddr Z Fx.field110_1) Z<|.yv (.load Z Fx.agg22 (.head _) Z) Z<|.yv (.sliceData (by omega) Z) Z<|.m Z Z<|.yv (.nilCheck Z) Z<|.yv (.fieldAddr Z Fx.field110_1) Z<|.yv (.load Z Fx.agg22 (.head _) Z) Z<|.yv (.lenSl Fx.sl22 Z) Z<|.fn (tl := [_,_]) Z<|.us Fx.pts163 (by kernel_rfl) (.tail _ (.head _)) h0 (by omega) Z Z Z Z<|.a Z Z<|.nt<|.rt<|?_
 exact Sx.ret1 (.inl rfl) rfl (.tmp rfl) fun W s => ⟨(),trivial,rfl,s⟩
set_option maxRecDepth 100000 in
theorem line_st {H : Hp} {w0 W : World} {bs : List Res} {b bp : Nat} {a : Option Addr} {r : Value} {ind : Nat} {l : Str} {parts : List Str} (s : St H w0 (.box b [.pointer a,r,.int .i64 (ind : Nat)] 112 :: .row 5 1 r l.length (l.map byteV) :: .box bp (parts.map strV) 9 :: bs) W) (ha : a = none ∨ a = some ⟨b,0,none⟩) (hp : parts.length ≤ 1000) (hl : l.length + 2 * ind + parts.flatten.length + 1 ≤ 100000000000000) :
 Calls Tryz.prog 35 #[.pointer (some ⟨b,0,none⟩),.slice (some ⟨bp,0,none⟩) parts.length parts.length] W fun e W' => ∃ r',True ∧ e = .returned (.tuple #[]) ∧ St H w0 (.box b [.pointer (some ⟨b,0,none⟩),r',.int .i64 (ind : Nat)] 112 :: .row 5 1 r' (l ++ lineT ind parts).length ((l ++ lineT ind parts).map byteV) :: .box bp (parts.map strV) 9 :: bs) W' := by
 refine Sx.enterS Tryz.func35 rfl Tryz.ntmps35 rfl s ?_
 refine .sq<|.sr<|.m Z Z<|.yv (.nilCheck Z) Z<|.yv (.fieldAddr Z Fx.field112_1) Z<|.yv (.load Z Fx.agg3 (.head _) Z) Z<|.m Z Z<|.nt<|.bk<|.lp (X := Nat × Option Addr × Value) [(0,_),(1,_),(9,_)] ⟨rfl,rfl,rfl,trivial⟩ (.box bp (parts.map strV) 9 :: bs) (fun z => [(10,.int .i64 (z.1 : Nat))]) (fun z => H) (fun z => [.box b [.pointer z.2.1,z.2.2,.int .i64 (ind : Nat)] 112,.row 5 1 z.2.2 (l ++ spT z.1).length ((l ++ spT z.1).map byteV)]) (fun z => z.1 ≤ ind ∧ (z.2.1 = none ∨ z.2.1 = some ⟨b,0,none⟩)) (fun z => ind - z.1) (0,a,r) (fun _ s => by simpa [spT] using s) ⟨rfl,trivial⟩ ⟨by simp,ha⟩ fun z hC => ?_
 obtain ⟨k,a,r⟩ := z
 dsimp only at hC ⊢
 obtain ⟨hk,ha⟩ := hC
 have hsk := spT_len k
 have hsi := spT_len ind
 refine .sr<|.yv (.lss Z Z) Z<|.nt<|.sq<|.cd Z (fun h11 => ?_) (fun h11 => ?_)
 ·try simp only [dt] at h11
  exact .sk<|.tN<|.sq<|.bk<|.rg<|.m Z Z<|.yv (.nilCheck Z) Z<|.yv (.fieldAddr Z Fx.field112_0) Z<|.cs (X := Value) Fx.call73 Z (fun W s => writeString_st [32,32] s ha (by simp only [List.length_append,List.length_cons,List.length_nil];omega)) Z fun r2 _ => .nl<|.bN<|.tN<|.rg<|.yv (.add Z Z (w6 (by omega))) Z<|.m Z Z<|.nt<|.ag (x := (k,a,r)) (k + 1,some ⟨b,0,none⟩,r2) ⟨rfl,trivial⟩ ⟨rfl,rfl,rfl,trivial⟩ (fun _ s => by simpa [spT] using s) ⟨by dsimp only;omega,.inr Z⟩ (by dsimp only;omega)
 try simp only [df] at h11
 obtain rfl : k = ind := by omega
 refine .ex<|.tE<|.tE<|.bE<|.tN<|.sq<|.sr<|.m Z Z<|.yv (.lenSl Fx.sl66 Z) Z<|.m Z Z<|.nt<|.bk<|.lp (X := Nat × Option Addr × Value) [(0,_),(17,_),(18,_)] ⟨rfl,rfl,rfl,trivial⟩ (.box bp (parts.map strV) 9 :: bs) (fun z => [(19,.int .i64 (z.1 : Nat))]) (fun z => H) (fun z => [.box b [.pointer z.2.1,z.2.2,.int .i64 (k : Nat)] 112,.row 5 1 z.2.2 (l ++ spT k ++ (parts.take z.1).flatten).length ((l ++ spT k ++ (parts.take z.1).flatten).map byteV)]) (fun z => z.1 ≤ parts.length ∧ (z.2.1 = none ∨ z.2.1 = some ⟨b,0,none⟩)) (fun z => parts.length - z.1) (0,a,r) (fun _ s => by simpa using s) ⟨rfl,trivial⟩ ⟨by simp,ha⟩ fun z hC => ?_
 obtain ⟨j,a,r⟩ := z
 dsimp only at hC ⊢
 obtain ⟨hj,ha⟩ := hC
 have hfl := flat_take_len parts j
 refine .sr<|.yv (.lss Z Z) Z<|.nt<|.sq<|.cd Z (fun h20 => ?_) (fun h20 => ?_)
 ·try simp only [dt] at h20
  have hjl : j < parts.length := by omega
  have hf2 := flat_take_len parts (j + 1)
  rw [flat_succ hjl,List.length_append] at hf2
  exact .sk<|.tN<|.sq<|.bk<|.sr<|.yv (.indexSl Fx.sl66 Z Z Z (by omega) (q := j) (by omega)) Z<|.yv (.load (v := strV parts[j]) Z Fx.agg9 (.tail _<|.tail _<|.head _) (by rw [List.getElem?_map,List.getElem?_eq_getElem hjl];rfl)) Z<|.a Z Z<|.nt<|.rg<|.m Z Z<|.yv (.nilCheck Z) Z<|.yv (.fieldAddr Z Fx.field112_0) Z<|.m Z Z<|.cs (X := Value) Fx.call73 Z (fun W s => writeString_st parts[j] s ha (by simp only [List.length_append,List.length_cons,List.length_nil];omega)) Z fun r3 _ => .nl<|.bN<|.tN<|.rg<|.yv (.add Z Z (w6 (by omega))) Z<|.m Z Z<|.nt<|.ag (x := (j,a,r)) (j + 1,some ⟨b,0,none⟩,r3) ⟨rfl,trivial⟩ ⟨rfl,rfl,rfl,trivial⟩ (fun _ s => by dsimp only;rw [flat_succ hjl];simpa using s) ⟨by dsimp only;omega,.inr Z⟩ (by dsimp only;omega)
 try simp only [df] at h20
 obtain rfl : j = parts.length := by omega
 rw [List.take_length]
 refine .ex<|.tE<|.tE<|.bE<|.tN<|.rg<|.m Z Z<|.yv (.nilCheck Z) Z<|.yv (.fieldAddr Z Fx.field112_0) Z<|.cs (X := Value) Fx.call74 Z (fun W s => writeByte_st 10 s ha (by simp only [List.length_append,List.length_cons,List.length_nil];omega)) Z fun r4 _ => .nl<|?_
 exact Sx.retN (.inr rfl) rfl .nil rfl fun W s => ⟨_,trivial,rfl,by simpa [lineT] using s⟩
theorem lineT_len (n : Nat) (l : List Str) : (lineT n l).length = 2 * n + l.flatten.length + 1 := by simp only [lineT,List.length_append,spT_len,List.length_cons,List.length_nil]
set_option maxRecDepth 100000 in
theorem line_w {H : Hp} {w0 W : World} {bs : List Res} {b : Nat} {a : Option Addr} {r : Value} {ind : Nat} {t : Str} {bp : Nat} {parts : List Str} (ha : (a = none ∨ a = some ⟨b,0,none⟩)) (hp : parts.length ≤ 1000) (hl : t.length + (lineT ind parts).length ≤ 100000000000000) (s : St H w0 (.box b [.pointer a,r,.int .i64 (ind : Nat)] 112 :: .row 5 1 r (t).length ((t).map byteV) :: .box bp (parts.map strV) 9 :: bs) W) :
 Calls Tryz.prog 35 #[.pointer (some ⟨b,0,none⟩),.slice (some ⟨bp,0,none⟩) parts.length parts.length] W fun e W' => ∃ r',True ∧ e = .returned (.tuple #[]) ∧ St H w0 (.box b [.pointer (some ⟨b,0,none⟩),r',.int .i64 (ind : Nat)] 112 :: .row 5 1 r' (t ++ lineT ind parts).length ((t ++ lineT ind parts).map byteV) :: .box bp (parts.map strV) 9 :: bs) W' :=
 line_st s ha hp (by rw [lineT_len] at hl;omega)
theorem join_W (W : World) (b o c : Nat) (xs : List Str) (h : ∀ (j : Nat) x,xs[j]? = some x → W.cell? ⟨b,o + j,none⟩ = some (strV x)) (hb : b < W.heap.size) (hN : xs.length ≤ 140737488355328) (hc : xs.length ≤ c) (hl : (joinT xs).length ≤ 140737488355328) :
 Calls Tryz.prog 110 #[.slice (some ⟨b,o,none⟩) xs.length c,strV [44,32]] W fun e w' => e = .returned (strV (joinT xs)) ∧ Ext W w' := by
 have e1 : ((xs.map fun l => (⟨l.toArray⟩ : ByteArray)).map (·.data.toList)) = xs := by simp [Function.comp_def]
 have h2 := Tryz.strings_Join b o c (xs.map fun l => (⟨l.toArray⟩ : ByteArray)) ⟨#[44,32]⟩ W (fun j x e => by
  rw [List.getElem?_map] at e
  cases e2 : xs[j]? with
  | none => rw [e2] at e;cases e
  | some y => rw [e2] at e;cases e;exact h j y e2) hb (by simpa using hN) (by simpa using hc) (by rw [e1];exact hl)
 rw [e1,List.length_map] at h2
 exact h2.mono fun e w' ⟨a,k⟩ => ⟨a,Ext.of_below k⟩
theorem join_own {H : Hp} {w0 W : World} {bs : List Res} {b : Nat} {T : TypeId} (xs : List Str) {n : Nat} (hn : xs.length = n) (s : St H w0 bs W) (hm : Res.box b (xs.map strV) T ∈ bs) (hN : xs.length ≤ 1000) (hl : (joinT xs).length ≤ 140737488355328) :
 Calls Tryz.prog 110 #[.slice (some ⟨b,0,none⟩) n n,strV [44,32]] W fun e w' => e = .returned (strV (joinT xs)) ∧ Ext W w' := by
 subst hn
 exact join_W W b 0 xs.length xs (fun j x e => (s.cell hm (by rw [Nat.zero_add,List.getElem?_map,e];rfl)).1) ((s.own _ hm).1.lt rfl).2 (by omega) (Nat.le_refl _) hl
theorem join_own1 {H : Hp} {w0 W : World} {bs : List Res} {b : Nat} {T : TypeId} (xs : List Str) {n : Nat} (hn : xs.length = n) (s : St H w0 bs W) (hm : Res.box b (xs.map strV) T ∈ bs) (hN : xs.length ≤ 1000) (hl : (joinT (xs.drop 1)).length ≤ 140737488355328) :
 Calls Tryz.prog 110 #[.slice (some (if n = 1 then ⟨b,0,none⟩ else ⟨b,0 + 1 * 1,none⟩)) (n - 1) (n - 1),strV [44,32]] W fun e w' => e = .returned (strV (joinT (xs.drop 1))) ∧ Ext W w' := by
 subst hn
 have e : (some (if xs.length = 1 then (⟨b,0,none⟩ : Addr) else ⟨b,0 + 1 * 1,none⟩)) = some ⟨b,if xs.length = 1 then 0 else 1,none⟩ := by split <;> rfl
 have h := join_W W b (if xs.length = 1 then 0 else 1) (xs.length - 1) (xs.drop 1) (fun j x e => (s.cell hm (by
  rw [List.getElem?_drop] at e
  have h1 : 1 + j < xs.length := (List.getElem?_eq_some_iff.1 e).1
  rw [if_neg (by omega),List.getElem?_map,e];rfl)).1) ((s.own _ hm).1.lt rfl).2 (by simp;omega) (by simp) hl
 rw [List.length_drop] at h
 rw [e];exact h
theorem strs_at {es : List Str} {i : Nat} (h : i < es.length) : (es.map strV)[i]? = some (strV (es.getD i [])) := by simp [h]
def BodyOf (H : Hp) (x : List Sm) : Prop := ∀ (p : Option Addr) (n c : Nat) (w0 W : World) (bs : List Res) (b : Nat) (a : Option Addr) (r : Value) (ind : Nat) (t : Str),Rep H (.seq 6 (x.map (dSm .u8))) [.slice p n c] → Sm.alls tokS x = true → (a = none ∨ a = some ⟨b,0,none⟩) → t.length + (Sm.texts (ind + 1) x).length ≤ 10000000000000 → ind ≤ 10000000000000 → St H w0 (.box b [.pointer a,r,.int .i64 (ind : Nat)] 112 :: .row 5 1 r (t).length ((t).map byteV) :: bs) W →
 Calls Tryz.prog 111 #[.pointer (some ⟨b,0,none⟩),.slice p n c] W fun e W' => ∃ z : Option Addr × Value,(z.1 = none ∨ z.1 = some ⟨b,0,none⟩) ∧ e = .returned (.tuple #[]) ∧ St H w0 (.box b [.pointer z.1,z.2,.int .i64 (ind : Nat)] 112 :: .row 5 1 z.2 (t ++ Sm.texts (ind + 1) x).length ((t ++ Sm.texts (ind + 1) x).map byteV) :: bs) W'
def StmOf (H : Hp) (x : Sm) : Prop := ∀ (cs : List Value) (w0 W : World) (bs : List Res) (b : Nat) (a : Option Addr) (r : Value) (ind : Nat) (t : Str),Rep H (dSm .u8 x) cs → Sm.all tokS x = true → (a = none ∨ a = some ⟨b,0,none⟩) → t.length + (Sm.text ind x).length ≤ 10000000000000 → ind ≤ 10000000000001 → St H w0 (.box b [.pointer a,r,.int .i64 (ind : Nat)] 112 :: .row 5 1 r (t).length ((t).map byteV) :: bs) W →
 Calls Tryz.prog 133 #[.pointer (some ⟨b,0,none⟩),.agg cs.toArray] W fun e W' => ∃ z : Option Addr × Value,(z.1 = none ∨ z.1 = some ⟨b,0,none⟩) ∧ e = .returned (.tuple #[]) ∧ St H w0 (.box b [.pointer z.1,z.2,.int .i64 (ind : Nat)] 112 :: .row 5 1 z.2 (t ++ Sm.text ind x).length ((t ++ Sm.text ind x).map byteV) :: bs) W'
set_option maxRecDepth 100000 in
theorem disk_any (H : Hp) (el : List Sm) (hel : BodyOf H el) (first : Str) (p : Option Addr) (c : Nat) (w0 W : World) (bs : List Res) (b : Nat) (a : Option Addr) (r : Value) (ind : Nat) (t : Str) (hs : Rep H (.seq 6 (el.map (dSm .u8))) [.slice p el.length c]) (hf : Sm.alls tokS el = true) (ha : (a = none ∨ a = some ⟨b,0,none⟩)) (hl : t.length + (diskT ind first (decide (el.length = 0)) (Sm.texts (ind + 1) el)).length ≤ 10000000000000) (hi : ind ≤ 10000000000000) (s : St H w0 (.box b [.pointer a,r,.int .i64 (ind : Nat)] 112 :: .row 5 1 r (t).length ((t).map byteV) :: bs) W) :
 Calls Tryz.prog 150 #[.pointer (some ⟨b,0,none⟩),strV first,.slice p el.length c] W fun e W' => ∃ z : Option Addr × Value,(z.1 = none ∨ z.1 = some ⟨b,0,none⟩) ∧ e = .returned (.tuple #[]) ∧ St H w0 (.box b [.pointer z.1,z.2,.int .i64 (ind : Nat)] 112 :: .row 5 1 z.2 (t ++ diskT ind first (decide (el.length = 0)) (Sm.texts (ind + 1) el)).length ((t ++ diskT ind first (decide (el.length = 0)) (Sm.texts (ind + 1) el)).map byteV) :: bs) W' := by
 have hcap := hs.cap
 refine Sx.enterS Tryz.func150 rfl Tryz.ntmps150 rfl s ?_
 refine .sq<|.sr<|.m Z Z<|.yv (.lenSl Fx.sl69 Z) Z<|.yv (.eql Z Z) Z<|.nt<|.cd Z (fun h8 => ?_) (fun h8 => ?_)
 ·try simp only [dt] at h8
  have q : el.length = 0 := by omega
  rw [diskT,if_pos (by simpa using q)] at hl
  refine .sr<|.m Z Z<|.m Z Z<|.bl Z (Fx.bsl66_2 _ _) Z fun b11 => .cs (X := Value) Fx.call35 Z (fun W s => line_w (parts := [first,[59]]) ha (nb Z) (by (try simp only [List.length_append]);omega) (s.pickT (hd := [_,_,_]) (tl := bs) (hd' := [_,_,_]) [1,2,0] Z Z)) Z fun r12 _ => .nt<|.rt<|.tR<|?_
  exact Sx.retN (.inl rfl) rfl .nil rfl fun W s => ⟨(_,_),(.inr rfl),rfl,by have s2 := (s.pickT (hd := [_,_,_]) (tl := bs) (hd' := [_,_]) [0,1] rfl rfl);(first | rw [diskT,if_pos (by simpa using q)] | rw [diskT,if_neg (by simpa using q)]);(try simp only [List.append_assoc] at s2 ⊢);(try simp only [List.cons_append] at s2 ⊢);(try simp only [List.nil_append] at s2 ⊢);(try simp only [List.append_nil] at s2 ⊢);exact s2⟩
 try simp only [df] at h8
 have q : ¬ el.length = 0 := by omega
 rw [diskT,if_neg (by simpa using q)] at hl
 simp only [List.length_append] at hl
 have hq := lineT_len ind [[125]]
 refine .sk<|.tN<|.sr<|.m Z Z<|.m Z Z<|.bl Z (Fx.bsl66_2 _ _) Z fun b15 => .cs (X := Value) Fx.call35 Z (fun W s => line_w (parts := [first,[32,101,108,115,101,32,123]]) ha (nb Z) (by (try simp only [List.length_append]);omega) (s.pickT (hd := [_,_,_]) (tl := bs) (hd' := [_,_,_]) [1,2,0] Z Z)) Z fun r16 _ => .ns<|.m Z Z<|.m Z Z<|.cs (X := Option Addr × Value) Fx.call111 Z (fun W s => hel _ _ _ _ _ _ _ _ _ _ _ hs hf (.inr Z) (by (try simp only [List.length_append]);omega) (by omega) (s.pickT (hd := [_,_,_]) (tl := bs) (hd' := [_,_]) [0,1] Z Z)) Z fun z19 hz19 => .nt<|.rg<|.m Z Z<|.bl Z (Fx.bsl66_1 _) Z fun b21 => .cs (X := Value) Fx.call35 Z (fun W s => line_w (parts := [[125]]) hz19 (nb Z) (by (try simp only [List.length_append]);omega) (s.pickT (hd := [_,_,_]) (tl := bs) (hd' := [_,_,_]) [1,2,0] Z Z)) Z fun r22 _ => .nl<|?_
 exact Sx.retN (.inr rfl) rfl .nil rfl fun W s => ⟨(_,_),(.inr rfl),rfl,by have s2 := (s.pickT (hd := [_,_,_]) (tl := bs) (hd' := [_,_]) [0,1] rfl rfl);(first | rw [diskT,if_pos (by simpa using q)] | rw [diskT,if_neg (by simpa using q)]);(try simp only [List.append_assoc] at s2 ⊢);(try simp only [List.cons_append] at s2 ⊢);(try simp only [List.nil_append] at s2 ⊢);(try simp only [List.append_nil] at s2 ⊢);exact s2⟩
end Go.Proofs.YtmbiojpcidccjaaGreatDoor
