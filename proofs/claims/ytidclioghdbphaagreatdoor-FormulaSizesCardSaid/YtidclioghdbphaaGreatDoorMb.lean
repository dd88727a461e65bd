/- Texts of the proof, one behind the other. -/
import Derived.Test.YtidclioghdbphaaGreatDoorMa
import Derived.Lib.ItoaNum
import Derived.ProofKit
import Derived.Lib.LaidTab
import Derived.Deep.Slices
import Derived.Deep.Fields
import Derived.OpenShut
import Derived.ChangeKeysEq
import Derived.RangeFuncNested
import Derived.RangeFuncLeaves
import Derived.RangeFuncCalls
import Derived.OwnWalkIn
import Derived.TacticsIn
import Derived.OrdersIn
import Derived.Lib.Join
import Derived.Lib.ItoaLen
set_option linter.all false
set_option maxRecDepth 100000
namespace Go.Proofs.YtidclioghdbphaaGreatDoor
open Go.RowKit Go.Par Go.Sx
set_option maxRecDepth 100000 in
theorem exprDepth_any (e : Ex) : ∀ (H : Hp) (cs : List Value) (w : World),Rep H (dEx .u8 e) cs → e.depth ≤ 1000000 → Agr H w →
 Calls Tryz.prog 73 #[.agg cs.toArray] w fun r w' => r = .returned (.int .i64 (e.depth : Nat)) ∧ Ext w w' := by
 induction e using Ex.ind with | _ op nm nn args ih
 intro H cs w h he hA;rw [depth_mk] at he;obtain ⟨p,c,rfl,hs,hnm⟩ := ex_open h;have hcap := hs.cap;refine Sx.enter (H := H) Tryz.func73 rfl Tryz.ntmps73 rfl hA ?_;refine .sr<|.bx Z Z Z fun b1 => .a Z Z<|.ns<|.a Z Z<|.nt<|.sq<|.sr<|.yv (.fieldAddr Z Fx.field76_3) Z<|.yv (.load Z Fx.agg32 (.head _) Z) Z<|.yv (.lenSl Fx.sl32 Z) Z<|.m Z Z<|.nt<|.bk<|.lp (X := Nat) [(1,_),(7,_)] ⟨rfl,rfl,trivial⟩ [_] (fun k => [(3,.int .i64 (Ex.deeps (args.take k) : Nat)),(8,.int .i64 (k : Nat))]) (fun k => H) (fun k => []) (fun k => k ≤ args.length) (fun k => args.length - k) 0 (fun _ s => s) ⟨rfl,rfl,trivial⟩ (by omega) fun k hC => ?_
 refine .sr<|.yv (.lss Z Z) Z<|.nt<|.sq<|.cd Z (fun h9 => ?_) (fun h9 => ?_)
 ·try simp only [dt] at h9
  have hk : k < args.length := by omega
  obtain ⟨b5,o5,c5,hp5,r5,l5,m5⟩ := hs.elem (map_at hk);cases hp5;have h1 := deeps_take args k;have h2 := deeps_at hk;have h3 := deeps_succ hk;exact .sk<|.tN<|.sq<|.bk<|.sr<|.m Z Z<|.a Z Z<|.nt<|.rg<|.m Z Z<|.yv (.fieldAddr Z Fx.field76_3) Z<|.yv (.load Z Fx.agg32 (.head _) Z) Z<|.m Z Z<|.yv (.indexSl Fx.sl32 Z Z Z (by omega) (q := o5 + k * 4) Z) Z<|.yv (.loadMW Z Fx.agg76 m5 l5) Z<|.yv (.call Fx.call73 Z (fun W s => ih _ (List.getElem_mem hk) H c5 W r5 (by omega) s.agr)) Z<|.yv (.max2 Z Z (c := ((Ex.deeps (args.take (k + 1)) : Nat) : Int)) (by omega)) Z<|.a Z Z<|.nl<|.bN<|.tN<|.rg<|.yv (.add Z Z (w6 (by omega))) Z<|.m Z Z<|.nt<|.ag (k + 1) ⟨rfl,rfl,trivial⟩ ⟨rfl,rfl,trivial⟩ (fun _ s => s) (by omega) (by omega)
 try simp only [df] at h9
 obtain rfl : k = args.length := by omega
 rw [List.take_length];refine .ex<|.tE<|.tE<|.bE<|.tN<|.sr<|.m Z Z<|.yv (.add Z Z (w6 (by omega))) Z<|.a Z Z<|.nt<|.rt<|?_
 exact Sx.ret1 (.inl rfl) rfl (.tmp rfl) fun W s => ⟨by rw [depth_mk];rfl,s.ext⟩
def letB (c : UInt8) : Bool := (decide (97 ≤ c.toNat) && decide (c.toNat ≤ 122)) || (decide (65 ≤ c.toNat) && decide (c.toNat ≤ 90))
def digB (c : UInt8) : Bool := decide (48 ≤ c.toNat) && decide (c.toNat ≤ 57)
def insB (c : UInt8) : Bool := letB c || digB c || decide (c.toNat = 95)
def words : List Str := [[97,102,116,101,114],[97,108,119,97,121,115],[97,110,100],[97,114,114,105,118,101,115],[98,111,111,108],[99,111,109,112,111,110,101,110,116],[99,111,117,110,116],[100,101,108,101,116,101],[100,111],[101,108,115,101],[101,120,105,115,116,115],[102,97,108,115,101],[102,101,116,99,104],[102,108,97,103],[102,108,101,101,116],[102,111,114,97,108,108],[104,97,115],[105,102],[105,109,112,108,105,101,115],[105,110],[105,110,116],[108,97,116,101,110,99,121],[108,105,110,107],[110,111,116],[110,111,119],[111,110],[111,110,99,101],[111,114],[112,114,101,118,105,111,117,115],[115,101,110,100],[115,105,110,99,101],[115,105,122,101],[115,116,111,112],[115,116,111,114,101],[116,97,98,108,101],[116,114,117,101],[118,97,114],[118,101,114,115,105,111,110],[119,104,105,108,101]]
def symbols : List Str := [[46,46],[61,61],[33,61],[60,61],[62,61],[45,62],[123],[125],[40],[41],[91],[93],[44],[59],[58],[46],[61],[60],[62],[43],[45],[42],[47],[37],[95]]
def pre (q : UInt8 → Bool) (l : Str) : Nat := (l.takeWhile q).length
theorem pre_le (q : UInt8 → Bool) (l : Str) : pre q l ≤ l.length := by
 unfold pre;induction l with
 | nil => simp
 | cons a r ih => rw [List.takeWhile_cons];split <;> simp;omega
theorem pre_step {q : UInt8 → Bool} : ∀ {l : Str} {k : Nat} (h : k < l.length),k ≤ pre q l → q l[k] = true → k + 1 ≤ pre q l
 | [],k,h,_,_ => by simp at h
 | a :: r,0,h,_,hq => by
  unfold pre;rw [List.takeWhile_cons];simp at hq;simp [hq]
 | a :: r,k + 1,h,hk,hq => by
  unfold pre at hk ⊢;rw [List.takeWhile_cons] at hk ⊢;cases ha : q a with
  | false => rw [ha] at hk;simp at hk
  | true =>
   rw [ha] at hk;simp at hk hq;have := pre_step (l := r) (k := k) (by simpa using h) hk hq;unfold pre at this;simp;omega
theorem pre_stop {q : UInt8 → Bool} : ∀ {l : Str} {k : Nat} (h : k < l.length),k ≤ pre q l → q l[k] = false → k = pre q l
 | [],k,h,_,_ => by simp at h
 | a :: r,0,h,_,hq => by
  unfold pre;rw [List.takeWhile_cons];simp at hq;simp [hq]
 | a :: r,k + 1,h,hk,hq => by
  unfold pre at hk ⊢;rw [List.takeWhile_cons] at hk ⊢;cases ha : q a with
  | false => rw [ha] at hk;simp at hk
  | true =>
   rw [ha] at hk;simp at hk hq;have := pre_stop (l := r) (k := k) (by simpa using h) hk hq;unfold pre at this;simp;omega
def readK (l : Str) : UInt8 × Nat :=
 let c := l.headD 0
 if letB c then
  if words.contains (l.take (pre insB l)) then (2,pre insB l) else if pre insB l ≤ 12 then (1,pre insB l) else (5,l.length)
 else if digB c then
  if pre digB l = 1 ∨ c ≠ 48 then (3,pre digB l) else (5,l.length)
 else match symbols.find? (fun x => x.isPrefixOf l) with
  | some x => (4,x.length)
  | none => (5,l.length)
def nameB (l : Str) : Bool := decide (l ≠ []) && (readK l).1 == 1 && decide ((readK l).2 = l.length)
def hasP (l m : Str) : Bool := decide (m.length ≤ l.length) && decide (l.take m.length = m)
theorem hasP_pre (l m : Str) : hasP l m = m.isPrefixOf l := by
 rw [Bool.eq_iff_iff];simp only [hasP,Bool.and_eq_true,decide_eq_true_eq,List.isPrefixOf_iff_prefix]
 constructor
 ·rintro ⟨_,h⟩;have := List.take_append_drop m.length l;rw [h] at this;exact ⟨_,this⟩
 ·rintro ⟨t,rfl⟩;simp
theorem getD_at {α : Type} {l : List α} {k : Nat} (h : k < l.length) (d : α) : l.getD k d = l[k] := by simp [h]
theorem list_at {α β : Type} {f : α → β} {l : List α} {k : Nat} (h : k < l.length) (d : α) : (l.map f)[k]? = some (f (l.getD k d)) := by simp [h]
structure Shp where
 n : Nat
 nm : Bool
 lv : Nat
 tx : Str
structure Frm where
 nm : Bool
 hd : Bool
 lo : Nat
 hi : Nat
 th : Bool
 el : Bool
def shapes : List Shp := [⟨0,false,0,[]⟩,⟨0,false,7,[]⟩,⟨0,false,7,[116,114,117,101]⟩,⟨0,false,7,[102,97,108,115,101]⟩,⟨0,false,7,[110,111,119]⟩,⟨0,true,7,[]⟩,⟨1,true,7,[]⟩,⟨1,true,7,[104,97,115,32]⟩,⟨0,true,7,[115,105,122,101,32]⟩,⟨1,false,6,[45]⟩,⟨1,false,6,[110,111,116,32]⟩,⟨2,false,5,[32,42,32]⟩,⟨2,false,5,[32,47,32]⟩,⟨2,false,5,[32,37,32]⟩,⟨2,false,4,[32,43,32]⟩,⟨2,false,4,[32,45,32]⟩,⟨2,false,3,[32,61,61,32]⟩,⟨2,false,3,[32,33,61,32]⟩,⟨2,false,3,[32,60,32]⟩,⟨2,false,3,[32,60,61,32]⟩,⟨2,false,3,[32,62,32]⟩,⟨2,false,3,[32,62,61,32]⟩,⟨2,false,2,[32,97,110,100,32]⟩,⟨2,false,1,[32,111,114,32]⟩]
def forms : List Frm := [⟨false,false,0,0,false,false⟩,⟨true,false,1,1,false,false⟩,⟨true,false,2,2,false,false⟩,⟨true,false,1,1,false,false⟩,⟨false,false,1,1,true,true⟩,⟨false,false,1,1,true,false⟩,⟨true,true,0,4,false,false⟩,⟨false,true,1,5,false,false⟩,⟨false,false,2,2,false,true⟩,⟨true,false,1,1,false,true⟩,⟨false,false,0,0,false,false⟩]
def okOp (op : UInt8) : Bool := decide (1 ≤ op.toNat) && decide (op.toNat ≤ 23)
def okKd (op : UInt8) : Bool := decide (1 ≤ op.toNat) && decide (op.toNat ≤ 10)
def shapeOf (op : UInt8) : Shp := if okOp op then shapes.getD op.toNat ⟨0,false,0,[]⟩ else ⟨0,false,0,[]⟩
def formOf (op : UInt8) : Frm := if okKd op then forms.getD op.toNat ⟨false,false,0,0,false,false⟩ else ⟨false,false,0,0,false,false⟩
theorem flat_at {α : Type} {f : α → List Value} {z : Nat} (hz : ∀ a,(f a).length = z) : ∀ {l : List α} {i : Nat} (d : α),i < l.length → ∀ (j : Nat) u,(f (l.getD i d))[j]? = some u → (l.flatMap f)[i * z + j]? = some u
 | [],i,d,h,j,u,e => by simp at h
 | a :: r,0,d,h,j,u,e => by
  simp only [List.flatMap_cons,Nat.zero_mul,Nat.zero_add];simp at e;rw [List.getElem?_append_left (List.getElem?_eq_some_iff.1 e).1];exact e
 | a :: r,i + 1,d,h,j,u,e => by
  simp only [List.flatMap_cons];rw [List.getElem?_append_right (by rw [hz,Nat.succ_mul];omega),hz,show (i + 1) * z + j - z = i * z + j by rw [Nat.succ_mul];omega];exact flat_at hz d (by simpa using h) j u (by simpa using e)
structure Gl (H : Hp) : Prop where
 words : MemAt H 5 0 (words.map strV)
 symbols : MemAt H 3 0 (symbols.map strV)
theorem Gl.up {H H' : Hp} (g : Gl H) (u : Up H H') : Gl H' := ⟨g.words.up u,g.symbols.up u⟩
theorem Fx.agg235 : aggN Tryz.prog 235 = Option.some (Option.some 39) := by kernel_rfl
theorem Fx.are235 : arrE Tryz.prog 235 = Bool.true := by kernel_rfl
theorem Fx.arr235 : arrN Tryz.prog 235 = Option.some (39,1) := by kernel_rfl
theorem Fx.call150 : callN Tryz.prog 150 = Bool.true := by kernel_rfl
theorem Fx.call153 : callN Tryz.prog 153 = Bool.true := by kernel_rfl
theorem Fx.call179 : callN Tryz.prog 179 = Bool.true := by kernel_rfl
theorem Fx.str9 : isStr Tryz.prog 9 = Bool.true := by kernel_rfl
set_option maxRecDepth 100000 in
theorem letter_any (c : UInt8) (w : World) : Calls Tryz.prog 150 #[byteV c] w fun r w' => r = .returned (.bool (letB c)) ∧ Ext w w' := by
 refine Sx.enter (H := (⟨fun _ => none,0⟩ : Hp)) Tryz.func150 rfl Tryz.ntmps150 rfl ⟨fun _ _ e => (by cases e),Nat.zero_le _⟩ ?_;refine .sr<|.a Z Z<|.ns<|.m Z Z<|.yv (.geq Z Z) Z<|.m Z Z<|.b2 (fun h5 => ?_) (fun h5 => ?_)
 ·try simp only [dt] at h5
  refine .gd Z Z<|.yv (.move Z) Z<|.gd Z Z<|.yv (.leq Z Z) Z<|.yv (.pickT Z Z) Z<|.m Z Z<|.b2 (fun h9 => ?_) (fun h9 => ?_)
  ·try simp only [dt] at h9
   refine .gF Z Z Z Z<|.gF Z Z Z Z<|.gF Z Z Z Z<|.gU Z Z Z<|.gU Z Z Z<|.gF Z Z Z Z<|.yv (.pickT Z Z) Z<|.a Z Z<|.nt<|.rt<|?_
   exact Sx.ret1 (.inl rfl) rfl (.tmp rfl) fun W s => ⟨retB (by simp only [letB,Bool.or_eq_true,Bool.and_eq_true,decide_eq_true_eq,reduceCtorEq,true_iff,false_iff,iff_true,iff_false,beq_iff_eq,Bool.true_eq_false,Bool.false_eq_true];try omega),s.ext⟩
  try simp only [df] at h9
  refine .gd Z Z<|.yv (.move Z) Z<|.gd Z Z<|.yv (.geq Z Z) Z<|.gd Z Z<|.yv (.move Z) Z<|.b2 (fun h12 => ?_) (fun h12 => ?_)
  ·try simp only [dt] at h12
   refine .gd Z Z<|.yv (.move Z) Z<|.gd Z Z<|.yv (.leq Z Z) Z<|.gd Z Z<|.yv (.pickT Z Z) Z<|.yv (.pickF Z Z) Z<|.a Z Z<|.nt<|.rt<|?_
   exact Sx.ret1 (.inl rfl) rfl (.tmp rfl) fun W s => ⟨retB (by simp only [letB,Bool.or_eq_true,Bool.and_eq_true,decide_eq_true_eq,reduceCtorEq,true_iff,false_iff,iff_true,iff_false,beq_iff_eq,Bool.true_eq_false,Bool.false_eq_true];try omega),s.ext⟩
  try simp only [df] at h12
  refine .gF Z Z Z Z<|.gF Z Z Z Z<|.gd Z Z<|.yv (.pickF Z Z) Z<|.yv (.pickF Z Z) Z<|.a Z Z<|.nt<|.rt<|?_
  exact Sx.ret1 (.inl rfl) rfl (.tmp rfl) fun W s => ⟨retB (by simp only [letB,Bool.or_eq_true,Bool.and_eq_true,decide_eq_true_eq,reduceCtorEq,true_iff,false_iff,iff_true,iff_false,beq_iff_eq,Bool.true_eq_false,Bool.false_eq_true];try omega),s.ext⟩
 try simp only [df] at h5
 refine .gF Z Z Z Z<|.gF Z Z Z Z<|.yv (.pickF Z Z) Z<|.m Z Z<|.gd Z Z<|.yv (.move Z) Z<|.gd Z Z<|.yv (.geq Z Z) Z<|.gd Z Z<|.yv (.move Z) Z<|.b2 (fun h12 => ?_) (fun h12 => ?_)
 ·try simp only [dt] at h12
  refine .gd Z Z<|.yv (.move Z) Z<|.gd Z Z<|.yv (.leq Z Z) Z<|.gd Z Z<|.yv (.pickT Z Z) Z<|.yv (.pickF Z Z) Z<|.a Z Z<|.nt<|.rt<|?_
  exact Sx.ret1 (.inl rfl) rfl (.tmp rfl) fun W s => ⟨retB (by simp only [letB,Bool.or_eq_true,Bool.and_eq_true,decide_eq_true_eq,reduceCtorEq,true_iff,false_iff,iff_true,iff_false,beq_iff_eq,Bool.true_eq_false,Bool.false_eq_true];try omega),s.ext⟩
 try simp only [df] at h12
 refine .gF Z Z Z Z<|.gF Z Z Z Z<|.gd Z Z<|.yv (.pickF Z Z) Z<|.yv (.pickF Z Z) Z<|.a Z Z<|.nt<|.rt<|?_
 exact Sx.ret1 (.inl rfl) rfl (.tmp rfl) fun W s => ⟨retB (by simp only [letB,Bool.or_eq_true,Bool.and_eq_true,decide_eq_true_eq,reduceCtorEq,true_iff,false_iff,iff_true,iff_false,beq_iff_eq,Bool.true_eq_false,Bool.false_eq_true];try omega),s.ext⟩
set_option maxRecDepth 100000 in
theorem digit_any (c : UInt8) (w : World) : Calls Tryz.prog 153 #[byteV c] w fun r w' => r = .returned (.bool (digB c)) ∧ Ext w w' := by
 refine Sx.enter (H := (⟨fun _ => none,0⟩ : Hp)) Tryz.func153 rfl Tryz.ntmps153 rfl ⟨fun _ _ e => (by cases e),Nat.zero_le _⟩ ?_;refine .sr<|.a Z Z<|.ns<|.m Z Z<|.yv (.geq Z Z) Z<|.m Z Z<|.b2 (fun h5 => ?_) (fun h5 => ?_)
 ·try simp only [dt] at h5
  refine .gd Z Z<|.yv (.move Z) Z<|.gd Z Z<|.yv (.leq Z Z) Z<|.yv (.pickT Z Z) Z<|.a Z Z<|.nt<|.rt<|?_
  exact Sx.ret1 (.inl rfl) rfl (.tmp rfl) fun W s => ⟨retB (by simp only [digB,Bool.or_eq_true,Bool.and_eq_true,decide_eq_true_eq,reduceCtorEq,true_iff,false_iff,iff_true,iff_false,beq_iff_eq,Bool.true_eq_false,Bool.false_eq_true];try omega),s.ext⟩
 try simp only [df] at h5
 refine .gF Z Z Z Z<|.gF Z Z Z Z<|.yv (.pickF Z Z) Z<|.a Z Z<|.nt<|.rt<|?_
 exact Sx.ret1 (.inl rfl) rfl (.tmp rfl) fun W s => ⟨retB (by simp only [digB,Bool.or_eq_true,Bool.and_eq_true,decide_eq_true_eq,reduceCtorEq,true_iff,false_iff,iff_true,iff_false,beq_iff_eq,Bool.true_eq_false,Bool.false_eq_true];try omega),s.ext⟩
set_option maxRecDepth 100000 in
theorem inside_any (c : UInt8) (w : World) : Calls Tryz.prog 151 #[byteV c] w fun r w' => r = .returned (.bool (insB c)) ∧ Ext w w' := by
 refine Sx.enter (H := (⟨fun _ => none,0⟩ : Hp)) Tryz.func151 rfl Tryz.ntmps151 rfl ⟨fun _ _ e => (by cases e),Nat.zero_le _⟩ ?_;refine .sr<|.a Z Z<|.ns<|.m Z Z<|.yv (.call Fx.call150 Z (fun W s => letter_any c W)) Z<|.m Z Z<|.b2 (fun h5 => ?_) (fun h5 => ?_)
 ·skip
  refine .gF Z Z Z Z<|.gF Z Z Z Z<|.yv (.pickT Z Z) Z<|.m Z Z<|.gF Z Z Z Z<|.gF Z Z Z Z<|.yv (.pickT Z Z) Z<|.a Z Z<|.nt<|.rt<|?_
  exact Sx.ret1 (.inl rfl) rfl (.tmp rfl) fun W s => ⟨retB (by simp_all [insB];try omega),s.ext⟩
 skip
 refine .gd Z Z<|.yv (.move Z) Z<|.gd Z Z<|.yv (.call Fx.call153 Z (fun W s => digit_any c W)) Z<|.yv (.pickF Z Z) Z<|.m Z Z<|.b2 (fun h9 => ?_) (fun h9 => ?_)
 ·skip
  refine .gF Z Z Z Z<|.gF Z Z Z Z<|.yv (.pickT Z Z) Z<|.a Z Z<|.nt<|.rt<|?_
  exact Sx.ret1 (.inl rfl) rfl (.tmp rfl) fun W s => ⟨retB (by simp_all [insB];try omega),s.ext⟩
 skip
 refine .gd Z Z<|.yv (.move Z) Z<|.gd Z Z<|.yv (.eql Z Z) Z<|.yv (.pickF Z Z) Z<|.a Z Z<|.nt<|.rt<|?_
 exact Sx.ret1 (.inl rfl) rfl (.tmp rfl) fun W s => ⟨retB (by simp_all [insB];try omega),s.ext⟩
set_option maxRecDepth 100000 in
theorem prefix_any (gf : FuncId) (q : UInt8 → Bool) (hf : callN Tryz.prog gf = true) (hg : ∀ b w,Calls Tryz.prog gf #[byteV b] w fun r w' => r = .returned (.bool (q b)) ∧ Ext w w') (l : Str) (hl : l.length ≤ 9223372036854775807) (w : World) :
 Calls Tryz.prog 146 #[strV l,.func (.func gf) #[] #[]] w fun r w' => r = .returned (.int .i64 (pre q l : Nat)) ∧ Ext w w' := by
 refine Sx.enter (H := (⟨fun _ => none,0⟩ : Hp)) Tryz.func146 rfl Tryz.ntmps146 rfl ⟨fun _ _ e => (by cases e),Nat.zero_le _⟩ ?_;refine .sr<|.a Z Z<|.ns<|.a Z Z<|.nt<|.sq<|.bk<|.lp (X := Nat) [(0,_),(1,_)] ⟨rfl,rfl,trivial⟩ [] (fun k => [(5,.int .i64 (k : Nat))]) (fun k => (⟨fun _ => none,0⟩ : Hp)) (fun k => []) (fun k => k ≤ pre q l) (fun k => l.length - k) 0 (fun _ s => s) ⟨rfl,trivial⟩ (by omega) fun k hC => ?_
 have hp := pre_le q l;refine .sq<|.sr<|.m Z Z<|.m Z Z<|.yv (.lenS Fx.str9 Z) Z<|.yv (.lss Z Z) Z<|.m Z Z<|.b2 (fun h10 => ?_) (fun h10 => ?_)
 ·try simp only [dt] at h10
  have hk : k < l.length := by omega
  refine .gd Z Z<|.yv (.move Z) Z<|.gd Z Z<|.yv (.move Z) Z<|.gd Z Z<|.yv (.move Z) Z<|.gd Z Z<|.yv (.idxS Fx.str9 Z Z Z (List.getElem?_eq_getElem hk)) Z<|.gd Z Z<|.yv (.callV (fi := []) (ca := []) Z hf Z (fun W s => hg _ W)) Z<|.yv (.pickT Z Z) Z<|.nt<|.cd Z (fun h16 => ?_) (fun h16 => ?_)
  ·skip
   exact .sk<|.tN<|.bk<|.rg<|.m Z Z<|.yv (.add Z Z (w6 (by omega))) Z<|.a Z Z<|.nl<|.bN<|.tN<|.ag (k + 1) ⟨rfl,trivial⟩ ⟨rfl,rfl,trivial⟩ (fun _ s => s) (pre_step hk hC (by simpa using h16)) (by omega)
  skip
  refine .ex<|.tE<|.tE<|.bE<|.tN<|.sr<|.m Z Z<|.a Z Z<|.nt<|.rt<|?_
  first
   | exact Sx.ret1 (.inl rfl) rfl (.tmp rfl) fun W s => ⟨by rw [show k = pre q l by omega],s.ext⟩
   | exact Sx.ret1 (.inl rfl) rfl (.tmp rfl) fun W s => ⟨by rw [pre_stop hk hC (by simpa using h16)],s.ext⟩
 try simp only [df] at h10
 refine .gF Z Z Z Z<|.gF Z Z Z Z<|.gF Z Z Z Z<|.gF Z Z Z Z<|.gF Z Z Z Z<|.yv (.pickF Z Z) Z<|.nt<|.cF Z<|.ex<|.tE<|.tE<|.bE<|.tN<|.sr<|.m Z Z<|.a Z Z<|.nt<|.rt<|?_
 first
  | exact Sx.ret1 (.inl rfl) rfl (.tmp rfl) fun W s => ⟨by rw [show k = pre q l by omega],s.ext⟩
  | exact Sx.ret1 (.inl rfl) rfl (.tmp rfl) fun W s => ⟨by rw [pre_stop hk hC (by simpa using h16)],s.ext⟩
set_option maxRecDepth 100000 in
theorem keyword_any (H : Hp) (G : Gl H) (l : Str) (w : World) (hA : Agr H w) :
 Calls Tryz.prog 152 #[strV l] w fun r w' => r = .returned (.bool (words.contains l)) ∧ Ext w w' := by
 refine Sx.enter (H := H) Tryz.func152 rfl Tryz.ntmps152 rfl hA ?_;refine .sr<|.a Z Z<|.nt<|.sq<|.sr<|.yv (.loadMW Z Fx.agg235 G.words Z) Z<|.m Z Z<|.nt<|.bk<|.lp (X := Nat) [(0,_),(5,_)] ⟨rfl,rfl,trivial⟩ [] (fun k => [(6,.int .i64 (k : Nat))]) (fun k => H) (fun k => []) (fun k => k ≤ 39 ∧ ∀ j,j < k → words.getD j [] ≠ l) (fun k => 39 - k) 0 (fun _ s => s) ⟨rfl,trivial⟩ ⟨by omega,fun j hj => by omega⟩ fun k hC => ?_
 obtain ⟨hk,hne⟩ := hC;refine .sr<|.yv (.lss Z Z) Z<|.nt<|.sq<|.cd Z (fun h7 => ?_) (fun h7 => ?_)
 ·try simp only [dt] at h7
  refine .sk<|.tN<|.sq<|.bk<|.sr<|.yv (.idxA Fx.arr235 Fx.are235 Z Z Z (by omega) (list_at (by show k < 39;omega) [])) Z<|.a Z Z<|.ns<|.m Z Z<|.m Z Z<|.yv (.eqS Z Z) Z<|.nt<|.cd Z (fun h11 => ?_) (fun h11 => ?_)
  ·try simp only [dt] at h11
   have hmem : l ∈ words := by
    rw [← h11,getD_at (show k < words.length by show k < 39;omega)];exact List.getElem_mem _
   refine .sr<|.a Z Z<|.nt<|.rt<|.bR<|.tR<|.tR<|.bR<|.tR<|?_
   exact Sx.ret1 (.inl rfl) rfl (.tmp rfl) fun W s => ⟨retB (by simp [List.contains_iff_mem, *]),s.ext⟩
  try simp only [df] at h11
  exact .sk<|.bN<|.tN<|.rg<|.yv (.add Z Z (w6 (by omega))) Z<|.m Z Z<|.nt<|.ag (k + 1) ⟨rfl,trivial⟩ ⟨rfl,rfl,trivial⟩ (fun _ s => s) ⟨by omega,fun j hj => by
   by_cases e : j = k
   ·subst e;exact h11
   ·exact hne j (by omega)⟩ (by omega)
 try simp only [df] at h7
 have hno : l ∉ words := fun hm => by
  obtain ⟨j,hj,e⟩ := List.mem_iff_getElem.1 hm;have hj2 : j < 39 := hj;exact hne j (by omega) (by rw [getD_at hj];exact e)
 refine .ex<|.tE<|.tE<|.bE<|.tN<|.sr<|.a Z Z<|.nt<|.rt<|?_
 exact Sx.ret1 (.inl rfl) rfl (.tmp rfl) fun W s => ⟨retB (by simp [List.contains_iff_mem, *]),s.ext⟩
set_option maxRecDepth 100000 in
theorem hasPrefixL_any (l m : Str) (w : World) : Calls Tryz.prog 179 #[strV l,strV m] w fun r w' => r = .returned (.bool (hasP l m)) ∧ Ext w w' := by
 refine Sx.enter (H := (⟨fun _ => none,0⟩ : Hp)) Tryz.func179 rfl Tryz.ntmps179 rfl ⟨fun _ _ e => (by cases e),Nat.zero_le _⟩ ?_;refine .sr<|.a Z Z<|.ns<|.m Z Z<|.yv (.lenS Fx.str9 Z) Z<|.m Z Z<|.yv (.lenS Fx.str9 Z) Z<|.yv (.geq Z Z) Z<|.m Z Z<|.b2 (fun h10 => ?_) (fun h10 => ?_)
 ·try simp only [dt] at h10
  refine .gd Z Z<|.yv (.move Z) Z<|.gd Z Z<|.yv (.move Z) Z<|.gd Z Z<|.yv (.lenS Fx.str9 Z) Z<|.gd Z Z<|.yv (.takeS Fx.str9 Z Z Z (by omega)) Z<|.gd Z Z<|.yv (.move Z) Z<|.gd Z Z<|.yv (.eqS Z Z) Z<|.yv (.pickT Z Z) Z<|.a Z Z<|.nt<|.rt<|?_
  exact Sx.ret1 (.inl rfl) rfl (.tmp rfl) fun W s => ⟨retB (by first | (simp only [hasP,Bool.or_eq_true,Bool.and_eq_true,decide_eq_true_eq,reduceCtorEq,true_iff,false_iff,iff_true,iff_false,beq_iff_eq,Bool.true_eq_false,Bool.false_eq_true];omega) | exact ⟨fun e => by simp only [hasP,Bool.or_eq_true,Bool.and_eq_true,decide_eq_true_eq,reduceCtorEq,true_iff,false_iff,iff_true,iff_false,beq_iff_eq,Bool.true_eq_false,Bool.false_eq_true] at e ⊢;exact ⟨by omega,e⟩,fun e => by simp only [hasP,Bool.or_eq_true,Bool.and_eq_true,decide_eq_true_eq,reduceCtorEq,true_iff,false_iff,iff_true,iff_false,beq_iff_eq,Bool.true_eq_false,Bool.false_eq_true] at e ⊢;exact e.2⟩),s.ext⟩
 try simp only [df] at h10
 refine .gF Z Z Z Z<|.gF Z Z Z Z<|.gF Z Z Z Z<|.gF Z Z Z Z<|.gF Z Z Z Z<|.gF Z Z Z Z<|.yv (.pickF Z Z) Z<|.a Z Z<|.nt<|.rt<|?_
 exact Sx.ret1 (.inl rfl) rfl (.tmp rfl) fun W s => ⟨retB (by first | (simp only [hasP,Bool.or_eq_true,Bool.and_eq_true,decide_eq_true_eq,reduceCtorEq,true_iff,false_iff,iff_true,iff_false,beq_iff_eq,Bool.true_eq_false,Bool.false_eq_true];omega) | exact ⟨fun e => by simp only [hasP,Bool.or_eq_true,Bool.and_eq_true,decide_eq_true_eq,reduceCtorEq,true_iff,false_iff,iff_true,iff_false,beq_iff_eq,Bool.true_eq_false,Bool.false_eq_true] at e ⊢;exact ⟨by omega,e⟩,fun e => by simp only [hasP,Bool.or_eq_true,Bool.and_eq_true,decide_eq_true_eq,reduceCtorEq,true_iff,false_iff,iff_true,iff_false,beq_iff_eq,Bool.true_eq_false,Bool.false_eq_true] at e ⊢;exact e.2⟩),s.ext⟩
set_option maxRecDepth 100000 in
theorem hasPrefix_any (l m : Str) (w : World) : Calls Tryz.prog 148 #[strV l,strV m] w fun r w' => r = .returned (.bool (hasP l m)) ∧ Ext w w' := by
 refine Sx.enter (H := (⟨fun _ => none,0⟩ : Hp)) Tryz.func148 rfl Tryz.ntmps148 rfl ⟨fun _ _ e => (by cases e),Nat.zero_le _⟩ ?_;refine .sr<|.a Z Z<|.ns<|.m Z Z<|.m Z Z<|.yv (.call Fx.call179 Z (fun W s => hasPrefixL_any l m W)) Z<|.a Z Z<|.nt<|.rt<|?_
 exact Sx.ret1 (.inl rfl) rfl (.tmp rfl) fun W s => ⟨rfl,s.ext⟩
theorem Fx.agg217 : aggN Tryz.prog 217 = Option.some (Option.some 25) := by kernel_rfl
theorem Fx.are217 : arrE Tryz.prog 217 = Bool.true := by kernel_rfl
theorem Fx.arr217 : arrN Tryz.prog 217 = Option.some (25,1) := by kernel_rfl
theorem Fx.call97 : callN Tryz.prog 97 = Bool.true := by kernel_rfl
theorem Fx.call146 : callN Tryz.prog 146 = Bool.true := by kernel_rfl
theorem Fx.call148 : callN Tryz.prog 148 = Bool.true := by kernel_rfl
theorem Fx.call151 : callN Tryz.prog 151 = Bool.true := by kernel_rfl
theorem Fx.call152 : callN Tryz.prog 152 = Bool.true := by kernel_rfl
theorem sym_find {l : Str} {k : Nat} (hk : k < 25) (h0 : ∀ j,j < k → hasP l (symbols.getD j []) = false) (h1 : hasP l (symbols.getD k []) = true) : symbols.find? (fun x => x.isPrefixOf l) = some (symbols.getD k []) := by
 have hk' : k < symbols.length := hk;rw [getD_at hk'] at h1 ⊢;rw [hasP_pre] at h1;refine List.find?_eq_some_iff_getElem.2 ⟨h1,k,hk',rfl,fun j hj => ?_⟩;have := h0 j hj;rw [getD_at (by omega),hasP_pre] at this;simp [this]
theorem sym_none {l : Str} (h0 : ∀ j,j < 25 → hasP l (symbols.getD j []) = false) : symbols.find? (fun x => x.isPrefixOf l) = none := by
 rw [List.find?_eq_none];intro x hx;obtain ⟨j,hj,rfl⟩ := List.mem_iff_getElem.1 hx;have := h0 j hj;rw [getD_at hj,hasP_pre] at this;simp [this]
set_option maxRecDepth 100000 in
theorem read_any (H : Hp) (G : Gl H) (l : Str) (hl : l.length ≤ 9223372036854775807) (h0 : l ≠ []) (w : World) (hA : Agr H w) :
 Calls Tryz.prog 97 #[strV l] w fun e w' => e = .returned (.tuple #[.int .u8 ((readK l).1.toNat : Nat),.int .i64 ((readK l).2 : Nat)]) ∧ Ext w w' := by
 match l,h0 with
 | c :: r,_ =>
 refine Sx.enter (H := H) Tryz.func97 rfl Tryz.ntmps97 rfl hA ?_;refine .sr<|.a Z Z<|.a Z Z<|.nt<|.sq<|.sr<|.m Z Z<|.yv (.idxS Fx.str9 Z Z Z (b := c) (j := 0) Z) Z<|.a Z Z<|.nt<|.bk<|.sr<|.m Z Z<|.yv (.call Fx.call150 Z (fun W s => letter_any c W)) Z<|.a Z Z<|.nt<|.cd Z (fun h21 => ?_) (fun h21 => ?_)
 ·skip
  refine .sr<|.m Z Z<|.yv (.call Fx.call146 Z (fun W s => prefix_any 151 insB Fx.call151 inside_any (c :: r) hl W)) Z<|.a Z Z<|.nt<|.sq<|.sr<|.m Z Z<|.m Z Z<|.yv (.takeS Fx.str9 Z Z Z (pre_le _ _)) Z<|.yv (.call Fx.call152 Z (fun W s => keyword_any H G _ W s.agr)) Z<|.nt<|.cd Z (fun h29 => ?_) (fun h29 => ?_)
  ·skip
   refine .sr<|.m Z Z<|.a Z Z<|.a Z Z<|.nt<|.rt<|.tR<|.bR<|.tR<|?_
   first
    | exact Sx.retN (.inl rfl) rfl (.cons (.tmp rfl) (.cons (.tmp rfl) .nil)) rfl fun W s => ⟨by simp only [readK,List.headD_cons,h21,h29,if_true];rfl,s.ext⟩
    | exact Sx.retN (.inl rfl) rfl (.cons (.tmp rfl) (.cons (.tmp rfl) .nil)) rfl fun W s => ⟨by simp only [readK,List.headD_cons,h21,h29,if_true,Bool.false_eq_true,if_false,show pre insB (c :: r) ≤ 12 by omega];rfl,s.ext⟩
    | exact Sx.retN (.inl rfl) rfl (.cons (.tmp rfl) (.cons (.tmp rfl) .nil)) rfl fun W s => ⟨by simp only [readK,List.headD_cons,h21,h29,if_true,Bool.false_eq_true,if_false,show ¬ pre insB (c :: r) ≤ 12 by omega];rfl,s.ext⟩
    | exact Sx.retN (.inl rfl) rfl (.cons (.tmp rfl) (.cons (.tmp rfl) .nil)) rfl fun W s => ⟨by simp only [readK,List.headD_cons,h21,h34,if_true,Bool.false_eq_true,if_false,hor];rfl,s.ext⟩
    | exact Sx.retN (.inl rfl) rfl (.cons (.tmp rfl) (.cons (.tmp rfl) .nil)) rfl fun W s => ⟨by simp only [readK,List.headD_cons,h21,h34,Bool.false_eq_true,if_false,hfind];rfl,s.ext⟩
  skip
  refine .sk<|.tN<|.sr<|.m Z Z<|.yv (.leq Z Z) Z<|.nt<|.cd Z (fun h32 => ?_) (fun h32 => ?_)
  ·try simp only [dt] at h32
   refine .sr<|.m Z Z<|.a Z Z<|.a Z Z<|.nt<|.rt<|.bR<|.tR<|?_
   first
    | exact Sx.retN (.inl rfl) rfl (.cons (.tmp rfl) (.cons (.tmp rfl) .nil)) rfl fun W s => ⟨by simp only [readK,List.headD_cons,h21,h29,if_true];rfl,s.ext⟩
    | exact Sx.retN (.inl rfl) rfl (.cons (.tmp rfl) (.cons (.tmp rfl) .nil)) rfl fun W s => ⟨by simp only [readK,List.headD_cons,h21,h29,if_true,Bool.false_eq_true,if_false,show pre insB (c :: r) ≤ 12 by omega];rfl,s.ext⟩
    | exact Sx.retN (.inl rfl) rfl (.cons (.tmp rfl) (.cons (.tmp rfl) .nil)) rfl fun W s => ⟨by simp only [readK,List.headD_cons,h21,h29,if_true,Bool.false_eq_true,if_false,show ¬ pre insB (c :: r) ≤ 12 by omega];rfl,s.ext⟩
    | exact Sx.retN (.inl rfl) rfl (.cons (.tmp rfl) (.cons (.tmp rfl) .nil)) rfl fun W s => ⟨by simp only [readK,List.headD_cons,h21,h34,if_true,Bool.false_eq_true,if_false,hor];rfl,s.ext⟩
    | exact Sx.retN (.inl rfl) rfl (.cons (.tmp rfl) (.cons (.tmp rfl) .nil)) rfl fun W s => ⟨by simp only [readK,List.headD_cons,h21,h34,Bool.false_eq_true,if_false,hfind];rfl,s.ext⟩
  try simp only [df] at h32
  refine .sk<|.bN<|.tN<|.sr<|.m Z Z<|.yv (.lenS Fx.str9 Z) Z<|.a Z Z<|.a Z Z<|.nt<|.rt<|?_
  first
   | exact Sx.retN (.inl rfl) rfl (.cons (.tmp rfl) (.cons (.tmp rfl) .nil)) rfl fun W s => ⟨by simp only [readK,List.headD_cons,h21,h29,if_true];rfl,s.ext⟩
   | exact Sx.retN (.inl rfl) rfl (.cons (.tmp rfl) (.cons (.tmp rfl) .nil)) rfl fun W s => ⟨by simp only [readK,List.headD_cons,h21,h29,if_true,Bool.false_eq_true,if_false,show pre insB (c :: r) ≤ 12 by omega];rfl,s.ext⟩
   | exact Sx.retN (.inl rfl) rfl (.cons (.tmp rfl) (.cons (.tmp rfl) .nil)) rfl fun W s => ⟨by simp only [readK,List.headD_cons,h21,h29,if_true,Bool.false_eq_true,if_false,show ¬ pre insB (c :: r) ≤ 12 by omega];rfl,s.ext⟩
   | exact Sx.retN (.inl rfl) rfl (.cons (.tmp rfl) (.cons (.tmp rfl) .nil)) rfl fun W s => ⟨by simp only [readK,List.headD_cons,h21,h34,if_true,Bool.false_eq_true,if_false,hor];rfl,s.ext⟩
   | exact Sx.retN (.inl rfl) rfl (.cons (.tmp rfl) (.cons (.tmp rfl) .nil)) rfl fun W s => ⟨by simp only [readK,List.headD_cons,h21,h34,Bool.false_eq_true,if_false,hfind];rfl,s.ext⟩
 skip
 refine .sr<|.m Z Z<|.yv (.call Fx.call153 Z (fun W s => digit_any c W)) Z<|.a Z Z<|.nt<|.cd Z (fun h34 => ?_) (fun h34 => ?_)
 ·skip
  refine .sr<|.m Z Z<|.yv (.call Fx.call146 Z (fun W s => prefix_any 153 digB Fx.call153 digit_any (c :: r) hl W)) Z<|.a Z Z<|.ns<|.m Z Z<|.yv (.eql Z Z) Z<|.m Z Z<|.b2 (fun h41 => ?_) (fun h41 => ?_)
  ·try simp only [dt] at h41
   have hor : (pre digB (c :: r) = 1 ∨ c ≠ 48) = True := eq_true (.inl (by omega));refine .gF Z Z Z Z<|.gF Z Z Z Z<|.yv (.pickT Z Z) Z<|.nt<|.cT Z<|.sr<|.m Z Z<|.a Z Z<|.a Z Z<|.nt<|.rt<|.bR<|.tR<|?_
   first
    | exact Sx.retN (.inl rfl) rfl (.cons (.tmp rfl) (.cons (.tmp rfl) .nil)) rfl fun W s => ⟨by simp only [readK,List.headD_cons,h21,h29,if_true];rfl,s.ext⟩
    | exact Sx.retN (.inl rfl) rfl (.cons (.tmp rfl) (.cons (.tmp rfl) .nil)) rfl fun W s => ⟨by simp only [readK,List.headD_cons,h21,h29,if_true,Bool.false_eq_true,if_false,show pre insB (c :: r) ≤ 12 by omega];rfl,s.ext⟩
    | exact Sx.retN (.inl rfl) rfl (.cons (.tmp rfl) (.cons (.tmp rfl) .nil)) rfl fun W s => ⟨by simp only [readK,List.headD_cons,h21,h29,if_true,Bool.false_eq_true,if_false,show ¬ pre insB (c :: r) ≤ 12 by omega];rfl,s.ext⟩
    | exact Sx.retN (.inl rfl) rfl (.cons (.tmp rfl) (.cons (.tmp rfl) .nil)) rfl fun W s => ⟨by simp only [readK,List.headD_cons,h21,h34,if_true,Bool.false_eq_true,if_false,hor];rfl,s.ext⟩
    | exact Sx.retN (.inl rfl) rfl (.cons (.tmp rfl) (.cons (.tmp rfl) .nil)) rfl fun W s => ⟨by simp only [readK,List.headD_cons,h21,h34,Bool.false_eq_true,if_false,hfind];rfl,s.ext⟩
  try simp only [df] at h41
  refine .gd Z Z<|.yv (.move Z) Z<|.gd Z Z<|.yv (.neq Z Z) Z<|.yv (.pickF Z Z) Z<|.nt<|.cd Z (fun h44 => ?_) (fun h44 => ?_)
  ·try simp only [dt] at h44
   have hor : (pre digB (c :: r) = 1 ∨ c ≠ 48) = True := eq_true (.inr fun e => h44 (by rw [e];rfl));refine .sr<|.m Z Z<|.a Z Z<|.a Z Z<|.nt<|.rt<|.bR<|.tR<|?_
   first
    | exact Sx.retN (.inl rfl) rfl (.cons (.tmp rfl) (.cons (.tmp rfl) .nil)) rfl fun W s => ⟨by simp only [readK,List.headD_cons,h21,h29,if_true];rfl,s.ext⟩
    | exact Sx.retN (.inl rfl) rfl (.cons (.tmp rfl) (.cons (.tmp rfl) .nil)) rfl fun W s => ⟨by simp only [readK,List.headD_cons,h21,h29,if_true,Bool.false_eq_true,if_false,show pre insB (c :: r) ≤ 12 by omega];rfl,s.ext⟩
    | exact Sx.retN (.inl rfl) rfl (.cons (.tmp rfl) (.cons (.tmp rfl) .nil)) rfl fun W s => ⟨by simp only [readK,List.headD_cons,h21,h29,if_true,Bool.false_eq_true,if_false,show ¬ pre insB (c :: r) ≤ 12 by omega];rfl,s.ext⟩
    | exact Sx.retN (.inl rfl) rfl (.cons (.tmp rfl) (.cons (.tmp rfl) .nil)) rfl fun W s => ⟨by simp only [readK,List.headD_cons,h21,h34,if_true,Bool.false_eq_true,if_false,hor];rfl,s.ext⟩
    | exact Sx.retN (.inl rfl) rfl (.cons (.tmp rfl) (.cons (.tmp rfl) .nil)) rfl fun W s => ⟨by simp only [readK,List.headD_cons,h21,h34,Bool.false_eq_true,if_false,hfind];rfl,s.ext⟩
  try simp only [df] at h44
  have hor : (pre digB (c :: r) = 1 ∨ c ≠ 48) = False := eq_false fun h => by
   rcases h with h | h
   ·omega
   ·exact h (UInt8.toNat_inj.1 (by show c.toNat = 48;simp at h44;omega))
  refine .sk<|.bN<|.tN<|.sr<|.m Z Z<|.yv (.lenS Fx.str9 Z) Z<|.a Z Z<|.a Z Z<|.nt<|.rt<|?_
  first
   | exact Sx.retN (.inl rfl) rfl (.cons (.tmp rfl) (.cons (.tmp rfl) .nil)) rfl fun W s => ⟨by simp only [readK,List.headD_cons,h21,h29,if_true];rfl,s.ext⟩
   | exact Sx.retN (.inl rfl) rfl (.cons (.tmp rfl) (.cons (.tmp rfl) .nil)) rfl fun W s => ⟨by simp only [readK,List.headD_cons,h21,h29,if_true,Bool.false_eq_true,if_false,show pre insB (c :: r) ≤ 12 by omega];rfl,s.ext⟩
   | exact Sx.retN (.inl rfl) rfl (.cons (.tmp rfl) (.cons (.tmp rfl) .nil)) rfl fun W s => ⟨by simp only [readK,List.headD_cons,h21,h29,if_true,Bool.false_eq_true,if_false,show ¬ pre insB (c :: r) ≤ 12 by omega];rfl,s.ext⟩
   | exact Sx.retN (.inl rfl) rfl (.cons (.tmp rfl) (.cons (.tmp rfl) .nil)) rfl fun W s => ⟨by simp only [readK,List.headD_cons,h21,h34,if_true,Bool.false_eq_true,if_false,hor];rfl,s.ext⟩
   | exact Sx.retN (.inl rfl) rfl (.cons (.tmp rfl) (.cons (.tmp rfl) .nil)) rfl fun W s => ⟨by simp only [readK,List.headD_cons,h21,h34,Bool.false_eq_true,if_false,hfind];rfl,s.ext⟩
 skip
 refine .sr<|.yv (.loadMW Z Fx.agg217 G.symbols Z) Z<|.m Z Z<|.nt<|.bk<|.lp (X := Nat) [(0,_),(11,_)] ⟨rfl,rfl,trivial⟩ [] (fun k => [(12,.int .i64 (k : Nat))]) (fun k => H) (fun k => []) (fun k => k ≤ 25 ∧ ∀ j,j < k → hasP (c :: r) (symbols.getD j []) = false) (fun k => 25 - k) 0 (fun _ s => s) ⟨rfl,trivial⟩ ⟨by omega,fun j hj => by omega⟩ fun k hC => ?_
 obtain ⟨hk,hne⟩ := hC;refine .sr<|.yv (.lss Z Z) Z<|.nt<|.sq<|.cd Z (fun h13 => ?_) (fun h13 => ?_)
 ·try simp only [dt] at h13
  refine .sk<|.tN<|.sq<|.bk<|.sr<|.yv (.idxA Fx.arr217 Fx.are217 Z Z Z (by omega) (list_at (by show k < 25;omega) [])) Z<|.a Z Z<|.ns<|.m Z Z<|.m Z Z<|.yv (.call Fx.call148 Z (fun W s => hasPrefix_any (c :: r) _ W)) Z<|.nt<|.cd Z (fun h17 => ?_) (fun h17 => ?_)
  ·have hfind := sym_find (by omega) hne h17;refine .sr<|.m Z Z<|.yv (.lenS Fx.str9 Z) Z<|.a Z Z<|.a Z Z<|.nt<|.rt<|.bR<|.tR<|.tR<|.bR<|.bR<|.tR<|?_
   first
    | exact Sx.retN (.inl rfl) rfl (.cons (.tmp rfl) (.cons (.tmp rfl) .nil)) rfl fun W s => ⟨by simp only [readK,List.headD_cons,h21,h29,if_true];rfl,s.ext⟩
    | exact Sx.retN (.inl rfl) rfl (.cons (.tmp rfl) (.cons (.tmp rfl) .nil)) rfl fun W s => ⟨by simp only [readK,List.headD_cons,h21,h29,if_true,Bool.false_eq_true,if_false,show pre insB (c :: r) ≤ 12 by omega];rfl,s.ext⟩
    | exact Sx.retN (.inl rfl) rfl (.cons (.tmp rfl) (.cons (.tmp rfl) .nil)) rfl fun W s => ⟨by simp only [readK,List.headD_cons,h21,h29,if_true,Bool.false_eq_true,if_false,show ¬ pre insB (c :: r) ≤ 12 by omega];rfl,s.ext⟩
    | exact Sx.retN (.inl rfl) rfl (.cons (.tmp rfl) (.cons (.tmp rfl) .nil)) rfl fun W s => ⟨by simp only [readK,List.headD_cons,h21,h34,if_true,Bool.false_eq_true,if_false,hor];rfl,s.ext⟩
    | exact Sx.retN (.inl rfl) rfl (.cons (.tmp rfl) (.cons (.tmp rfl) .nil)) rfl fun W s => ⟨by simp only [readK,List.headD_cons,h21,h34,Bool.false_eq_true,if_false,hfind];rfl,s.ext⟩
  skip
  exact .sk<|.bN<|.tN<|.rg<|.yv (.add Z Z (w6 (by omega))) Z<|.m Z Z<|.nt<|.ag (k + 1) ⟨rfl,trivial⟩ ⟨rfl,rfl,trivial⟩ (fun _ s => s) ⟨by omega,fun j hj => by
   by_cases e : j = k
   ·subst e;exact h17
   ·exact hne j (by omega)⟩ (by omega)
 try simp only [df] at h13
 have hfind := sym_none (l := c :: r) (fun j hj => hne j (by omega));refine .ex<|.tE<|.tE<|.bE<|.bN<|.tN<|.sr<|.m Z Z<|.yv (.lenS Fx.str9 Z) Z<|.a Z Z<|.a Z Z<|.nt<|.rt<|?_
 first
  | exact Sx.retN (.inl rfl) rfl (.cons (.tmp rfl) (.cons (.tmp rfl) .nil)) rfl fun W s => ⟨by simp only [readK,List.headD_cons,h21,h29,if_true];rfl,s.ext⟩
  | exact Sx.retN (.inl rfl) rfl (.cons (.tmp rfl) (.cons (.tmp rfl) .nil)) rfl fun W s => ⟨by simp only [readK,List.headD_cons,h21,h29,if_true,Bool.false_eq_true,if_false,show pre insB (c :: r) ≤ 12 by omega];rfl,s.ext⟩
  | exact Sx.retN (.inl rfl) rfl (.cons (.tmp rfl) (.cons (.tmp rfl) .nil)) rfl fun W s => ⟨by simp only [readK,List.headD_cons,h21,h29,if_true,Bool.false_eq_true,if_false,show ¬ pre insB (c :: r) ≤ 12 by omega];rfl,s.ext⟩
  | exact Sx.retN (.inl rfl) rfl (.cons (.tmp rfl) (.cons (.tmp rfl) .nil)) rfl fun W s => ⟨by simp only [readK,List.headD_cons,h21,h34,if_true,Bool.false_eq_true,if_false,hor];rfl,s.ext⟩
  | exact Sx.retN (.inl rfl) rfl (.cons (.tmp rfl) (.cons (.tmp rfl) .nil)) rfl fun W s => ⟨by simp only [readK,List.headD_cons,h21,h34,Bool.false_eq_true,if_false,hfind];rfl,s.ext⟩
set_option maxRecDepth 100000 in
theorem isName_any (H : Hp) (G : Gl H) (l : Str) (hl : l.length ≤ 9223372036854775807) (w : World) (hA : Agr H w) :
 Calls Tryz.prog 75 #[strV l] w fun r w' => r = .returned (.bool (nameB l)) ∧ Ext w w' := by
 refine Sx.enter (H := H) Tryz.func75 rfl Tryz.ntmps75 rfl hA ?_;refine .sr<|.a Z Z<|.nt<|.sq<|.sr<|.m Z Z<|.yv (.eqS Z Z) Z<|.nt<|.cd Z (fun h6 => ?_) (fun h6 => ?_)
 ·try simp only [dt] at h6
  subst h6;refine .sr<|.a Z Z<|.nt<|.rt<|.tR<|?_
  refine Sx.ret1 (.inl rfl) rfl (.tmp rfl) fun W s => ⟨retB ?_,s.ext⟩
  first
   | (rw [nameB,show (readK l).1 = 1 from h1];simp [h6];omega)
   | (rw [show nameB l = false by simp [nameB,h1]])
   | (rfl)
 try simp only [df] at h6
 skip
 refine .sk<|.tN<|.sr<|.m Z Z<|.yv (.call Fx.call97 Z (fun W s => read_any H G l hl h6 W s.agr)) Z<|.m Z Z<|.yv (.extract Z Z) Z<|.yv (.extract Z Z) Z<|.a Z Z<|.a Z Z<|.ns<|.m Z Z<|.yv (.eql Z Z) Z<|.m Z Z<|.b2 (fun h14 => ?_) (fun h14 => ?_)
 ·try simp only [dt] at h14
  have h1 : (readK l).1 = 1 := UInt8.toNat_inj.1 (by show _ = 1;omega);refine .gd Z Z<|.yv (.move Z) Z<|.gd Z Z<|.yv (.move Z) Z<|.gd Z Z<|.yv (.lenS Fx.str9 Z) Z<|.gd Z Z<|.yv (.eql Z Z) Z<|.yv (.pickT Z Z) Z<|.a Z Z<|.nt<|.rt<|?_
  refine Sx.ret1 (.inl rfl) rfl (.tmp rfl) fun W s => ⟨retB ?_,s.ext⟩
  first
   | (rw [nameB,show (readK l).1 = 1 from h1];simp [h6];omega)
   | (rw [show nameB l = false by simp [nameB,h1]])
   | (rfl)
 try simp only [df] at h14
 have h1 : ¬ (readK l).1 = 1 := fun e => h14 (by rw [e];rfl);refine .gF Z Z Z Z<|.gF Z Z Z Z<|.gF Z Z Z Z<|.gF Z Z Z Z<|.yv (.pickF Z Z) Z<|.a Z Z<|.nt<|.rt<|?_
 refine Sx.ret1 (.inl rfl) rfl (.tmp rfl) fun W s => ⟨retB ?_,s.ext⟩
 first
  | (rw [nameB,show (readK l).1 = 1 from h1];simp [h6];omega)
  | (rw [show nameB l = false by simp [nameB,h1]])
  | (rfl)
mutual
def Ex.all (q : Ex → Bool) : Ex → Bool
 | .mk op nm n args => q (.mk op nm n args) && Ex.alls q args
def Ex.alls (q : Ex → Bool) : List Ex → Bool
 | [] => true
 | e :: r => Ex.all q e && Ex.alls q r
end
theorem alls_app (q : Ex → Bool) (a b : List Ex) : Ex.alls q (a ++ b) = (Ex.alls q a && Ex.alls q b) := by
 induction a with
 | nil => simp [Ex.alls]
 | cons e r ih => simp only [List.cons_append,Ex.alls,ih,Bool.and_assoc]
theorem alls_succ {q : Ex → Bool} {l : List Ex} {k : Nat} (h : k < l.length) : Ex.alls q (l.take (k + 1)) = (Ex.alls q (l.take k) && Ex.all q l[k]) := by
 rw [take_snoc h,alls_app];simp [Ex.alls]
theorem alls_bad {q : Ex → Bool} {l : List Ex} {k : Nat} (h : k < l.length) (hb : Ex.all q l[k] = false) : Ex.alls q l = false := by
 have h1 := alls_app q (l.take (k + 1)) (l.drop (k + 1));rw [List.take_append_drop,alls_succ h,hb] at h1;simpa using h1
theorem all_mk (q : Ex → Bool) (op : UInt8) (nm : Str) (n : Int64) (args : List Ex) : Ex.all q (.mk op nm n args) = (q (.mk op nm n args) && Ex.alls q args) := by rw [Ex.all]
mutual
def Sm.all (q : Sm → Bool) : Sm → Bool
 | .mk kd nm hd ex th el => q (.mk kd nm hd ex th el) && Sm.alls q th && Sm.alls q el
def Sm.alls (q : Sm → Bool) : List Sm → Bool
 | [] => true
 | e :: r => Sm.all q e && Sm.alls q r
end
theorem salls_app (q : Sm → Bool) (a b : List Sm) : Sm.alls q (a ++ b) = (Sm.alls q a && Sm.alls q b) := by
 induction a with
 | nil => simp [Sm.alls]
 | cons e r ih => simp only [List.cons_append,Sm.alls,ih,Bool.and_assoc]
theorem sall_mk (q : Sm → Bool) (kd : UInt8) (nm hd : Str) (ex : List Ex) (th el : List Sm) : Sm.all q (.mk kd nm hd ex th el) = (q (.mk kd nm hd ex th el) && Sm.alls q th && Sm.alls q el) := by rw [Sm.all]
def namE : Ex → Bool
 | .mk op nm _ _ => !(shapeOf op).nm || nameB nm
def frmE : Ex → Bool
 | .mk op nm n args => okOp op && decide (args.length = (shapeOf op).n) && ((shapeOf op).nm || decide (nm = [])) && (if op = 1 then decide (0 ≤ n.toInt) else decide (n.toInt = 0))
def namS : Sm → Bool
 | .mk kd nm hd ex _ _ => (!(formOf kd).nm || nameB nm) && (!(formOf kd).hd || nameB hd) && Ex.alls namE ex
def frmS : Sm → Bool
 | .mk kd nm hd ex th el => okKd kd && decide ((formOf kd).lo ≤ ex.length) && decide (ex.length ≤ (formOf kd).hi) && ((formOf kd).nm || decide (nm = [])) && ((formOf kd).hd || decide (hd = [])) &&
  ((formOf kd).th || decide (th.length = 0)) && ((formOf kd).el || decide (el.length = 0)) && Ex.alls frmE ex
def smaS : Sm → Bool
 | .mk _ _ _ ex _ _ => ex.all fun x => decide (x.depth ≤ 8)
def frmH (h : Hd) : Bool := Sm.alls frmS h.body
def opT (least : Nat) (x : Nat × Str) : Str := if x.1 < least then [40] ++ x.2 ++ [41] else x.2
def lftT (lv : Nat) : Nat := if lv = 3 then lv + 1 else lv
def txt (op : UInt8) (nm : Str) (n : Int64) (ls : List (Nat × Str)) : Str :=
 if op = 1 then Lib.itoa n.toInt
 else if op = 5 ∨ op = 8 then (shapeOf op).tx ++ nm
 else if op = 6 ∨ op = 7 then (shapeOf op).tx ++ nm ++ [91] ++ (ls.getD 0 (0,[])).2 ++ [93]
 else if op = 9 ∨ op = 10 then (shapeOf op).tx ++ opT (shapeOf op).lv (ls.getD 0 (0,[]))
 else if (shapeOf op).n = 0 then (shapeOf op).tx
 else opT (lftT (shapeOf op).lv) (ls.getD 0 (0,[])) ++ (shapeOf op).tx ++ opT ((shapeOf op).lv + 1) (ls.getD 1 (0,[]))
mutual
def Ex.text : Ex → Str
 | .mk op nm n args => txt op nm n (Ex.texts args)
def Ex.texts : List Ex → List (Nat × Str)
 | [] => []
 | e :: r => ((shapeOf e.op).lv,Ex.text e) :: Ex.texts r
end
theorem texts_map : ∀ l : List Ex,Ex.texts l = l.map fun e => ((shapeOf e.op).lv,Ex.text e)
 | [] => rfl
 | e :: r => by rw [Ex.texts,texts_map r];rfl
theorem text_mk (op : UInt8) (nm : Str) (n : Int64) (args : List Ex) : Ex.text (.mk op nm n args) = txt op nm n (args.map fun e => ((shapeOf e.op).lv,Ex.text e)) := by rw [Ex.text,texts_map]
end Go.Proofs.YtidclioghdbphaaGreatDoor
namespace Go.Sx
open Go.RowKit Go.Par
section
variable {dfs : List Deferred} {P : Program} {n : Nat} {L : Sl} {H : Hp} {w0 : World} {bs : List Res} {Q : Exit → Act → World → Prop} {ops : Array Oper} {K : Act → World → Prop}
def exN (K : Act → World → Prop) (Q : Exit → Act → World → Prop) : Exit → Act → World → Prop := fun e => match e with | .normal => K | e => Q e
theorem At.ar {id : Nat} {l : List Oper} (m : Nat) (l0 : Array Bool) (hm : P.follows .mixedOrders = true) (hn : l.toArray.size = m) (h0 : Array.replicate m false = l0)
 (h : At dfs n L H w0 bs (wpAny P .any l.toArray Q m l0)) : At dfs n L H w0 bs ((Code.region id l.toArray true).wp P Q) := anyRegion m l0 hm hn h0 h
theorem At.an {fuel : Nat} {listed : Array Bool} (x : Nat) (rs : List Nat) (hr : Region.ready .any ops listed = x :: rs)
 (h : AllIn (fun i => At dfs n L H w0 bs (wpOp P ops Q i (wpAny P .any ops Q fuel (listed.setIfInBounds i true)))) (x :: rs)) : At dfs n L H w0 bs (wpAny P .any ops Q (fuel + 1) listed) := anyStep x rs hr h
theorem one_exN {o : Oper} {a : Act} {w : World} (h : one P ops (exN K Q) o K a w) : one P ops Q o K a w := by
 unfold one at *
 split at h <;> rename_i hw
 ·rw [if_pos hw];exact h
 ·rw [if_neg hw];exact h
theorem At.ao {fuel i : Nat} {listed : Array Bool} {o : Oper} (l' : Array Bool) (ho : ops[i]? = some o) (hl : listed.setIfInBounds i true = l') (h : At dfs n L H w0 bs (wpList P ops (exN (wpAny P .any ops Q fuel l') Q) [o])) :
 At dfs n L H w0 bs (wpOp P ops Q i (wpAny P .any ops Q fuel (listed.setIfInBounds i true))) := anyOp l' ho hl fun a W f s => one_exN (h a W f s)
theorem At.nx (h : At dfs n L H w0 bs K) : At dfs n L H w0 bs (wpList P ops (exN K Q) []) := nil h
theorem At.ae {listed : Array Bool} (hr : Region.ready .any ops listed = []) (h : At dfs n L H w0 bs (Q .normal)) : At dfs n L H w0 bs (wpAny P .any ops Q 0 listed) := anyEnd hr h
theorem Yl.cutHi2 {d : Option Tmp} {ty : TypeId} {pos : String} {aft : Array Edge} {g : Option (Nat × Bool)} {x y : Operand} {T : TypeId} {p : Option Addr} {len c z h : Nat} {k : IntKind} {i : Int} (hT : slN P T = some z) (hx : ev L x = some (.slice p len c)) (hy : ev L y = some (.int k i)) (e : i = (h : Int)) (hh : h ≤ c) :
 Yl P L H w0 bs ⟨d,.slice T x none (some y) none,ty,pos,aft,g⟩ (.slice (if c = 0 then p else p.map fun q => q.add 0) h c) := .of_run fun a W f _ => by
 subst e;obtain ⟨el,hu,hz⟩ := slN_spec hT;unfold execOp;simp [f x _ hx,f y _ hy,Instr.sliceAt,Instr.slice,underlying,program,Sem.run,Result.andThen,hu,Instr.sliceBounds,Instr.sliceBound,asIntOf,hh,run_sizeOf hz]
theorem rep_take2 {z n c hi : Nat} {ds : List D} {p : Option Addr} (h : Rep H (.seq z ds) [.slice p n c]) (hl : hi ≤ n) : Rep H (.seq z (ds.take hi)) [.slice (if c = 0 then p else p.map fun q => q.add 0) hi c] := by
 have hn := h.len
 by_cases hc : c = 0
 ·have h0 : ds = [] := List.eq_nil_of_length_eq_zero (by omega);rw [if_pos hc,h0,List.take_nil,show hi = 0 by omega];exact .empty (by omega)
 rw [if_neg hc];unfold Rep at h;obtain ⟨p',c',h1,h2,h3,h4⟩ := h;injection h1 with h1 _
 injection h1 with h5 h6 h7
 subst h5 h7;rcases h4 with h4 | ⟨b',off',cs,rfl,h9,h10,h11⟩
 ·subst h4;obtain rfl : hi = 0 := by simp only [List.length_nil] at h6;omega
  exact .empty (by omega)
 ·exact .mkM (h9.take (hi * z)) (h10.take hi) (by rw [List.length_take];omega) (by omega) (by omega) fun e => h11 (D.txtL_sub (fun x => List.mem_of_mem_take) e)
end
inductive Ty where
 | int (k : IntKind)
 | bool
 | strg
 | seq (τ : Ty)
 | str (fs : List Ty)
 | arr (n : Nat) (τ : Ty)
mutual
def Ty.cells : Ty → Nat
 | .int _ => 1
 | .bool => 1
 | .strg => 1
 | .seq _ => 1
 | .str fs => Ty.cellsL fs
 | .arr n τ => n * Ty.cells τ
def Ty.cellsL : List Ty → Nat
 | [] => 0
 | τ :: r => Ty.cells τ + Ty.cellsL r
end
mutual
def Ty.at (P : Program) : Ty → TypeId → Bool
 | .int k,t => match P.underlying t with | some (.int k') => decide (k' = k) | _ => false
 | .bool,t => match P.underlying t with | some .bool => true | _ => false
 | .strg,t => match P.underlying t with | some .string => true | _ => false
 | .seq τ,t => match P.underlying t with | some (.slice e) => Ty.at P τ e && decide (P.cellsOf e = Ty.cells τ) && decide (0 < Ty.cells τ) | _ => false
 | .str fs,t => match P.underlying t with | some (.struct g) => decide (P.cellsOf t = Ty.cellsL fs) && Ty.atL P fs g.toList 0 | _ => false
 | .arr n τ,t => match P.underlying t with | some (.array m e) => decide (m = n) && Ty.at P τ e && decide (P.cellsOf e = Ty.cells τ) && decide (P.cellsOf t = n * Ty.cells τ) | _ => false
def Ty.atL (P : Program) : List Ty → List Field → Nat → Bool
 | [],[],_ => true
 | τ :: r,f :: g,o => Ty.at P τ f.type && decide (f.offset = o) && decide (P.cellsOf f.type = Ty.cells τ) && Ty.atL P r g (o + Ty.cells τ)
 | _,_,_ => false
end
mutual
def Ty.has : Ty → D → Prop
 | .int k,d => ∃ n,d = .val (.int k n) ∧ (Lit.int k n).wf = true
 | .bool,d => ∃ b,d = .val (.bool b)
 | .strg,d => ∃ s : ByteArray,d = .any (.string s)
 | .seq τ,d => ∃ ds,d = .seq (Ty.cells τ) ds ∧ ∀ x ∈ ds,Ty.has τ x
 | .str fs,d => ∃ ds,d = .str ds ∧ Ty.hasL fs ds
 | .arr _ _,_ => False
def Ty.hasL : List Ty → List D → Prop
 | [],ds => ds = []
 | τ :: r,ds => ∃ d q,ds = d :: q ∧ Ty.has τ d ∧ Ty.hasL r q
end
mutual
def Ty.opn : Ty → Bool
 | .int _ => true
 | .bool => true
 | .strg => true
 | .seq τ => Ty.opn τ
 | .str fs => Ty.opnL fs
 | .arr _ _ => false
def Ty.opnL : List Ty → Bool
 | [] => true
 | τ :: r => Ty.opn τ && Ty.opnL r
end
mutual
def Ty.pln : Ty → Bool
 | .int _ => true
 | .bool => true
 | .strg => true
 | .seq _ => false
 | .str fs => Ty.plnL fs
 | .arr _ τ => Ty.pln τ
def Ty.plnL : List Ty → Bool
 | [] => true
 | τ :: r => Ty.pln τ && Ty.plnL r
end
def allH (W : World) : Hp := ⟨fun b => W.heap[b]?,0⟩
theorem allH_agr (W : World) : Agr (allH W) W := ⟨fun _ _ h => h,Nat.zero_le _⟩
theorem cell_block {W : World} {a : Addr} {v : Value} (h : W.cell? a = some v) : ∃ cs t m,W.heap[a.block]? = some (.cells cs t m) ∧ a.spot = Option.none ∧ cs[a.off]? = some v := by
 unfold World.cell? at h
 split at h
 ·rename_i cs t m e
  split at h
  ·cases h
  ·rename_i hs;exact ⟨cs,t,m,e,by simpa using hs,h⟩
 ·cases h
theorem add_add (a : Addr) (x y : Nat) : (a.add x).add y = a.add (x + y) := by
 by_cases hx : x = 0
 ·subst hx;simp [Addr.add]
 ·by_cases hy : y = 0
  ·subst hy;simp [Addr.add]
  ·simp [Addr.add,hx,hy,Nat.add_assoc]
mutual
theorem Ty.plain : ∀ (τ : Ty) (d : D),Ty.has τ d → d.txt = false
 | .int k,d,h => by
  unfold Ty.has at h;obtain ⟨n,rfl,_⟩ := h
  rfl
 | .bool,d,h => by
  unfold Ty.has at h;obtain ⟨n,rfl⟩ := h
  rfl
 | .strg,d,h => by
  unfold Ty.has at h;obtain ⟨n,rfl⟩ := h
  rfl
 | .seq τ,d,h => by
  unfold Ty.has at h;obtain ⟨ds,rfl,h⟩ := h;show D.txtL ds = false;rw [D.txtL_any,List.any_eq_false];intro x hx;rw [Ty.plain τ x (h x hx)]
  decide
 | .str fs,d,h => by
  unfold Ty.has at h;obtain ⟨ds,rfl,h⟩ := h;exact Ty.plainL fs ds h
 | .arr n τ,d,h => by
  unfold Ty.has at h;exact h.elim
theorem Ty.plainL : ∀ (fs : List Ty) (ds : List D),Ty.hasL fs ds → D.txtL ds = false
 | [],ds,h => by
  unfold Ty.hasL at h;subst h
  rfl
 | τ :: r,ds,h => by
  unfold Ty.hasL at h;obtain ⟨d,q,rfl,h1,h2⟩ := h;rw [D.txtL,Ty.plain τ d h1,Ty.plainL r q h2]
  rfl
end
section
variable {H : Type} {enc : TypeId × Value → H} {P : Program} {base : Nat} {sp : Nat → Bool} {held : Bool}
mutual
theorem Ty.opens (W : World) : ∀ (τ : Ty) (t : TypeId) (fuel : Nat) (cs : List Value) (x : DataW H × List MemPlace),Ty.at P τ t = true → Ty.opn τ = true → DataW.trod enc P W base sp held fuel t cs = some x → ∃ d,Ty.has τ d ∧ Rep (allH W) d cs
 | .int k,t,fuel,cs,x,ha,_,h => by
  unfold Ty.at at ha
  split at ha
  ·rename_i k' hu;obtain rfl : k' = k := by simpa using ha
   obtain ⟨n,rfl,_,hw⟩ := DataW.trod_int hu h;refine ⟨.val (.int k' n),?_,?_⟩
   ·unfold Ty.has;exact ⟨n,rfl,hw⟩
   ·unfold Rep;exact ⟨rfl,rfl,trivial⟩
  ·cases ha
 | .bool,t,fuel,cs,x,ha,_,h => by
  unfold Ty.at at ha
  split at ha
  ·rename_i hu;obtain ⟨b,rfl,_⟩ := DataW.trod_bool hu h;refine ⟨.val (.bool b),?_,?_⟩
   ·unfold Ty.has;exact ⟨b,rfl⟩
   ·unfold Rep;exact ⟨rfl,rfl,trivial⟩
  ·cases ha
 | .strg,t,fuel,cs,x,ha,_,h => by
  unfold Ty.at at ha
  split at ha
  ·rename_i hu;obtain ⟨s,rfl,_⟩ := DataW.trod_string hu h;refine ⟨.any (.string s),?_,?_⟩
   ·unfold Ty.has;exact ⟨s,rfl⟩
   ·unfold Rep;exact ⟨rfl,rfl⟩
  ·cases ha
 | .arr _ _,_,_,_,_,_,ho,_ => by simp [Ty.opn] at ho
 | .str fs,t,fuel,cs,x,ha,ho,h => by
  unfold Ty.at at ha
  split at ha
  ·rename_i g hu;simp only [Bool.and_eq_true,decide_eq_true_eq] at ha;unfold Ty.opn at ho;obtain ⟨xs,n,_,rfl,hl,hlen,hf⟩ := DataW.trod_struct hu h
   obtain ⟨ds,h1,h2⟩ := Ty.opensL W fs g.toList 0 n cs ha.2 ho (by rw [hl,ha.1];omega) (fun i f hi => by
    have hi2 : g[i]? = some f := by simpa using hi
    have := hf i f hi2;have hlt : i < xs.length := by rw [hlen];exact (Array.getElem?_eq_some_iff.1 hi2).1
    rw [List.getElem?_eq_getElem hlt] at this;exact ⟨_,this⟩)
   refine ⟨.str ds,?_,?_⟩
   ·unfold Ty.has;exact ⟨ds,rfl,h1⟩
   ·unfold Rep;simpa using h2
  ·cases ha
 | .seq τ,t,fuel,cs,x,ha,ho,h => by
  unfold Ty.at at ha
  split at ha
  ·rename_i e hu;simp only [Bool.and_eq_true,decide_eq_true_eq] at ha;obtain ⟨⟨ha,hz⟩,h0⟩ := ha;unfold Ty.opn at ho;rcases Go.Deep.open_slice hu h with ⟨rfl,-⟩ | ⟨a,len,cap,m,n,D,Pl,rfl,-,hl,hm,hmm,-,hi⟩
   ·refine ⟨.seq (Ty.cells τ) [],?_,.empty (by simp [maxLen])⟩;unfold Ty.has;exact ⟨[],rfl,by simp⟩
   have hlm : len ≤ m := by rw [hmm];split <;> omega
   have key : ∀ q,q ≤ len → ∃ ds l,ds.length = q ∧ (∀ x ∈ ds,Ty.has τ x) ∧ RepZ (allH W) (Ty.cells τ) ds l ∧ l.length = q * Ty.cells τ ∧ ∀ (j : Nat) u,l[j]? = some u → W.cell? (a.add j) = some u := by
    intro q;induction q with
    | zero => intro _;exact ⟨[],[],rfl,by simp,RepZ.nil,by simp,by simp⟩
    | succ q ih =>
     intro hq;obtain ⟨ds,l,h1,h2,h3,h4,h5⟩ := ih (by omega);obtain ⟨cs',hc,ht⟩ := hi q (by omega);rw [hz] at hc;obtain ⟨_,hcl,hat⟩ := World.cells?_some hc;obtain ⟨d,hd,hr⟩ := Ty.opens W τ e n cs' _ ha ho ht;refine ⟨ds ++ [d],l ++ cs',by simp [h1],?_,h3.snoc hr hcl,by rw [List.length_append,h4,hcl,Nat.succ_mul],?_⟩
     ·intro x hx;rcases List.mem_append.1 hx with hx | hx
      ·exact h2 x hx
      ·rw [List.mem_singleton.1 hx];exact hd
     ·intro j u hj
      by_cases hjl : j < l.length
      ·rw [List.getElem?_append_left hjl] at hj;exact h5 j u hj
      ·rw [List.getElem?_append_right (by omega)] at hj;have hjc := (List.getElem?_eq_some_iff.1 hj).1;have := hat (j - l.length) (by omega);rw [hj] at this;have h9 : q * Ty.cells τ + (j - l.length) = j := by omega
       have h10 : (a.add (q * Ty.cells τ)).add (j - l.length) = a.add j := by rw [add_add,h9]
       rw [← h10];exact this
   obtain ⟨ds,l,h1,h2,h3,h4,h5⟩ := key len (Nat.le_refl _);refine ⟨.seq (Ty.cells τ) ds,?_,?_⟩
   ·unfold Ty.has;exact ⟨ds,rfl,h2⟩
   by_cases hl0 : len = 0
   ·subst hl0;obtain rfl := List.eq_nil_of_length_eq_zero h1;exact .empty hm
   ·have hlp : 0 < l.length := by rw [h4];exact Nat.mul_pos (by omega) h0
    have hc0 := h5 0 _ (List.getElem?_eq_getElem hlp);rw [show a.add 0 = a by simp [Addr.add]] at hc0;obtain ⟨arr,t',mk,hb,hs,_⟩ := cell_block hc0;obtain ⟨ab,ao,ap⟩ := a;simp only at hs hb;subst hs
    refine .mkM ⟨arr,t',mk,hb,fun j u hu => ?_⟩ h3 h1 hl hm fun e => by
     have hp := Ty.plain (.seq τ) (.seq (Ty.cells τ) ds) (by unfold Ty.has;exact ⟨ds,rfl,h2⟩);rw [show Go.Sx.D.txtL ds = false from hp] at e;cases e
    have h6 := h5 j u hu;rw [Addr.add_lit] at h6;obtain ⟨arr',t'',mk',hb',_,h7⟩ := cell_block h6;have e2 := Option.some.inj (hb.symm.trans hb');injection e2 with e3
    subst e3;exact h7
  ·cases ha
theorem Ty.opensL (W : World) : ∀ (fs : List Ty) (g : List Field) (o n : Nat) (cs : List Value),Ty.atL P fs g o = true → Ty.opnL fs = true → cs.length = o + Ty.cellsL fs →
 (∀ (i : Nat) f,g[i]? = some f → ∃ y,DataW.trod enc P W base sp held n f.type ((cs.drop f.offset).take (P.cellsOf f.type)) = some y) → ∃ ds,Ty.hasL fs ds ∧ RepL (allH W) ds (cs.drop o)
 | [],[],o,n,cs,_,_,hl,_ => by
  refine ⟨[],by unfold Ty.hasL;rfl,?_⟩;unfold RepL;exact List.drop_of_length_le (by simp only [Ty.cellsL] at hl;omega)
 | [],_ :: _,_,_,_,ha,_,_,_ => by simp [Ty.atL] at ha
 | _ :: _,[],_,_,_,ha,_,_,_ => by simp [Ty.atL] at ha
 | τ :: r,f :: g,o,n,cs,ha,ho,hl,hf => by
  unfold Ty.atL at ha;unfold Ty.opnL at ho;simp only [Bool.and_eq_true,decide_eq_true_eq] at ha ho;obtain ⟨⟨⟨a1,a2⟩,a3⟩,a4⟩ := ha;obtain ⟨y,hy⟩ := hf 0 f rfl;rw [a2,a3] at hy;obtain ⟨d,h1,h2⟩ := Ty.opens W τ f.type n _ y a1 ho.1 hy;unfold Ty.cellsL at hl;obtain ⟨ds,h3,h4⟩ := Ty.opensL W r g (o + Ty.cells τ) n cs a4 ho.2 (by omega) (fun i f' hi => hf (i + 1) f' (by simpa using hi));refine ⟨d :: ds,by unfold Ty.hasL;exact ⟨d,ds,rfl,h1,h3⟩,?_⟩;unfold RepL;exact ⟨_,_,by rw [← List.drop_drop,List.take_append_drop],h2,h4⟩
end
mutual
def flatD : DataW H → List Value
 | .lit (.int k n) => [.int k n]
 | .lit (.bool b) => [.bool b]
 | .lit (.string l) => [.string ⟨l.toArray⟩]
 | .agg ps => flatDs ps
 | _ => []
def flatDs : List (DataW H) → List Value
 | [] => []
 | d :: r => flatD d ++ flatDs r
end
mutual
theorem Ty.flat (W : World) : ∀ (τ : Ty) (t : TypeId) (fuel : Nat) (cs : List Value) (x : DataW H × List MemPlace),Ty.at P τ t = true → Ty.pln τ = true → DataW.trod enc P W base sp held fuel t cs = some x → cs = flatD x.1
 | .int k,t,fuel,cs,x,ha,_,h => by
  unfold Ty.at at ha
  split at ha
  ·rename_i k' hu;obtain ⟨n,rfl,rfl,hw⟩ := DataW.trod_int hu h;simp only [flatD]
  ·cases ha
 | .bool,t,fuel,cs,x,ha,_,h => by
  unfold Ty.at at ha
  split at ha
  ·rename_i hu;obtain ⟨b,rfl,rfl⟩ := DataW.trod_bool hu h;simp only [flatD]
  ·cases ha
 | .strg,t,fuel,cs,x,ha,_,h => by
  unfold Ty.at at ha
  split at ha
  ·rename_i hu;obtain ⟨s,rfl,rfl,_⟩ := DataW.trod_string hu h;simp only [flatD]
  ·cases ha
 | .seq _,_,_,_,_,_,ho,_ => by simp [Ty.pln] at ho
 | .str fs,t,fuel,cs,x,ha,ho,h => by
  unfold Ty.at at ha
  split at ha
  ·rename_i g hu;simp only [Bool.and_eq_true,decide_eq_true_eq] at ha;unfold Ty.pln at ho;obtain ⟨xs,n,_,rfl,hl,hlen,hf⟩ := DataW.trod_struct hu h;have h2 := Ty.flatL W fs g.toList 0 n cs xs ha.2 ho (by rw [hl,ha.1];omega) (by simpa using hlen) (fun i f hi => hf i f (by simpa using hi));simpa [flatD] using h2
  ·cases ha
 | .arr k τ,t,fuel,cs,x,ha,ho,h => by
  unfold Ty.at at ha
  split at ha
  ·rename_i m e hu;simp only [Bool.and_eq_true,decide_eq_true_eq] at ha;obtain ⟨⟨⟨hm,ha⟩,hz⟩,hct⟩ := ha;subst hm;unfold Ty.pln at ho;obtain ⟨xs,n,_,rfl,hl,hlen,hf⟩ := DataW.trod_array hu h
   have key : ∀ (xs : List (DataW H × List MemPlace)) (cs : List Value),cs.length = xs.length * Ty.cells τ → (∀ i,i < xs.length → DataW.trod enc P W base sp held n e ((cs.drop (i * Ty.cells τ)).take (Ty.cells τ)) = xs[i]?) → cs = flatDs (xs.map (·.1)) := by
    intro xs;induction xs with
    | nil => intro cs hc _;simp at hc;simp [hc,flatDs]
    | cons y r ih =>
     intro cs hc hi;have h0 := hi 0 (by simp);simp only [Nat.zero_mul,List.drop_zero,List.getElem?_cons_zero] at h0;have e0 := Ty.flat W τ e n _ y ha ho h0
     have e1 := ih (cs.drop (Ty.cells τ)) (by rw [List.length_drop,hc,List.length_cons,Nat.succ_mul];omega) (fun i hlt => by
      have := hi (i + 1) (by simp;omega);rw [List.getElem?_cons_succ] at this;rw [← this,List.drop_drop,show Ty.cells τ + i * Ty.cells τ = (i + 1) * Ty.cells τ by rw [Nat.succ_mul];omega])
     simp only [List.map_cons,flatDs];rw [← e0,← e1,List.take_append_drop]
   have h2 := key xs cs (by rw [hl,hct,hlen]) (fun i hlt => by
    have := hf i (by omega);rw [hz] at this;exact this)
   simpa [flatD] using h2
  ·cases ha
theorem Ty.flatL (W : World) : ∀ (fs : List Ty) (g : List Field) (o n : Nat) (cs : List Value) (xs : List (DataW H × List MemPlace)),Ty.atL P fs g o = true → Ty.plnL fs = true → cs.length = o + Ty.cellsL fs → xs.length = g.length →
 (∀ (i : Nat) f,g[i]? = some f → DataW.trod enc P W base sp held n f.type ((cs.drop f.offset).take (P.cellsOf f.type)) = xs[i]?) → cs.drop o = flatDs (xs.map (·.1))
 | [],[],o,n,cs,xs,_,_,hl,hx,_ => by
  obtain rfl := List.eq_nil_of_length_eq_zero hx;simp only [List.map_nil,flatDs];exact List.drop_of_length_le (by simp only [Ty.cellsL] at hl;omega)
 | [],_ :: _,_,_,_,_,ha,_,_,_,_ => by simp [Ty.atL] at ha
 | _ :: _,[],_,_,_,_,ha,_,_,_,_ => by simp [Ty.atL] at ha
 | τ :: r,f :: g,o,n,cs,[],ha,ho,hl,hx,hf => by simp at hx
 | τ :: r,f :: g,o,n,cs,y :: xs,ha,ho,hl,hx,hf => by
  unfold Ty.atL at ha;unfold Ty.plnL at ho;simp only [Bool.and_eq_true,decide_eq_true_eq] at ha ho;obtain ⟨⟨⟨a1,a2⟩,a3⟩,a4⟩ := ha;have hy := hf 0 f rfl;rw [a2,a3,List.getElem?_cons_zero] at hy;have e0 := Ty.flat W τ f.type n _ y a1 ho.1 hy;unfold Ty.cellsL at hl
  have e1 := Ty.flatL W r g (o + Ty.cells τ) n cs xs a4 ho.2 (by omega) (by simpa using hx) (fun i f' hi => by
   have := hf (i + 1) f' (by simpa using hi);rw [List.getElem?_cons_succ] at this;exact this)
  simp only [List.map_cons,flatDs];rw [← e0,← e1,← List.drop_drop,List.take_append_drop]
end
end
theorem laid_mem {P : Program} {W : World} {name : String} {dat : DataW Unit} {rest : List (String × DataW Unit)} {g : Nat} {t : TypeId} (τ : Ty) (cs : List Value)
 (hg : P.globalNamed name = some g) (hty : (P.globals[g]?).map (·.type) = some t) (ha : Ty.at P τ t = true) (hp : Ty.pln τ = true) (hc : flatD dat = cs) (h : laidMet P ((name,dat) :: rest) W) : MemAt (allH W) g 0 cs := by
 obtain ⟨ps,⟨g',t',cs',fuel,p,q,hg',ht',hvar,hd,_,_⟩,_⟩ := h;obtain rfl := Option.some.inj (hg.symm.trans hg');obtain rfl := Option.some.inj (hty.symm.trans ht');have e := Ty.flat W τ t fuel cs'.toList _ ha hp hd;dsimp only at e;rw [hc] at e;unfold World.var? at hvar;rw [hg] at hvar;simp only [Option.bind_some] at hvar
 split at hvar
 ·rename_i arr T m hb;refine ⟨arr,T,m,hb,fun j u hu => ?_⟩;obtain rfl := Option.some.inj hvar;rw [Nat.zero_add];rw [← e] at hu;simpa using hu
 ·cases hvar
theorem list_of {α β : Type} {f : α → β} : ∀ {ds : List β},(∀ x ∈ ds,∃ y,x = f y) → ∃ l : List α,ds = l.map f
 | [],_ => ⟨[],rfl⟩
 | d :: r,h => by
  obtain ⟨y,rfl⟩ := h d (.head _);obtain ⟨l,rfl⟩ := list_of (ds := r) fun x hx => h x (.tail _ hx);exact ⟨y :: l,rfl⟩
theorem has_u8 {n : Int} (h : (Lit.int .u8 n).wf = true) : ∃ x : UInt8,n = x.toNat := by
 have e1 : IntKind.u8.min = 0 := rfl;have e2 : IntKind.u8.max = 255 := rfl;simp only [Lit.wf,e1,e2,Bool.and_eq_true,decide_eq_true_eq] at h;exact ⟨UInt8.ofNat n.toNat,by simp [UInt8.toNat_ofNat'];omega⟩
theorem has_i64 {n : Int} (h : (Lit.int .i64 n).wf = true) : ∃ x : Int64,n = x.toInt := by
 have e1 : IntKind.i64.min = -9223372036854775808 := rfl;have e2 : IntKind.i64.max = 9223372036854775807 := rfl;simp only [Lit.wf,e1,e2,Bool.and_eq_true,decide_eq_true_eq] at h;exact ⟨Int64.ofInt n,(Int64.toInt_ofInt_of_le (by simpa using h.1) (by have := h.2;omega)).symm⟩
inductive Pi0 where
 | done
 | no
 | light (i : Nat) (r : Pi0)
 | alt (i k : Nat) (r q : Pi0)
inductive PlT where
 | done
 | no
 | light (i : Nat) (o : Oper) (r : PlT)
 | alt (i k : Nat) (o : Oper) (r q : PlT)
def fillT (l : List Oper) : Pi0 → PlT
 | .done => .done
 | .no => .no
 | .light i r => .light i l[i]! (fillT l r)
 | .alt i k r q => .alt i k l[i]! (fillT l r) (fillT l q)
def okT (ops : Array Oper) (n : Nat) : List Nat → List Nat → Pi0 → Bool
 | D,A,.done => A.isEmpty && (List.range n).all fun j => D.contains j
 | D,A,.no => !A.isEmpty && (List.range n).all fun j => D.contains j || A.contains j || A.any fun i => reach ops n j i
 | D,A,.light i r => A.isEmpty && decide (i < n) && !D.contains i && ((List.range n).all fun j => !Region.waitsFor .any ops i j || D.contains j) && okT ops n (i :: D) [] r
 | D,A,.alt i k r q => decide (i < n) && !D.contains i && ((List.range n).all fun j => !Region.waitsFor .any ops i j || D.contains j) && (!(k == 1) || D.all fun j => reach ops n i j) && okT ops n (i :: D) [] r && okT ops n D (i :: A) q
section
variable {dfs : List Deferred} {P : Program} {ops : Array Oper} {w0 : World} {n N : Nat}
def FlowT (dfs : List Deferred) (P : Program) (ops : Array Oper) (n : Nat) (w0 : World) (N : Nat) (E : Sl → Hp → List Res → Prop) : PlT → List (Nat × Oper × Value) → Sl → Hp → List Res → Prop
 | .done,_,L,H,bs => E L H bs
 | .no,_,_,_,_ => True
 | .light i o r,pa,L,H,bs => ∃ v,(∀ a W,Fr dfs N L a → St H w0 bs W → Yq P ops o v a W) ∧ (∀ t,o.dst = some t → t < N) ∧ FlowT dfs P ops n w0 N E r ((i,o,v) :: pa) (putL o.dst v L) H bs
 | .alt i k o r q,pa,L,H,bs => ((∀ t,o.dst = some t → t < N) ∧ At dfs N L H w0 bs (one P ops (fun _ _ _ => False) o fun a' W' => ∃ v H' bs',Fr dfs N (putL o.dst v L) a' ∧ St H' w0 bs' W' ∧ (k = 1 ∨ (∀ W,St H' w0 bs' W → St H w0 bs W) ∨ RedoP dfs P ops n w0 N L H' bs' i pa) ∧ FlowT dfs P ops n w0 N E r pa (putL o.dst v L) H' bs')) ∧ FlowT dfs P ops n w0 N E q pa L H bs
structure GT (dfs : List Deferred) (P : Program) (ops : Array Oper) (l : List Oper) (w0 : World) (n N : Nat) (a0 : Act) (E : Sl → Hp → List Res → Prop) (listed : Array Bool) (a : Act) (W : World) (val : Nat → Value) (dec : Nat → Bool) (D : List Nat) (L : Sl) (H : Hp) (bs : List Res) (pa : List (Nat × Oper × Value)) : Prop where
 head : HeadInv .any ops n listed
 frame : a = frm ops val (st listed) n a0
 full : Fr dfs N L (frm ops val dec n a0)
 sub : ∀ i,i < n → st listed i = true → dec i = true
 world : St H w0 bs W
 light : ∀ i o,i < n → ops[i]? = some o → dec i = true → st listed i = false → ∀ W,St H w0 bs W → Yq P ops o (val i) (frm ops val dec n a0) W
 past : ∀ i o,i < n → ops[i]? = some o → dec i = true → st listed i = false → (i,o,val i) ∈ pa
 set : ∀ j,dec j = D.contains j
 deps : ∀ i j,i < n → j < n → dec i = true → Region.waitsFor .any ops i j = true → dec j = true
variable {l : List Oper} {a0 : Act} {E : Sl → Hp → List Res → Prop} {Q : Exit → Act → World → Prop} {listed : Array Bool} {a : Act} {W : World} {val : Nat → Value} {dec : Nat → Bool} {D A : List Nat} {L : Sl} {H : Hp} {bs : List Res} {pa : List (Nat × Oper × Value)}
theorem upd_set {i : Nat} (h : ∀ j,dec j = D.contains j) : ∀ j,upd dec i true j = (i :: D).contains j := fun j => by
 by_cases e : j = i
 ·subst e;rw [upd_same];simp
 ·rw [upd_ne _ _ e,h j,List.contains_cons];have : (j == i) = false := by simpa using e
  rw [this];simp
theorem waits_ok {i : Nat} (h : ((List.range n).all fun j => !Region.waitsFor .any ops i j || D.contains j) = true) {j : Nat} (hj : j < n) (hw : Region.waitsFor .any ops i j = true) : D.contains j = true := by
 have := List.all_eq_true.1 h j (List.mem_range.2 hj);rw [hw] at this;simpa using this
theorem chain_find (hl : ops = l.toArray) {j : Nat} (hj : j < n) (hjD : D.contains j = false) (hnr : ∀ i,D.contains i = false → i < n → reach ops n j i = false) :
 ∀ (q : Pi0) (A : List Nat),(q = .no ∨ ∃ i k r q',q = .alt i k r q') → okT ops n D A q = true → (∀ i ∈ A,D.contains i = false ∧ i < n ∧ i ≠ j) → FlowT dfs P ops n w0 N E (fillT l q) pa L H bs →
  ∃ k r,((List.range n).all fun x => !Region.waitsFor .any ops j x || D.contains x) = true ∧ (!(k == 1) || D.all fun x => reach ops n j x) = true ∧ okT ops n (j :: D) [] r = true ∧ (∀ t,(l[j]!).dst = some t → t < N) ∧
   At dfs N L H w0 bs (one P ops (fun _ _ _ => False) l[j]! fun a' W' => ∃ v H' bs',Fr dfs N (putL (l[j]!).dst v L) a' ∧ St H' w0 bs' W' ∧ (k = 1 ∨ (∀ W,St H' w0 bs' W → St H w0 bs W) ∨ RedoP dfs P ops n w0 N L H' bs' j pa) ∧ FlowT dfs P ops n w0 N E (fillT l r) pa (putL (l[j]!).dst v L) H' bs') := by
 intro q;induction q with
 | done => rintro A (h | ⟨_,_,_,_,h⟩) <;> cases h
 | light i r => rintro A (h | ⟨_,_,_,_,h⟩) <;> cases h
 | no =>
  intro A _ hok hA _
  exfalso
  simp only [okT,Bool.and_eq_true] at hok;have := List.all_eq_true.1 hok.2 j (List.mem_range.2 hj);simp only [Bool.or_eq_true] at this;rcases this with (h | h) | h
  ·rw [hjD] at h;cases h
  ·exact (hA j (by simpa using h)).2.2 rfl
  ·obtain ⟨i,hi,hre⟩ := List.any_eq_true.1 h;rw [hnr i (hA i hi).1 (hA i hi).2.1] at hre;cases hre
 | alt i k r q' ihr ihq =>
  intro A _ hok hA hF;simp only [okT,Bool.and_eq_true,decide_eq_true_eq,Bool.not_eq_true'] at hok;obtain ⟨⟨⟨⟨⟨h1,h2⟩,h3⟩,h4⟩,h5⟩,h6⟩ := hok;unfold fillT FlowT at hF
  by_cases e : i = j
  ·subst e;exact ⟨k,r,h3,h4,h5,hF.1.1,hF.1.2⟩
  ·have hq : q' = .no ∨ ∃ i k r q'',q' = .alt i k r q'' := by
    cases q' with
    | done => simp [okT] at h6
    | light i r => simp [okT] at h6
    | no => exact .inl rfl
    | alt i k r q => exact .inr ⟨_,_,_,_,rfl⟩
   refine ihq (i :: A) hq h6 (fun x hx => ?_) hF.2;rcases List.mem_cons.1 hx with rfl | hx
   ·exact ⟨h2,h1,e⟩
   ·exact hA x hx
end
section
variable {dfs : List Deferred} {P : Program} {n : Nat} {L : Sl} {H : Hp} {w0 : World} {bs : List Res} {Q : Exit → Act → World → Prop} {ops : Array Oper} {rest : List Oper} {K : Act → World → Prop}
variable {d : Option Tmp} {ty : TypeId} {pos : String} {aft : Array Edge} {g : Option (Nat × Bool)} {v : Value} {t : Tmp} {op : Op} {x y z : Operand} {T T' : TypeId}
variable {N hn : Nat} {pa : List (Nat × Oper × Value)} {E : Sl → Hp → List Res → Prop} {r q : PlT} {i k : Nat}
def AltT (dfs : List Deferred) (P : Program) (ops : Array Oper) (n : Nat) (w0 : World) (N : Nat) (E : Sl → Hp → List Res → Prop) (i k : Nat) (o : Oper) (r : PlT) (pa : List (Nat × Oper × Value)) (L : Sl) (H : Hp) (bs : List Res) : Prop :=
 (∀ t,o.dst = some t → t < N) ∧ At dfs N L H w0 bs (one P ops (fun _ _ _ => False) o fun a' W' => ∃ v H' bs',Fr dfs N (putL o.dst v L) a' ∧ St H' w0 bs' W' ∧ (k = 1 ∨ (∀ W,St H' w0 bs' W → St H w0 bs W) ∨ RedoP dfs P ops n w0 N L H' bs' i pa) ∧ FlowT dfs P ops n w0 N E r pa (putL o.dst v L) H' bs')
theorem FlowT.h1 {o : Oper} (h : AltT dfs P ops hn w0 N E i k o r pa L H bs) : FlowT dfs P ops hn w0 N E (.alt i k o r .no) pa L H bs := ⟨h,trivial⟩
theorem FlowT.h {o : Oper} (h : AltT dfs P ops hn w0 N E i k o r pa L H bs) (hq : FlowT dfs P ops hn w0 N E q pa L H bs) : FlowT dfs P ops hn w0 N E (.alt i k o r q) pa L H bs := ⟨h,hq⟩
theorem FlowT.nn : FlowT dfs P ops hn w0 N E .no pa L H bs := trivial
theorem FlowT.yv (hy : Yl P L H w0 bs ⟨some t,op,ty,pos,aft,none⟩ v) (ht : Nat.blt t N = true) (h : FlowT dfs P ops hn w0 N E r ((i,⟨some t,op,ty,pos,aft,none⟩,v) :: pa) ((t,v) :: L) H bs) : FlowT dfs P ops hn w0 N E (.light i ⟨some t,op,ty,pos,aft,none⟩ r) pa L H bs :=
 ⟨v,fun a W f s => .inl ⟨by simp [Region.wanted],hy a W (fun x u e => f.ev e) s⟩,blt_of ht,h⟩
theorem FlowT.m (hx : ev L x = some v) (ht : Nat.blt t N = true) (h : FlowT dfs P ops hn w0 N E r ((i,⟨some t,.move x,ty,pos,aft,none⟩,v) :: pa) ((t,v) :: L) H bs) : FlowT dfs P ops hn w0 N E (.light i ⟨some t,.move x,ty,pos,aft,none⟩ r) pa L H bs := .yv (.move hx) ht h
theorem AltT.into {H' : Hp} {bs' : List Res} (hw : k = 1 ∨ (∀ W,St H' w0 bs' W → St H w0 bs W) ∨ RedoP dfs P ops hn w0 N L H' bs' i pa) (h : FlowT dfs P ops hn w0 N E r pa ((t,v) :: L) H' bs') :
 At dfs N ((t,v) :: L) H' w0 bs' (fun a' W' => ∃ v H' bs',Fr dfs N (putL (some t) v L) a' ∧ St H' w0 bs' W' ∧ (k = 1 ∨ (∀ W,St H' w0 bs' W → St H w0 bs W) ∨ RedoP dfs P ops hn w0 N L H' bs' i pa) ∧ FlowT dfs P ops hn w0 N E r pa (putL (some t) v L) H' bs') := fun _ _ f s => ⟨v,H',bs',f,s,hw,h⟩
theorem AltT.al {l : List Value} (hz : zeroN P T = some l) (ht : Nat.blt t N = true) (h : ∀ b,FlowT dfs P ops hn w0 N E r pa ((t,.pointer (some ⟨b,0,none⟩)) :: L) H (.box b l T :: bs)) : AltT dfs P ops hn w0 N E i k ⟨some t,.alloc T,ty,pos,aft,none⟩ r pa L H bs :=
 ⟨blt_of ht,alloc hz ht fun b => AltT.into (.inr<|.inl fun _ s => s.drop) (h b)⟩
theorem AltT.c3 {X : Type} {f : FuncId} {xs : List Operand} {vs : List Value} {ats : Array TypeId} {C : X → Prop} {val : X → Value} {H' : X → Hp} {bs' : X → List Res} (hf : callN P f = true) (hv : evs L xs = some vs)
 (hc : ∀ W,St H w0 bs W → Calls P f vs.toArray W fun e W' => ∃ x,C x ∧ e = .returned (val x) ∧ St (H' x) w0 (bs' x) W') (ht : Nat.blt t N = true)
 (hr : ∀ x,C x → RedoP dfs P ops hn w0 N L (H' x) (bs' x) i pa) (h : ∀ x,C x → FlowT dfs P ops hn w0 N E r pa ((t,val x) :: L) (H' x) (bs' x)) : AltT dfs P ops hn w0 N E i 2 ⟨some t,.call ⟨.value (.func f),xs.toArray,ats⟩,ty,pos,aft,none⟩ r pa L H bs :=
 ⟨blt_of ht,callS hf hv hc ht fun x hx => AltT.into (.inr<|.inr<|hr x hx) (h x hx)⟩
end
def SliceAt (H : Hp) (v : Value) (n : Nat) (xs : List Value) : Prop := (v = .slice none 0 0 ∧ n = 0) ∨ ∃ b c,v = .slice (some ⟨b,0,none⟩) n c ∧ n ≤ c ∧ c ≤ maxLen ∧ MemN H b 0 xs
theorem Upd.new {bs bs' : List Res} {x y : Res} (h : Upd bs x y bs') : y ∈ bs' := by
 induction h with
 | head => exact .head _
 | tail _ ih => exact .tail _ ih
theorem SliceAt.up {H H' : Hp} {v : Value} {n : Nat} {xs : List Value} (h : SliceAt H v n xs) (u : Up H H') : SliceAt H' v n xs := by
 rcases h with h | ⟨b,c,e,h1,h2,h3⟩
 ·exact .inl h
 ·exact .inr ⟨b,c,e,h1,h2,h3.up u⟩
section
variable {dfs : List Deferred} {P : Program} {n : Nat} {L : Sl} {H : Hp} {w0 : World} {bs : List Res} {Q : Exit → Act → World → Prop} {ops : Array Oper} {rest : List Oper} {K : Act → World → Prop}
variable {d : Option Tmp} {ty : TypeId} {pos : String} {aft : Array Edge} {v : Value} {t : Tmp} {x y : Operand} {T : TypeId}
theorem St.boxRowZ {b m z : Nat} {l : List Value} {e : TypeId} {W : World} (h : St H w0 (.box b l e :: bs) W) (hz : l.length = m * z) (hl : m ≤ maxLen) : St H w0 (.row e z (.slice (some ⟨b,0,none⟩) m m) m l :: bs) W := by
 have hb := h.own _ (.head _);refine ⟨h.ext,h.agr,fun x hx => ?_,?_,h.lo⟩
 ·rcases List.mem_cons.1 hx with rfl | hx
  ·exact ⟨⟨hz,.inr ⟨b,m,l.toArray,rfl,hb.1.1,hb.1.2,Nat.le_refl _,hl,by simpa using hz,by rw [← hz];simp⟩⟩,fun c e => hb.2 c e⟩
  ·exact h.own x (.tail _ hx)
 ·have h1 := h.apart;rw [List.pairwise_cons] at h1 ⊢;exact ⟨fun z hz c e => h1.1 z hz c e,h1.2⟩
variable {N hn i : Nat} {pa : List (Nat × Oper × Value)} {E : Sl → Hp → List Res → Prop} {q : PlT}
end
section
variable {dfs : List Deferred} {P : Program} {n : Nat} {L : Sl} {H : Hp} {w0 : World} {bs : List Res} {Q : Exit → Act → World → Prop} {ops : Array Oper} {rest : List Oper} {K : Act → World → Prop}
variable {d : Option Tmp} {ty : TypeId} {pos : String} {aft : Array Edge} {v : Value} {t : Tmp} {x y : Operand} {T : TypeId}
theorem appendD {e : TypeId} {size bytes m c k : Nat} {p : Option Addr} {r : Value} {xs : List Value} {ds : List D} {bs' : List Value → Value → List Res} (hT : rowN P T = some (e,size,bytes)) (hx : ev L x = some r)
 (hm : ∀ news r',Upd bs (.row e size r k xs) (.row e size r' (k + m) (xs ++ news)) (bs' news r')) (hy : ev L y = some (.slice p m c)) (hr : Rep H (.seq size ds) [.slice p m c])
 (h63 : k + m ≤ maxLen) (hb : (k + m) * bytes ≤ 140737488355328) (ht : Nat.blt t n = true)
 (h : ∀ news r',RepZ H size ds news → At dfs n ((t,r') :: L) H w0 (bs' news r') K) : At dfs n L H w0 bs (one P ops Q ⟨some t,.call ⟨.builtin .append,#[x,y],#[T,T]⟩,ty,pos,aft,none⟩ K) := by
 have hlen := hr.len;unfold Rep at hr;obtain ⟨p',c',h1,h2,h3,h4⟩ := hr;injection h1 with h1 _
 injection h1 with e1 e2 e3
 subst e1 e3;rcases h4 with h4 | ⟨b,off,cs,rfl,hmem,hz,_⟩
 ·subst h4;obtain rfl : m = 0 := e2;cases p with
  | some A => exact appendA hT hx (hm []) hy (fun W s j u e => by simp at e) (by simp) (by simp) h63 hb ht fun r' _ => h [] r' .nil
  | none =>
   obtain ⟨hu,i,z,hi,hz,hsz,hby,hzs,h0⟩ := rowN_spec hT;have e4 : bs' [] r = bs := (hm [] r).same (by rw [Nat.add_zero,List.append_nil]);have h5 := h [] r .nil;rw [e4] at h5;intro a W f s;refine one_plain rfl ?_;unfold Oper.wp;have hown : W.ownsRow w0.heap.size e size r k xs := (s.own _ (hm [] r).mem).1
   have hrun : (Builtin.append_ #[T,T] ty #[r,.slice none 0 c]).run P W = .ok r W := by
    rcases hown.2 with ⟨rfl,rfl⟩ | ⟨g,cap,cur,rfl,hbg,hgc,hnc,hcm,hcs,htake⟩
    ·simp [Builtin.append_,run_underlying hu,sizeOf,typeInfo,hi,Builtin.lenOf,Builtin.firstCells]
    ·simp [Builtin.append_,run_underlying hu,sizeOf,typeInfo,hi,Builtin.lenOf,Builtin.firstCells,hnc,storeCells]
   simp [execOp,resolve,invoke,builtin,f.ev hx,f.ev hy,hrun,Result.andThen,Oper.upon];exact h5 _ _ (f.put ht _) s
 ·exact appendA hT hx (hm cs) hy (fun W s j u e => by rw [Addr.add_lit];exact hmem.cell s.agr e) (by rw [hz.len,e2]) hz.one h63 hb ht fun r' _ => h cs r' hz
theorem At.apD {e : TypeId} {size bytes m c k : Nat} {p : Option Addr} {r : Value} {xs : List Value} {ds : List D} {bs' : List Value → Value → List Res} (hT : rowN P T = some (e,size,bytes)) (hx : ev L x = some r)
 (hm : ∀ news r',Upd bs (.row e size r k xs) (.row e size r' (k + m) (xs ++ news)) (bs' news r')) (hy : ev L y = some (.slice p m c)) (hr : Rep H (.seq size ds) [.slice p m c])
 (h63 : k + m ≤ maxLen) (hb : (k + m) * bytes ≤ 140737488355328) (ht : Nat.blt t n = true)
 (h : ∀ news r',RepZ H size ds news → At dfs n ((t,r') :: L) H w0 (bs' news r') (wpList P ops Q rest)) : At dfs n L H w0 bs (wpList P ops Q (⟨some t,.call ⟨.builtin .append,#[x,y],#[T,T]⟩,ty,pos,aft,none⟩ :: rest)) := cons (appendD hT hx hm hy hr h63 hb ht h)
theorem At.blR {ps : List (Nat × Operand)} {pv : List (Nat × Value)} {len z : Nat} {e : TypeId} {l : List Value} (hv : evp L ps = some pv) (hb : bslN P T len pv = some (e,l)) (ht : Nat.blt t n = true) (hz : l.length = len * z) (hl : len ≤ maxLen)
 (h : ∀ b,At dfs n ((t,.slice (some ⟨b,0,none⟩) len len) :: L) H w0 (.row e z (.slice (some ⟨b,0,none⟩) len len) len l :: bs) (wpList P ops Q rest)) : At dfs n L H w0 bs (wpList P ops Q (⟨some t,.buildSlice T len ps.toArray,ty,pos,aft,none⟩ :: rest)) :=
 .bl hv hb ht fun b => reSt (fun _ s => s.boxRowZ hz hl) (h b)
theorem At.rs {e : TypeId} {size k : Nat} {r : Value} {xs : List Value} {G : Act → World → Prop} (hm : Res.row e size r k xs ∈ bs) (hk : 0 < k) (h : ∀ g c,r = .slice (some ⟨g,0,none⟩) k c → At dfs n L H w0 bs G) : At dfs n L H w0 bs G := fun a W f s => by
 have ho : W.ownsRow w0.heap.size e size r k xs := (s.own _ hm).1;rcases ho.2 with ⟨hr,h0⟩ | ⟨g,cap,cur,hr,_⟩
 ·omega
 ·exact h g cap hr a W f s
theorem Yl.loadR {e : TypeId} {size k g c off m : Nat} {xs vs : List Value} (hp : ev L x = some (.pointer (some ⟨g,off,none⟩))) (hT : aggN P T = some (some m)) (hm : Res.row e size (.slice (some ⟨g,0,none⟩) k c) k xs ∈ bs) (hl : vs.length = m) (hv : ∀ (j : Nat) u,vs[j]? = some u → xs[off + j]? = some u) {gd : Option (Nat × Bool)} : Yl P L H w0 bs ⟨d,.load T x,ty,pos,aft,gd⟩ (.agg vs.toArray) := .of_run fun a W f s => by
 subst hl;have ho : W.ownsRow w0.heap.size e size (.slice (some ⟨g,0,none⟩) k c) k xs := (s.own _ hm).1;obtain ⟨h1,h2⟩ := run_isAgg_yes (W := W) hT
 have h3 : (loadCells ⟨g,off,none⟩ vs.length).run P W = .ok vs.toArray W := run_loadCells_list W _ vs fun j u e => by
  have := World.ownsRow.cells ho (g := g) rfl (off + j) u (hv j u e);rw [Addr.add_lit,Nat.zero_add] at this;rw [Addr.add_lit];exact this
 unfold execOp;simp only [f x _ hp,Instr.loadAt,Instr.sureAddr,loadVar,Sem.run_bind,Sem.run_pure,Result.andThen,h1,h2,if_true,h3]
theorem Yl.fld {i : Nat} {u : Value} (hx : ev L x = some v) (hr : ∀ W,(Instr.field T v i).run P W = .ok u W) {gd : Option (Nat × Bool)} : Yl P L H w0 bs ⟨d,.field T x i,ty,pos,aft,gd⟩ u := .of_run fun a W f s => by
 unfold execOp;simp only [f x _ hx,Sem.run_bind,hr W,Result.andThen,Sem.run_pure]
theorem setsL_app : ∀ (vs l more : List Value) (off : Nat),off + vs.length ≤ l.length → setsL (l ++ more) off vs = setsL l off vs ++ more
 | [],l,more,off,_ => rfl
 | v :: r,l,more,off,h => by
  unfold setsL;rw [List.length_cons] at h;rw [List.set_append_left _ _ (by omega)];exact setsL_app r (l.set off v) more (off + 1) (by rw [List.length_set];omega)
theorem setsL_right : ∀ (vs p l : List Value) (off : Nat),setsL (p ++ l) (p.length + off) vs = p ++ setsL l off vs
 | [],p,l,off => rfl
 | v :: r,p,l,off => by
  unfold setsL;rw [List.set_append_right _ _ (by omega),show p.length + off - p.length = off by omega,Nat.add_assoc];exact setsL_right r p (l.set off v) (off + 1)
theorem RepZ.put {H : Hp} {z : Nat} {d : D} {vs : List Value} (hd : Rep H d vs) (hz : vs.length = z) : ∀ {ds : List D} {l : List Value} {i : Nat},RepZ H z ds l → i < ds.length → RepZ H z (ds.set i d) (setsL l (i * z) vs)
 | [],l,i,_,hi => by simp at hi
 | d0 :: r,l,0,h,_ => by
  unfold RepZ at h;obtain ⟨x,y,rfl,h1,h2,h3⟩ := h;rw [List.set_cons_zero,Nat.zero_mul,setsL_app _ _ _ _ (by omega)];have := setsL_all vs [] x (by omega);simp only [List.nil_append,List.length_nil] at this;rw [this];unfold RepZ;exact ⟨vs,y,rfl,hz,hd,h3⟩
 | d0 :: r,l,i + 1,h,hi => by
  unfold RepZ at h;obtain ⟨x,y,rfl,h1,h2,h3⟩ := h;have := RepZ.put hd hz (i := i) h3 (by simpa using hi);rw [List.set_cons_succ,show (i + 1) * z = x.length + i * z by rw [h1,Nat.succ_mul];omega,setsL_right];unfold RepZ;exact ⟨x,_,rfl,h1,h2,this⟩
theorem setsL_len : ∀ (vs l : List Value) (off : Nat),(setsL l off vs).length = l.length
 | [],l,off => rfl
 | v :: r,l,off => by unfold setsL;rw [setsL_len r,List.length_set]
variable {N hn i : Nat} {pa : List (Nat × Oper × Value)} {E : Sl → Hp → List Res → Prop} {q : PlT} {fr : List (Nat × Nat × Oper)}
theorem FlowP.apD {e : TypeId} {size bytes m c k : Nat} {p : Option Addr} {r : Value} {xs : List Value} {ds : List D} {bs' : List Value → Value → List Res} (hT : rowN P T = some (e,size,bytes)) (hx : ev L x = some r)
 (hm : ∀ news r',Upd bs (.row e size r k xs) (.row e size r' (k + m) (xs ++ news)) (bs' news r')) (hy : ev L y = some (.slice p m c)) (hr : Rep H (.seq size ds) [.slice p m c])
 (h63 : k + m ≤ maxLen) (hb : (k + m) * bytes ≤ 140737488355328) (ht : Nat.blt t N = true)
 (hr2 : ∀ news r',RedoP dfs P ops hn w0 N L H (bs' news r') i pa) (h : ∀ news p c,RepZ H size ds news → FlowP dfs P ops hn w0 N E fr pa ((t,.slice p (k + m) c) :: L) H (bs' news (.slice p (k + m) c))) :
 FlowP dfs P ops hn w0 N E ((i,3,⟨some t,.call ⟨.builtin .append,#[x,y],#[T,T]⟩,ty,pos,aft,none⟩) :: fr) pa L H bs :=
 ⟨blt_of ht,appendD hT hx hm hy hr h63 hb ht fun news r' hz => At.ra (hm news r').new fun p c e => by subst e;exact FlowP.into (.inr<|.inr<|hr2 _ _) (h news p c hz)⟩
end
section
variable {dfs : List Deferred} {P : Program}
variable {n : Nat} {L : Sl} {H : Hp} {w0 : World} {bs : List Res} {d : Option Tmp} {ty : TypeId} {pos : String} {aft : Array Edge} {g : Option (Nat × Bool)} {x y : Operand} {T T' : TypeId}
end
theorem Rep.cells {H : Hp} {z n c : Nat} {ds : List D} {p : Option Addr} (h : Rep H (.seq z ds) [.slice p n c]) : ∃ cf : Nat → List Value,∀ i d,ds[i]? = some d → ∃ b off,p = some ⟨b,off,none⟩ ∧ Rep H d (cf i) ∧ (cf i).length = z ∧ MemAt H b (off + i * z) (cf i) := by
 classical
 refine ⟨fun i => if h : ∃ cs,∀ d,ds[i]? = some d → ∃ b off,p = some ⟨b,off,none⟩ ∧ Rep H d cs ∧ cs.length = z ∧ MemAt H b (off + i * z) cs then Classical.choose h else [],fun i d hd => ?_⟩
 have ex : ∃ cs,∀ d,ds[i]? = some d → ∃ b off,p = some ⟨b,off,none⟩ ∧ Rep H d cs ∧ cs.length = z ∧ MemAt H b (off + i * z) cs := by
  obtain ⟨b,off,cs,h1,h2,h3,h4⟩ := h.elem hd;refine ⟨cs,fun d' hd' => ?_⟩;rw [hd] at hd';injection hd' with e
  subst e;exact ⟨b,off,h1,h2,h3,h4⟩
 simp only [dif_pos ex];exact Classical.choose_spec ex d hd
theorem subL {vs l : List Value} {k : Nat} (h : (l.drop k).take vs.length = vs) : ∀ (j : Nat) u,vs[j]? = some u → l[k + j]? = some u := fun j u hj => by
 rw [← h,List.getElem?_take] at hj
 split at hj
 ·rw [List.getElem?_drop] at hj;exact hj
 ·cases hj
section
variable {dfs : List Deferred} {P : Program} {n : Nat} {L : Sl} {H : Hp} {w0 : World} {bs : List Res} {Q : Exit → Act → World → Prop} {ops : Array Oper} {rest : List Oper} {K : Act → World → Prop}
variable {d : Option Tmp} {ty : TypeId} {pos : String} {aft : Array Edge} {v : Value} {t : Tmp} {x : Operand}
theorem Yl.mkF {fn : Fn} {fs cs : List Operand} {fi ca : List Value} {g : Option (Nat × Bool)} (h1 : evs L fs = some fi) (h2 : evs L cs = some ca) : Yl P L H w0 bs ⟨d,.makeFunc fn fs.toArray cs.toArray,ty,pos,aft,g⟩ (.func fn fi.toArray ca.toArray) := .of_run fun a W f _ => by
 unfold execOp;simp [evs_map f h1,evs_map f h2,Instr.makeFunc]
theorem Fr.know {a : Act} {p : Value} (f : Fr dfs n L a) (h : look L t = some p) : Fr dfs n ((t,p) :: L) a := ⟨f.size,f.defers,fun s u e => by
 unfold look at e;cases hb : Nat.beq t s
 ·rw [hb,cond_false] at e;exact f.slot s u e
 ·rw [hb,cond_true] at e;rw [← Nat.eq_of_beq_eq_true hb,← Option.some.inj e];exact f.slot t p h⟩
theorem At.cr {y z : Code} {p : Bool} (hc : look L t = some (.bool p)) (h1 : p = true → At dfs n ((t,.bool true) :: L) H w0 bs (y.wp P Q)) (h2 : p = false → At dfs n ((t,.bool false) :: L) H w0 bs (z.wp P Q)) : At dfs n L H w0 bs ((Code.cond (.tmp t) y z).wp P Q) :=
 At.cd (t := p) (by exact hc) (fun e a W f s => h1 e a W (f.know (e ▸ hc)) s) (fun e a W f s => h2 e a W (f.know (e ▸ hc)) s)
/-! ### Stores in a drawn region's head -/
section
variable {N hn i : Nat} {pa : List (Nat × Oper × Value)} {E : Sl → Hp → List Res → Prop} {r : List (Nat × Nat × Oper)} {T : TypeId} {y : Operand} {bs' : List Res}
theorem FlowP.into0 (hr : RedoP dfs P ops hn w0 N L H bs' i pa) (h : FlowP dfs P ops hn w0 N E r pa L H bs') :
 At dfs N L H w0 bs' (fun a' W' => ∃ v H' bs'',Fr dfs N (putL none v L) a' ∧ St H' w0 bs'' W' ∧ (2 = 1 ∨ (∀ W,St H' w0 bs'' W → St H w0 bs W) ∨ RedoP dfs P ops hn w0 N L H' bs'' i pa) ∧ FlowP dfs P ops hn w0 N E r pa (putL none v L) H' bs'') := fun _ _ f s => ⟨undef,H,bs',f,s,.inr (.inr hr),h⟩
theorem FlowP.sW {b : Nat} {l vs : List Value} {t' : TypeId} (hm : Upd bs (.box b l t') (.box b vs t') bs') (hp : ev L x = some (.pointer (some ⟨b,0,none⟩))) (hv : ev L y = some (.agg vs.toArray)) (hT : sizeN P T = some vs.length) (h1 : ∀ u ∈ vs,u.oneCell' = true) (ho : l.length = vs.length)
 (hr : RedoP dfs P ops hn w0 N L H bs' i pa) (h : FlowP dfs P ops hn w0 N E r pa L H bs') : FlowP dfs P ops hn w0 N E ((i,3,⟨none,.store T x y,ty,pos,aft,none⟩) :: r) pa L H bs :=
 ⟨fun _ e => (by cases e),storeW hp hv hT h1 hm ho (into0 hr h)⟩
theorem FlowP.st {b off : Nat} {l l' : List Value} {t' : TypeId} (hm : Upd bs (.box b l t') (.box b l' t') bs') (hp : ev L x = some (.pointer (some ⟨b,off,none⟩))) (hv : ev L y = some v) (hT : sizeN P T = some 1) (h1 : v.oneCell' = true) (ho : Nat.blt off l.length = true) (hl : l.set off v = l')
 (hr : RedoP dfs P ops hn w0 N L H bs' i pa) (h : FlowP dfs P ops hn w0 N E r pa L H bs') : FlowP dfs P ops hn w0 N E ((i,3,⟨none,.store T x y,ty,pos,aft,none⟩) :: r) pa L H bs :=
 ⟨fun _ e => (by cases e),store hp hv hT h1 hm (by simpa [Nat.blt_eq] using ho) hl (into0 hr h)⟩
end
section
variable {N hn i k : Nat} {pa : List (Nat × Oper × Value)} {E : Sl → Hp → List Res → Prop} {r : PlT} {T : TypeId} {y : Operand} {bs' : List Res}
theorem AltT.blF {ps : List (Nat × Operand)} {pv : List (Nat × Value)} {len : Nat} {e : TypeId} {l : List Value} (hv : evp L ps = some pv) (hb : bslN P T len pv = some (e,l)) (ht : Nat.blt t N = true)
 (h : ∀ b H1,HUp w0 H H1 → MemN H1 b 0 l → FlowT dfs P ops hn w0 N E r pa ((t,.slice (some ⟨b,0,none⟩) len len) :: L) H1 bs) : AltT dfs P ops hn w0 N E i k ⟨some t,.buildSlice T len ps.toArray,ty,pos,aft,none⟩ r pa L H bs :=
 ⟨blt_of ht,buildSlice hv hb ht fun b => freezeBoxN fun H1 u m => AltT.into (.inr<|.inl fun _ s => s.weakH u.up) (h b H1 u m)⟩
theorem AltT.into0 (hr : RedoP dfs P ops hn w0 N L H bs' i pa) (h : FlowT dfs P ops hn w0 N E r pa L H bs') :
 At dfs N L H w0 bs' (fun a' W' => ∃ v H' bs'',Fr dfs N (putL none v L) a' ∧ St H' w0 bs'' W' ∧ (k = 1 ∨ (∀ W,St H' w0 bs'' W → St H w0 bs W) ∨ RedoP dfs P ops hn w0 N L H' bs'' i pa) ∧ FlowT dfs P ops hn w0 N E r pa (putL none v L) H' bs'') := fun _ _ f s => ⟨undef,H,bs',f,s,.inr (.inr hr),h⟩
end
end
section
variable {dfs : List Deferred} {P : Program} {L : Sl} {H : Hp} {w0 : World} {bs : List Res} {ops : Array Oper}
variable {ty : TypeId} {pos : String} {aft : Array Edge} {t : Tmp}
variable {N hn i k : Nat} {pa : List (Nat × Oper × Value)} {E : Sl → Hp → List Res → Prop} {r : List (Nat × Nat × Oper)} {T : TypeId}
theorem FlowP.blF {ps : List (Nat × Operand)} {pv : List (Nat × Value)} {len : Nat} {e : TypeId} {l : List Value} (hv : evp L ps = some pv) (hb : bslN P T len pv = some (e,l)) (ht : Nat.blt t N = true)
 (h : ∀ b H1,HUp w0 H H1 → MemN H1 b 0 l → FlowP dfs P ops hn w0 N E r pa ((t,.slice (some ⟨b,0,none⟩) len len) :: L) H1 bs) : FlowP dfs P ops hn w0 N E ((i,k + 1,⟨some t,.buildSlice T len ps.toArray,ty,pos,aft,none⟩) :: r) pa L H bs :=
 ⟨blt_of ht,buildSlice hv hb ht fun b => freezeBoxN fun H1 u m => FlowP.into (.inr<|.inl fun _ s => s.weakH u.up) (h b H1 u m)⟩
end
class FW (F : Fence) : Prop where
 fn : ∀ f,F.fn f
 depth : F.depth = none
 calls : ∀ {n : Nat} {P : Program} {f : FuncId} {args : Array Value} {w : World} {R : Ending → World → Prop},Calls P f args w R → CallsIn F n P f args w R
 rows : ∀ {n : Nat} {P : Program} {r : String} {args : Array Value} {w : World} {R : Value → World → Prop},Rows P r args w R → RowsIn F n P r args w R
instance : FW Fence.wide := ⟨fun _ => trivial,rfl,fun h => callsIn_wide.2 h,fun h c cs _ => let ⟨v,w',r,s⟩ := h c cs;⟨v,w',r,stepsIn_wide.2 s⟩⟩
instance {l : Nat} : FW (Fence.wide.inRound l) := ⟨fun _ => trivial,rfl,fun h => CallsIn.inRound l (callsIn_wide.2 h),fun h c cs _ => let ⟨v,w',r,s⟩ := h c cs;⟨v,w',r,stepsIn_wide.2 s⟩⟩
section
variable {dfs : List Deferred} {P : Program} {n m : Nat} {L : Sl} {H : Hp} {w0 : World} {bs : List Res} {Q : Exit → Act → World → Prop} {ops : Array Oper} {rest : List Oper} {K : Act → World → Prop} {F : Fence}
variable {d : Option Tmp} {ty : TypeId} {pos : String} {aft : Array Edge} {g : Option (Nat × Bool)} {v : Value} {t : Tmp} {op : Op} {x y : Operand} {T : TypeId}
theorem wpIn_of_wp [hF : FW F] {o : Oper} {a : Act} {w : World} (hd : ∀ c,o.op ≠ .defer c) (h : o.wp P a w K (fun _ _ _ => False)) : o.wpIn F m P a w K Q := by
 unfold Oper.wpIn;refine ⟨fun f _ => hF.fn f,?_⟩;rw [Oper.semAt_plain F _ _ hd];unfold Oper.wp at h;generalize (execOp a.eval o).run P w = r at *;cases r with
 | ok z w' =>
  cases z <;> simp only [Oper.upon] at h <;> simp only [Oper.uponIn]
  case value u => exact h
  case skip => exact h
  case defer d => exact h
  case enter f args =>
   refine ⟨fun e => (by rw [hF.depth] at e;cases e),hF.calls (h.mono ?_)⟩;intro e w'' q;cases e with
   | returned v => exact q
   | panicked c => exact q.elim
   | outgrown => obtain ⟨_,_,q⟩ := q;exact q.elim
  case row rw args => exact ⟨fun e => (by rw [hF.depth] at e;cases e),hF.rows h⟩
 | halt z w' =>
  cases z <;> simp only [Oper.upon] at h
theorem consI [hF : FW F] {o : Oper} (hd : ∀ c,o.op ≠ .defer c) (h : At dfs n L H w0 bs (one P ops (fun _ _ _ => False) o (wpListIn F m P ops Q rest))) : At dfs n L H w0 bs (wpListIn F m P ops Q (o :: rest)) := by
 intro a W f s;have h1 := h a W f s;unfold one at h1;unfold wpListIn;cases hw : Region.wanted o (yielded ops a.tmps) with
 | true =>
  rw [hw] at h1;simp only [if_true] at h1 ⊢;rcases h1 with h1 | ⟨_,_,_,h1⟩
  ·exact wpIn_of_wp hd h1
  ·exact h1.elim
 | false =>
  rw [hw] at h1;simp only [Bool.false_eq_true,if_false] at h1 ⊢;exact ⟨fun f _ => hF.fn f,h1⟩
theorem At.rgI {id : Nat} {l : List Oper} (h : At dfs n L H w0 bs (wpListIn F m P l.toArray Q l)) : At dfs n L H w0 bs ((Code.region id l.toArray false).wpIn F m P Q) := fun a W f s => wpIn_region_lit (h a W f s)
theorem At.rgW {id : Nat} {l : List Oper} (m : Nat) (h : At dfs n L H w0 bs (wpListIn Fence.wide m P l.toArray Q l)) : At dfs n L H w0 bs ((Code.region id l.toArray false).wp P Q) := fun a W f s => wpIn_wide.1 (wpIn_region_lit (h a W f s))
theorem At.nlI (h : At dfs n L H w0 bs (Q .normal)) : At dfs n L H w0 bs (wpListIn F m P ops Q []) := h
theorem At.yvI [FW F] (hy : Yl P L H w0 bs ⟨some t,op,ty,pos,aft,none⟩ v) (ht : Nat.blt t n = true) (h : At dfs n ((t,v) :: L) H w0 bs (wpListIn F m P ops Q rest)) (hd : ∀ c,op ≠ .defer c := by intro c e;cases e) : At dfs n L H w0 bs (wpListIn F m P ops Q (⟨some t,op,ty,pos,aft,none⟩ :: rest)) := consI hd (yl hy ht h)
theorem At.mI [FW F] (hx : ev L x = some v) (ht : Nat.blt t n = true) (h : At dfs n ((t,v) :: L) H w0 bs (wpListIn F m P ops Q rest)) : At dfs n L H w0 bs (wpListIn F m P ops Q (⟨some t,.move x,ty,pos,aft,none⟩ :: rest)) := .yvI (.move hx) ht h
theorem At.alI [FW F] {l : List Value} (hz : zeroN P T = some l) (ht : Nat.blt t n = true) (h : ∀ b,At dfs n ((t,.pointer (some ⟨b,0,none⟩)) :: L) H w0 (.box b l T :: bs) (wpListIn F m P ops Q rest)) : At dfs n L H w0 bs (wpListIn F m P ops Q (⟨some t,.alloc T,ty,pos,aft,none⟩ :: rest)) := consI (by intro c e;cases e) (alloc hz ht h)
theorem At.sWI [FW F] {b : Nat} {l vs : List Value} {t' : TypeId} {bs' : List Res} (hm : Upd bs (.box b l t') (.box b vs t') bs') (hp : ev L x = some (.pointer (some ⟨b,0,none⟩))) (hv : ev L y = some (.agg vs.toArray)) (hT : sizeN P T = some vs.length) (h1 : ∀ u ∈ vs,u.oneCell' = true) (ho : l.length = vs.length) (h : At dfs n L H w0 bs' (wpListIn F m P ops Q rest)) :
 At dfs n L H w0 bs (wpListIn F m P ops Q (⟨none,.store T x y,ty,pos,aft,none⟩ :: rest)) := consI (by intro c e;cases e) (storeW hp hv hT h1 hm ho h)
end
/-! ### The caller's side of a range over a function -/
section
variable {H : Hp} {w0 W W' : World} {bs : List Res}
theorem St.beside {row : Option Nat} (s : St H w0 bs W) (g : W.grownBy W' row) (hr : ∀ r,row = some r → w0.heap.size ≤ r ∧ H r = none ∧ ∀ x ∈ bs,x.blk ≠ some r) : St H w0 bs W' := by
 have hb : ∀ k,k < W.heap.size → (∀ r,row = some r → k ≠ r) → W'.heap[k]? = W.heap[k]? := fun k hk hn => g.block k hk (fun e => hn k e.symm rfl);refine ⟨?_,⟨?_,Nat.le_trans s.agr.lo g.size⟩,?_,s.apart,s.lo⟩
 ·have e := s.ext;unfold Ext at e ⊢;refine ⟨g.os.trans e.os,g.tape.trans e.tape,g.output.trans e.output,Nat.le_trans e.size g.size,fun k hk => ?_⟩;exact (hb k (Nat.lt_of_lt_of_le hk e.size) (fun r e' h => by have := (hr r e').1;omega)).trans (e.block k hk)
 ·intro b o e;have := s.agr b o e;rw [hb b (block_lt this) (fun r e' h => by subst h;rw [(hr b e').2.1] at e;cases e)];exact this
 ·intro x hx;exact ⟨(s.own x hx).1.keep g.size (fun b e => hb b ((s.own x hx).1.lt e).2 (fun r e' h => by subst h;exact (hr b e').2.2 x hx e)),(s.own x hx).2⟩
def nobj : List Res → Bool
 | [] => true
 | .box .. :: r => nobj r
 | .row .. :: r => nobj r
 | _ :: _ => false
theorem nobj_cells : ∀ {bs : List Res},nobj bs = true → ∀ x ∈ bs,∀ base,x.ok base W → ∀ b,x.blk = some b → ∃ o,W.heap[b]? = some o ∧ o.isCells = true
 | [],_,x,hx,_,_,_,_ => by cases hx
 | .box c l t :: r,h,x,hx,base,ho,b,e => by
  rcases List.mem_cons.1 hx with rfl | hx
  ·obtain rfl : c = b := Option.some.inj e;exact ⟨_,ho.2,rfl⟩
  ·exact nobj_cells (bs := r) h x hx base ho b e
 | .row et size v n xs :: r,h,x,hx,base,ho,b,e => by
  rcases List.mem_cons.1 hx with rfl | hx
  ·obtain ⟨_,⟨rfl,_⟩ | ⟨g,cap,cur,rfl,hg,hc,_⟩⟩ := ho
   ·cases e
   ·obtain rfl : g = b := Option.some.inj e;exact ⟨_,hc,rfl⟩
  ·exact nobj_cells (bs := r) h x hx base ho b e
 | .obj .. :: _,h,_,_,_,_,_,_ => by cases h
 | .big .. :: _,h,_,_,_,_,_,_ => by cases h
theorem nobj_ne (s : St H w0 bs W) (h : nobj bs = true) {r : Nat} {o : Obj} (ho : W.heap[r]? = some o) (hc : o.isCells = false) : ∀ x ∈ bs,x.blk ≠ some r := by
 intro x hx e;obtain ⟨o',h1,h2⟩ := nobj_cells h x hx _ (s.own x hx).1 r e;rw [ho] at h1;cases h1;rw [hc] at h2;cases h2
theorem ownSt {α Z : Type} {B : Nat} {C : List α → Z → Prop} {rs : Z → List Res} (hB : w0.heap.size ≤ B) (hH : ∀ r,B ≤ r → H r = none) (hn : ∀ pre z,C pre z → nobj (rs z) = true) :
 OwnFrom B (fun pre W => ∃ z,C pre z ∧ St H w0 (rs z) W) := by
 rintro pre X Y row ⟨z,hz,s⟩ hg hr
 exact ⟨z,hz,s.beside hg fun r e => by
  obtain ⟨h1,o,h2,h3⟩ := hr r e;exact ⟨Nat.le_trans hB h1,hH r h1,nobj_ne s (hn _ _ hz) h2 h3⟩⟩
theorem St.less {H' : Hp} (s : St H' w0 bs W) (u : Up H H') : St H w0 bs W := ⟨s.ext,⟨fun b o e => s.agr b o (u b o e),u.lo ▸ s.agr.lo⟩,fun x hx => ⟨(s.own x hx).1,fun b e => by
 cases h : H b with
 | none => rfl
 | some o => have := (s.own x hx).2 b e;rw [u b o h] at this;cases this⟩,s.apart,u.lo ▸ s.lo⟩
theorem St.front {tl : List Res} (s : St H w0 (bs ++ tl) W) : St H w0 bs W := ⟨s.ext,s.agr,fun x hx => s.own x (List.mem_append_left _ hx),(List.pairwise_append.1 s.apart).1,s.lo⟩
def tailOf (B : Nat) (W : World) : List Res := .big W.heap.size :: (List.range' B (W.heap.size - B)).filterMap fun k => match W.heap[k]? with
 | some o => if o.isCells then none else some (.obj k o)
 | none => none
theorem mem_tailOf {B : Nat} {x : Res} (h : x ∈ tailOf B W) : x = .big W.heap.size ∨ ∃ k o,x = .obj k o ∧ W.heap[k]? = some o ∧ o.isCells = false ∧ B ≤ k := by
 rcases List.mem_cons.1 h with rfl | h
 ·exact .inl Z
 ·obtain ⟨k,hk,he⟩ := List.mem_filterMap.1 h;cases ho : W.heap[k]? with
  | none => rw [ho] at he;cases he
  | some o =>
   rw [ho] at he;cases hc : o.isCells with
   | true => simp [hc] at he
   | false => exact .inr ⟨k,o,by simpa [hc] using he.symm,ho,hc,by have := List.mem_range'_1.1 hk;omega⟩
theorem St.tailOf {B : Nat} (s : St H w0 bs W) (hn : nobj bs = true) (hB : w0.heap.size ≤ B) (hH : ∀ r,B ≤ r → H r = none) : St H w0 (bs ++ tailOf B W) W := by
 refine ⟨s.ext,s.agr,?_,List.pairwise_append.2 ⟨s.apart,?_,?_⟩,s.lo⟩
 ·intro x hx;rcases List.mem_append.1 hx with hx | hx
  ·exact s.own x hx
  ·rcases mem_tailOf hx with rfl | ⟨k,o,rfl,ho,hc,hk⟩
   ·exact ⟨Nat.le_refl _,fun b e => by cases e⟩
   ·exact ⟨⟨Nat.le_trans hB hk,ho⟩,fun b e => by obtain rfl : k = b := Option.some.inj e;exact hH k hk⟩
 ·refine .cons (fun y _ b e => by cases e) ?_;refine List.Pairwise.filterMap _ ?_ (List.pairwise_lt_range' (s := B) (n := W.heap.size - B));intro k j hlt x hx y hy b e e'
  have key : ∀ (m : Nat) (u : Res),(match W.heap[m]? with | some o => if o.isCells then none else some (Res.obj m o) | none => none) = some u → u.blk = some m := by
   intro m u hu;cases ho : W.heap[m]? with
   | none => rw [ho] at hu;cases hu
   | some o =>
    rw [ho] at hu;cases hc : o.isCells with
    | true => simp [hc] at hu
    | false =>
     simp [hc] at hu;rw [← hu];rfl
  have h1 := key k x hx;have h2 := key j y hy;rw [h1] at e;rw [h2] at e';cases e;cases e';omega
 ·intro x hx y hy b e e';rcases mem_tailOf hy with rfl | ⟨k,o,rfl,ho,hc,hk⟩
  ·cases e'
  ·obtain rfl : k = b := Option.some.inj e';exact nobj_ne s hn ho hc x hx e
theorem St.keepsFrom {B : Nat} (s : St H w0 (bs ++ Sx.tailOf B W) W') : KeepsFrom B W W' := by
 refine ⟨?_,fun k o hk ho hc => ?_⟩
 ·exact (s.own _ (List.mem_append_right _ (List.mem_cons_self ..))).1
 ·have hm : Res.obj k o ∈ Sx.tailOf B W := by
   refine List.mem_cons_of_mem _ (List.mem_filterMap.2 ⟨k,List.mem_range'_1.2 ?_,?_⟩)
   ·have := block_lt ho;omega
   ·rw [ho];simp [hc]
  exact ((s.own _ (List.mem_append_right _ hm)).1).2
def KpH (H : Hp) (W W' : World) : Prop := Agr H W → Agr H W'
def rE {α Z : Type} (C : List α → Z → Prop) (rs : Z → List Res) (H : Hp) (w0 : World) (tl : List Res) (xs : List α) : Exit → Act → World → Prop
 | .normal,_,W => ∃ z,C xs z ∧ St H w0 (rs z ++ tl) W
 | _,_,_ => False
theorem At.rE {α Z : Type} {C : List α → Z → Prop} {rs : Z → List Res} {tl : List Res} {xs : List α} {dfs : List Deferred} {n : Nat} {L : Sl} {H' : Hp} (z : Z) (u : Up H H') (hz : C xs z) (hb : bs = rs z ++ tl) :
 At dfs n L H' w0 bs (Sx.rE C rs H w0 tl xs .normal) := fun a W f s => ⟨z,hz,by rw [← hb];exact s.less u⟩
end
/-! ### A function with a range over a function in it -/
section
variable {P : Program} {n : Nat} {L : Sl} {H : Hp} {w0 : World} {bs bs' : List Res} {fn : Func} {R : Ending → World → Prop} {v : Value} {D : Nat}
theorem enterM {f : FuncId} {c : Code} {args : List Value} {w : World} (hf : P.funcs[f]? = some fn) (hb : fn.body = some c) (hn : fn.ntmps = n) (hl : Nat.ble args.length n = true) (hA : Agr H w)
 (h : At [] n (slots 0 args) H w [] (c.wp P (bodyPostM Fence.wide 9 P fn R))) : Calls P f args.toArray w R := by
 refine callsIn_wide.1 (callsIn_of_wp_marks (n := 9) hf hb trivial (wpIn_wide.2 (h _ _ ⟨?_,rfl,?_⟩ (.start hA))))
 ·have : args.length ≤ n := Nat.le_of_ble_eq_true hl;simp [hn];omega
 ·intro t v e;obtain ⟨_,h2⟩ := slots_at args 0 t v e;rw [Nat.sub_zero] at h2;have hlt : t < args.length := (List.getElem?_eq_some_iff.1 h2).1;rw [Array.getD_eq_getD_getElem?];rw [Array.getElem?_append_left (by simpa using hlt)];simp [h2]
theorem St.shut {W : World} (s : St H w0 bs W) (u : Upd bs (.obj D (.deferred (some []))) (.obj D (.deferred none)) bs') : St H w0 bs' (W.putObj D (.deferred none)) := by
 obtain ⟨h1,h2⟩ := (s.own _ u.mem).1;have hlt := block_lt h2;have e := s.ext;refine s.upd u ?_ (by simp [World.putObj]) ?_ ⟨h1,World.putObj_heap_same hlt⟩ (fun b e => .inl e)
 ·unfold Ext at e ⊢;exact e.grown (grownBy_putObj' W D _) (by omega) (fun k e => by cases e;exact h1)
 ·intro b _ hne;exact World.putObj_heap_other (fun h => hne (by rw [h];rfl))
theorem retM {e : Exit} (he : e = .ret ∨ e = .normal) (u : Upd bs (.obj D (.deferred (some []))) (.obj D (.deferred none)) bs') (h : At [] n L H w0 bs' (bodyPost P fn R .ret)) :
 At [{ target := .collected D,args := #[] }] n L H w0 bs (bodyPostM Fence.wide 9 P fn R e) := by
 intro a W f s;obtain ⟨_,v,h2,h3⟩ := h { a with defers := [] } _ ⟨f.size,rfl,f.slot⟩ (s.shut u)
 have h4 : LeavesInM Fence.wide 9 P fn a.tmps R a.defers .returning W := by
  rw [f.defers];exact ⟨(by intro e;cases e),.inl ⟨D,_,rfl,run_takeDeferred (s.own _ u.mem).1.2,v,h2,h3⟩⟩
 rcases he with rfl | rfl <;> exact h4
end
/-! ### The iterator's side -/
section
variable {dfs : List Deferred} {P : Program} {n m l : Nat} {L : Sl} {H : Hp} {w0 : World} {bs : List Res} {Q : Exit → Act → World → Prop} {ops : Array Oper} {rest : List Oper} {F : Fence}
variable {d : Option Tmp} {ty : TypeId} {pos : String} {aft : Array Edge} {g : Option (Nat × Bool)} {t : Tmp} {x : Operand} {xs : List Operand} {vs : List Value} {ats : Array TypeId}
theorem Ext.grownBy {W W' : World} (e : Ext W W') : W.grownBy W' none := by
 unfold Ext at e;exact ⟨e.os,e.tape,e.output,e.size,fun k hk _ => e.block k hk⟩
theorem AbidesFrom.ext {β : Type} {B : Nat} {J : β → World → Prop} (h : AbidesFrom B J) {s : β} {W W' : World} (hs : J s W) (e : Ext W W') : J s W' := h s W W' none hs (Ext.grownBy e) (fun r h => by cases h)
theorem exec_yield {a : Act} {W W' : World} {r : Next} (f0 : ∀ x u,ev L x = some u → a.eval x = u) (hx : ev L x = some (.func (.yield l) #[] #[])) (hv : evs L xs = some vs) (hr : (Instr.yield l vs.toArray).run P W = .ok r W') :
 (execOp a.eval ⟨d,.call ⟨.value x,xs.toArray,ats⟩,ty,pos,aft,g⟩).run P W = .ok r W' := by
 unfold execOp;simp [resolve,Deferred.ofValue,f0 _ _ hx,invoke,evs_map f0 hv,hr]
def noH : Hp := ⟨fun _ => none,0⟩
theorem At.yd [hF : FW F] {J Jx : World → Prop} (hx : ev L x = some (.func (.yield l) #[] #[])) (hv : evs L xs = some vs) (ht : Nat.blt t n = true)
 (hy : ∀ W,St H w0 bs W → YieldAt F (m - 1) P l vs.toArray W fun e W' => (e = .returned (.bool true) ∧ J W' ∧ KpH H W W') ∨ (e = .returned (.bool false) ∧ Jx W'))
 (h1 : ∀ w1,J w1 → At dfs n ((t,.bool true) :: L) H w1 [] (wpListIn F m P ops Q rest))
 (h2 : ∀ w1,Jx w1 → At dfs n ((t,.bool false) :: L) noH w1 [] (wpListIn F m P ops Q rest)) :
 At dfs n L H w0 bs (wpListIn F m P ops Q (⟨some t,.call ⟨.value x,xs.toArray,ats⟩,ty,pos,aft,none⟩ :: rest)) := by
 intro a W f s;unfold wpListIn;rw [if_pos (by simp [Region.wanted])];unfold Oper.wpIn;refine ⟨fun f _ => hF.fn f,?_⟩;rw [Oper.semAt_plain F _ _ (by intro c e;cases e)];obtain ⟨fn,tmps,assign,body,hr,hR⟩ := hy W s;rw [exec_yield (fun x u e => f.ev e) hx hv hr];refine ⟨fun e => (by rw [hF.depth] at e;cases e),hR.mono ?_⟩;rintro e W' (⟨rfl,hj,hk⟩ | ⟨rfl,hj⟩)
 ·exact h1 W' hj _ _ (f.put ht _) (.start (hk s.agr))
 ·exact h2 W' hj _ _ (f.put ht _) (.start ⟨fun b o e => (by cases e),Nat.zero_le _⟩)
theorem At.lj {c : Code} {X : Type} (L' : X → Sl) (J : X → World → Prop) (C : X → Prop) (μ : X → Nat) (x0 : X) (hC : C x0) (hL : Sub L (L' x0)) (hJ : J x0 w0)
 (round : ∀ x w1,C x → J x w1 → At dfs n (L' x) H w1 [] (c.wp P (Exit.then (fun a W => ∃ y w2,(C y ∧ μ y < μ x) ∧ J y w2 ∧ Fr dfs n (L' y) a ∧ St H w2 [] W) Q))) :
 At dfs n L H w0 [] ((Code.loop c).wp P Q) := by
 intro a W f s;refine wp_loop_ghost (fun m a W => ∃ x w1,μ x = m ∧ C x ∧ J x w1 ∧ Fr dfs n (L' x) a ∧ St H w1 [] W) _ ⟨x0,w0,rfl,hC,hJ,f.sub hL,s⟩ ?_;rintro m a W ⟨x,w1,rfl,hx,hj,f,s⟩;refine wp_mono (round x w1 hx hj a W f s) fun e a' W' q => ?_;cases e <;> first | exact q | skip
 obtain ⟨y,w2,⟨hy,hlt⟩,hj,fy,sy⟩ := q;exact ⟨_,hlt,y,w2,rfl,hy,hj,fy,sy⟩
theorem At.aj {X : Type} {J : X → World → Prop} {L' : X → Sl} {C : X → Prop} {μ : X → Nat} {x : X} (y : X) (hC : C y) (hm : μ y < μ x) (hJ : J y w0) (hL : Sub L (L' y)) :
 At dfs n L H w0 [] (fun a W => ∃ y w2,(C y ∧ μ y < μ x) ∧ J y w2 ∧ Fr dfs n (L' y) a ∧ St H w2 [] W) := fun _ W f s => ⟨y,w0,⟨hC,hm⟩,hJ,f.sub hL,s⟩
theorem seqStops {α : Type} {gf : Nat} {lb : List Value} {enc : α → Value} {S : List α → Prop} {N : Nat} {w : World} {fn : Func} {c : Code} (hf : P.funcs[gf]? = some fn) (hb : fn.body = some c) (hn : fn.ntmps = n) (hl : Nat.ble (lb.length + 1) n = true)
 (hA : ∀ W,Ext w W → Agr H W)
 (h : ∀ l (J Jx : List α → World → Prop) W,(∀ s A B,J s A → Ext A B → J s B) → (∀ s A B,Jx s A → Ext A B → Jx s B) →
  (∀ pre x W1,J pre W1 → pre.length < N → YieldAt Fence.wide 7 P l #[enc x] W1 fun e W' => (e = .returned (.bool true) ∧ J (pre ++ [x]) W' ∧ KpH H W1 W') ∨ (e = .returned (.bool false) ∧ Jx (pre ++ [x]) W')) →
  J [] W → At [] n (slots 0 (.func (.yield l) #[] #[] :: lb)) H W [] (c.wp P (bodyPost P fn fun e W' => (∃ v,e = .returned v) ∧ ((∃ xs,S xs ∧ J xs W') ∨ (∃ pre,True ∧ Jx pre W'))))) :
 SeqStopsK Fence.wide 8 P gf lb.toArray (fun x => #[enc x]) (KpH H) S (fun _ => True) N w := by
 intro l J Jx W hW hJ hJx hY h0;refine callsIn_wide.2 ?_;have : (#[Value.func (.yield l) #[] #[]] ++ lb.toArray : Array Value) = (Value.func (.yield l) #[] #[] :: lb).toArray := by simp
 rw [this];exact enter hf hb hn hl (hA W (by unfold Ext;exact hW)) (h l J Jx W (fun s A B h e => Sx.AbidesFrom.ext hJ h e) (fun s A B h e => Sx.AbidesFrom.ext hJx h e) hY h0)
end
theorem Res.ok.base {b c : Nat} {W : World} {x : Res} (h : x.ok c W) (hb : b ≤ c) : x.ok b W := by
 cases x with
 | box d l t => exact ⟨Nat.le_trans hb h.1,h.2⟩
 | obj d o => exact ⟨Nat.le_trans hb h.1,h.2⟩
 | big d => exact h
 | ps et v xs =>
  obtain ⟨rfl,h0⟩ | ⟨g,cap,cur,rfl,hg,hc,hr⟩ := h
  ·exact .inl ⟨rfl,h0⟩
  ·exact .inr ⟨g,cap,cur,rfl,Nat.le_trans hb hg,hc,hr⟩
 | row et size v n xs =>
  obtain ⟨hl,⟨rfl,h0⟩ | ⟨g,cap,cur,rfl,hg,hc,hr⟩⟩ := h
  ·exact ⟨hl,.inl ⟨rfl,h0⟩⟩
  ·exact ⟨hl,.inr ⟨g,cap,cur,rfl,Nat.le_trans hb hg,hc,hr⟩⟩
theorem St.join {H H' : Hp} {w0 W W' : World} {bs bs' : List Res} (s : St H w0 bs W) (u : HUp W H H') (k : St H' W bs' W') : St H' w0 (bs' ++ bs) W' := by
 refine ⟨s.ext.trans k.ext,k.agr,fun x hx => ?_,List.pairwise_append.2 ⟨k.apart,s.apart,fun x hx y hy b e e' => ?_⟩,u.up.lo ▸ s.lo⟩
 ·rcases List.mem_append.1 hx with hx | hx
  ·exact ⟨(k.own x hx).1.base s.ext.size,(k.own x hx).2⟩
  ·exact ⟨(s.own x hx).1.ext k.ext,fun b e => u.new b ((s.own x hx).2 b e) ((s.own x hx).1.lt e).2⟩
 ·have h1 := ((k.own x hx).1.lt e).1;have h2 := ((s.own y hy).1.lt e').2;omega
section
variable {dfs : List Deferred} {P : Program} {L : Sl} {H : Hp} {w0 : World} {bs : List Res} {ops : Array Oper}
variable {ty : TypeId} {pos : String} {aft : Array Edge} {t : Tmp} {x : Operand}
variable {N hn i k : Nat} {pa : List (Nat × Oper × Value)} {E : Sl → Hp → List Res → Prop} {r : List (Nat × Nat × Oper)}
end
def Qn (Q : Exit → Act → World → Prop) : Exit → Act → World → Prop
 | .normal => Q .normal
 | _ => fun _ _ => False
def noDef (l : List Oper) : Bool := l.all fun o => match o.op with | .defer _ => false | _ => true
section
variable {dfs : List Deferred} {P : Program} {n m : Nat} {L : Sl} {H : Hp} {w0 : World} {bs : List Res} {Q : Exit → Act → World → Prop} {ops : Array Oper} {F : Fence}
theorem wpIn_of_wpQ [hF : FW F] {o : Oper} {a : Act} {w : World} {K : Act → World → Prop} (hd : ∀ c,o.op ≠ .defer c) (h : o.wp P a w K (Qn Q)) : o.wpIn F m P a w K Q := by
 unfold Oper.wpIn;refine ⟨fun f _ => hF.fn f,?_⟩;rw [Oper.semAt_plain F _ _ hd];unfold Oper.wp at h;generalize (execOp a.eval o).run P w = r at *;cases r with
 | ok z w' =>
  cases z <;> simp only [Oper.upon] at h <;> simp only [Oper.uponIn]
  case value u => exact h
  case skip => exact h
  case defer d => exact h
  case enter f args =>
   refine ⟨fun e => (by rw [hF.depth] at e;cases e),hF.calls (h.mono ?_)⟩;intro e w'' q;cases e with
   | returned v => exact q
   | panicked c => exact q.elim
   | outgrown => obtain ⟨_,_,q⟩ := q;exact q.elim
  case row rw args => exact ⟨fun e => (by rw [hF.depth] at e;cases e),hF.rows h⟩
 | halt z w' =>
  cases z <;> simp only [Oper.upon] at h <;> exact h.elim
theorem anyIn [hF : FW F] (hd : ∀ (i : Nat) o,ops[i]? = some o → ∀ c,o.op ≠ .defer c) : ∀ (fuel : Nat) (listed : Array Bool) (a : Act) (w : World),wpAny P .any ops (Qn Q) fuel listed a w → wpAnyIn F m P .any ops Q fuel listed a w
 | 0,_,_,_,h => h
 | fuel + 1,listed,a,w,h => by
  refine ⟨h.1,fun i hi => ?_⟩;have h1 := h.2 i hi;unfold wpOp at h1;unfold wpOpIn;cases ho : ops[i]? with
  | none =>
   rw [ho] at h1;exact anyIn hd fuel _ _ _ h1
  | some o =>
   rw [ho] at h1;dsimp only at h1 ⊢;cases hw : Region.wanted o (yielded ops a.tmps) with
   | true =>
    rw [hw] at h1;simp only [if_true] at h1 ⊢;rcases h1 with h1 | ⟨_,_,_,h1⟩
    ·exact Oper.wpIn_mono (fun a w k => anyIn hd fuel _ a w k) (wpIn_of_wpQ (hd i o ho) h1)
    ·exact h1.elim
   | false =>
    rw [hw] at h1;simp only [Bool.false_eq_true,if_false] at h1 ⊢;exact ⟨fun f _ => hF.fn f,anyIn hd fuel _ _ _ h1⟩
theorem noDef_at {l : List Oper} (h : noDef l = true) : ∀ (i : Nat) o,l.toArray[i]? = some o → ∀ c,o.op ≠ .defer c := by
 intro i o ho c e;have hm : o ∈ l := List.mem_of_getElem? (by simpa using ho);have := List.all_eq_true.1 h o hm;rw [e] at this;cases this
theorem At.flI [FW F] {id : Nat} {l : List Oper} {trip : List (Nat × Nat × Oper)} (nn : Nat) (ord : List (Nat × Nat)) (hm : P.follows .mixedOrders = true) (hB : flowB l.toArray nn ord = true) (hd : noDef l = true) (ht : ord.map (fun x => (x.1,x.2,l[x.1]!)) = trip)
 (h : FlowP dfs P l.toArray nn w0 n (fun L H bs => At dfs n L H w0 bs (wpList P l.toArray (Qn Q) (l.drop nn))) trip [] L H bs) : At dfs n L H w0 bs ((Code.region id l.toArray true).wpIn F m P Q) :=
 fun a W f s => wpIn_region_any hm (anyIn (noDef_at hd) _ _ _ _ (flowAny nn ord hB ht h a W f s))
theorem At.nlQ (h : At dfs n L H w0 bs (Q .normal)) : At dfs n L H w0 bs (wpList P ops (Qn Q) []) := h
theorem At.bkI {id : Nat} {c : Code} (h : At dfs n L H w0 bs (c.wpIn F m P (Exit.inBlock id Q))) : At dfs n L H w0 bs ((Code.block id c).wpIn F m P Q) := fun a W f s => wpIn_block (h a W f s)
end
structure Apx (H : Hp) (p : Nat) (fx : List Res) (TX : TypeId) (cs : List Value) (b : Nat) (W : World) : Prop where
 blk : W.heap[b]? = some (.cells cs.toArray TX (0,0))
 new : H b = none
 head : ∃ u l t m,W.heap[p]? = some (.cells (u :: l).toArray t m) ∧ u.ownBlock ≠ some b
 ne : b ≠ p
 fix : ∀ x ∈ fx,x.blk ≠ some b
theorem Apx.grow {H : Hp} {p b : Nat} {fx : List Res} {TX : TypeId} {cs : List Value} {A B : World} {row : Option Nat} (h : Apx H p fx TX cs b A) (g : A.grownBy B row) (hr : ∀ r,row = some r → ∃ o : Obj,A.heap[r]? = some o ∧ o.isCells = false) : Apx H p fx TX cs b B := by
 have key : ∀ {k : Nat} {arr : Array Value} {t : TypeId} {m : Nat × Nat},A.heap[k]? = some (Obj.cells arr t m) → B.heap[k]? = some (Obj.cells arr t m) := fun {k arr t m} hk => by
  rw [← hk];refine g.block k (block_lt hk) fun e => ?_;obtain ⟨o,h1,h2⟩ := hr k e.symm;rw [hk] at h1;cases h1;cases h2
 obtain ⟨u,l,t,m,h1,h2⟩ := h.head;exact ⟨key h.blk,h.new,⟨u,l,t,m,key h1,h2⟩,h.ne,h.fix⟩
section
variable {H : Hp} {w0 : World}
def rsB (e : TypeId) (size p : Nat) (T : TypeId) (fx : List Res) (v : Value) (k : Nat) (xs l : List Value) : List Res := .row e size v k xs :: .box p (v :: l) T :: fx
theorem Apx.of {p b size k : Nat} {e T TX : TypeId} {fx tl : List Res} {v : Value} {xs l cs : List Value} {W : World} (s : St H w0 (.box b cs TX :: (rsB e size p T fx v k xs l ++ tl)) W) : Apx H p fx TX cs b W := by
 have hb := s.own _ (List.mem_cons_self ..);have ha := (List.pairwise_cons.1 s.apart).1;refine ⟨hb.1.2,hb.2 b rfl,⟨v,l,T,_,(s.own (.box p (v :: l) T) (by simp [rsB])).1.2,fun e => ha (.row _ _ v _ _) (by simp [rsB];exact .inl ⟨rfl,rfl,rfl,rfl⟩) b rfl e⟩,fun e => ha (.box p (v :: l) T) (by simp [rsB]) b rfl (by rw [e];rfl),fun x hx e => ha x (by simp [rsB,hx]) b rfl e⟩
theorem Apx.st {p b size k : Nat} {e T TX : TypeId} {fx : List Res} {v : Value} {xs l cs : List Value} {W : World} (h : Apx H p fx TX cs b W) (s : St H w0 (rsB e size p T fx v k xs l) W) : St (putH H b (.cells cs.toArray TX (0,0))) w0 (rsB e size p T fx v k xs l) W := by
 refine ⟨s.ext,⟨fun c o hc => ?_,s.agr.lo⟩,fun x hx => ⟨(s.own x hx).1,fun c hc => ?_⟩,s.apart,s.lo⟩
 ·by_cases e : c = b
  ·subst e;rw [putH_at] at hc;rw [← hc];exact h.blk
  ·rw [putH_ne e] at hc;exact s.agr c o hc
 ·rw [putH_ne,(s.own x hx).2 c hc];intro e;subst e;unfold rsB at hx;rcases List.mem_cons.1 hx with rfl | hx
  ·obtain ⟨u,l2,t,m,h1,h2⟩ := h.head;have h3 := (s.own (.box p (v :: l) T) (by simp [rsB])).1.2;rw [h1] at h3;have h4 : (u :: l2).toArray = (v :: l).toArray := by injection h3 with h3;injection h3
   have h5 := congrArg Array.toList h4;simp only [List.cons.injEq] at h5;rw [h5.1] at h2;exact h2 hc
  ·rcases List.mem_cons.1 hx with rfl | hx
   ·exact h.ne (Option.some.inj hc).symm
   ·exact h.fix x hx hc
theorem up_put {b : Nat} {o : Obj} (h : H b = none) : Up H (putH H b o) := by
 refine ⟨fun c x hc => ?_,rfl⟩;rw [putH_ne]
 ·exact hc
 ·intro e;subst e;rw [h] at hc;cases hc
theorem At.rfB {α Z : Type} {bs : List Res} {dfs : List Deferred} {P : Program} {n : Nat} {L : Sl} {Q : Exit → Act → World → Prop} {g : Operand} {pt : Tmp} {assign body : Code} {gf : Nat} {lb : Array Value} {enc : α → Value} {S : List α → Prop} {N : Nat} {e T TX : TypeId} {size p : Nat} {fx : List Res}
 (C : List α → Z → Prop) (v : Z → Value) (k : Z → Nat) (xs l : Z → List Value) (z0 : Z) (L2 : α → Nat → Sl) (cx : α → List Value)
 (hg : ev L g = some (.func (.func gf) #[] lb)) (eg : ∀ args w,(callFunc gf args).run P w = .ok (.enter gf args) w) (ht : Nat.blt pt n = true)
 (hseq : ∀ w,Agr H w → SeqStopsK Fence.wide 8 P gf lb (fun x => #[enc x]) (KpH H) S (fun _ => True) N w)
 (h0 : C [] z0) (hb : bs = rsB e size p T fx (v z0) (k z0) (xs z0) (l z0)) (hn : nobj fx = true)
 (hass : ∀ l x bs' K,(∀ b,At [] n (L2 x b) H w0 (.box b (cx x) TX :: bs') K) → At [] n ((pt,enc x) :: L) H w0 bs' (assign.wpIn (Fence.wide.inRound l) 7 P (Exit.then K (fun _ _ _ => False))))
 (hbody : ∀ l' pre x z tl b H2,C pre z → pre.length < N → Up H H2 → MemAt H2 b 0 (cx x) → At [] n (L2 x b) H2 w0 (rsB e size p T fx (v z) (k z) (xs z) (l z) ++ tl) (body.wpIn (Fence.wide.inRound l') 7 P (Sx.rE C (fun z => rsB e size p T fx (v z) (k z) (xs z) (l z)) H w0 tl (pre ++ [x]))))
 (hdone : ∀ D ys z,S ys → C ys z → At ({ target := .collected D,args := #[] } :: dfs) n L H w0 (.obj D (.deferred (some [])) :: rsB e size p T fx (v z) (k z) (xs z) (l z)) (Q .normal)) :
 At dfs n L H w0 bs ((Code.rangeFunc g #[pt] assign body).wp P Q) := by
 intro a W f s;subst hb;have hnz : ∀ z,nobj (rsB e size p T fx (v z) (k z) (xs z) (l z)) = true := fun z => hn;have hB : w0.heap.size ≤ W.heap.size := s.ext.size;have hH : ∀ r,W.heap.size ≤ r → H r = none := fun r hr => s.agr.lt hr
 refine (wpIn_wide (n := 9)).1 (wpIn_rangeFunc_ownH (n := 9) (ps := #[pt]) (α := α) (N := N) (S := S) (Sp := fun _ => True) (encs := fun x => #[enc x]) (Kp := KpH H) (w0 := W) rfl (by decide) (f.ev hg) trivial eg (hseq W s.agr) (fun h k q => k (h q)) ?_ (Below.refl _ _) (fun _ => rfl)
  (fun pre W => ∃ z,C pre z ∧ St H w0 (rsB e size p T fx (v z) (k z) (xs z) (l z)) W) (fun _ _ _ => False) (ownSt hB hH fun _ z _ => hnz z) (fun _ _ _ _ _ h _ _ => h.elim) ⟨z0,h0,s⟩ (fun x a' W => ∃ b,Fr [] n (L2 x b) a' ∧ Apx H p fx TX (cx x) b W)
  (fun x a' _ A B row h hg hr => by obtain ⟨b,h1,h2⟩ := h;exact ⟨b,h1,h2.grow hg fun r e => (hr r e).2⟩) ?_ ?_ ?_ (fun _ _ _ _ _ _ h => h.elim))
 ·intro W1 l o o' hl ho _ _ q;refine ⟨fun b ob e => ?_,by have := q.lo;simpa [World.putObj] using this⟩;have hne : b ≠ l := fun h => by subst h;rw [hH b hl] at e;cases e
  exact (World.putObj_heap_other hne).trans (q b ob e)
 ·rintro l' pre x W1 K ⟨z,hz,s1⟩ hK
  have f1 : Fr [] n ((pt,enc x) :: L) { tmps := (#[pt].zip #[enc x]).foldl (fun t (p,v) => t.setIfInBounds p v) a.tmps,defers := [] } := by
   have f2 : Fr [] n L { a with defers := [] } := ⟨f.size,rfl,f.slot⟩;have e : (#[pt].zip #[enc x]).foldl (fun t (x : Tmp × Value) => match x with | (p,v) => t.setIfInBounds p v) a.tmps = a.tmps.setIfInBounds pt (enc x) := by simp
   rw [e];exact f2.put ht (enc x)
  refine hass l' x _ K ?_ _ W1 f1 (s1.tailOf (hnz z) hB hH);intro b a' W2 f' s2;have s3 := s2.drop;exact hK a' W2 s3.keepsFrom (fun _ => s3.agr) ⟨z,hz,s3.front⟩ ⟨b,f',Apx.of s2⟩
 ·rintro l' pre x a' W1 hl _ ⟨z,hz,s1⟩ ⟨b,f',hx⟩ hlen;have s2 := hx.st s1;have hH2 : ∀ r,W1.heap.size ≤ r → putH H b (Obj.cells (cx x).toArray TX (0,0)) r = none := fun r hr => s2.agr.lt hr;have ht := s1.tailOf (B := W.heap.size) (hnz z) hB hH
  have s4 : St (putH H b (.cells (cx x).toArray TX (0,0))) w0 (rsB e size p T fx (v z) (k z) (xs z) (l z) ++ Sx.tailOf W.heap.size W1) W1 := by
   refine ⟨ht.ext,s2.agr,fun y hy => ?_,ht.apart,ht.lo⟩;rcases List.mem_append.1 hy with h | h
   ·exact s2.own y h
   ·refine ⟨(ht.own y hy).1,fun c hc => ?_⟩;rw [putH_ne,(ht.own y hy).2 c hc];rintro rfl;rcases mem_tailOf h with rfl | ⟨d,o,rfl,ho,hc2,_⟩
    ·cases hc
    ·obtain rfl : d = c := Option.some.inj hc;rw [hx.blk] at ho;cases ho;cases hc2
  refine wpIn_mono (hbody l' pre x z _ b _ hz hlen (up_put hx.new) ⟨_,_,_,if_pos rfl,fun j u e => by simpa using e⟩ a' W1 f' s4) ?_;intro e a2 W2 h;cases e with
  | normal =>
   obtain ⟨z',hz',s2⟩ := h;exact ⟨s2.keepsFrom,fun _ => s2.agr,z',hz',s2.front⟩
  | _ => exact h.elim
 ·rintro D ys W1 hD hS ⟨z,hz,s1⟩ hd;refine hdone D ys z hS hz _ W1 ⟨f.size,by show _ :: _ = _;rw [f.defers],f.slot⟩ ⟨s1.ext,s1.agr,?_,.cons ?_ s1.apart,s1.lo⟩
  ·intro x hx;rcases List.mem_cons.1 hx with rfl | hx
   ·exact ⟨⟨Nat.le_trans hB hD,hd⟩,fun b e => by obtain rfl : D = b := Option.some.inj e;exact hH D hD⟩
   ·exact s1.own x hx
  ·intro y hy b e e';obtain rfl : D = b := Option.some.inj e;exact nobj_ne s1 (hnz z) hd rfl y hy e'
end
theorem St.put1 {H : Hp} {w0 W : World} {bs bs' : List Res} {x y : Res} (h : St H w0 bs W) (u : Upd bs x y bs') (hy : y.ok w0.heap.size W) (hb : ∀ b,y.blk = some b → x.blk = some b) : St H w0 bs' W :=
 h.upd u h.ext (Nat.le_refl _) (fun _ _ _ => rfl) hy (fun b e => .inl (hb b e))
/-! ### A drawn region without an operation that waits for all others: each order of the heavy ones -/
structure FitE (ops : Array Oper) (n : Nat) : Prop where
 all : n = ops.size
 sel : ∀ (j : Nat) (o : Oper) (cs : Array SelectCase) (b : Bool),ops[j]? = some o → o.op ≠ .select cs b
 back : ∀ i o,ops[i]? = some o → ∀ e ∈ o.after,Region.binds .any e = true → e.on < i
 apart : ∀ j k,j < n → k < n → j ≠ k → ∀ d,dstOf ops j = some d → dstOf ops k ≠ some d
 look : ∀ i o,i < n → ops[i]? = some o → ∀ t ∈ o.looksAt ops,∀ j,j < n → dstOf ops j = some t → Region.waitsFor .any ops i j = true
def parE (ops : Array Oper) (n : Nat) : Bool :=
 Region.noSelect ops && decide (n = ops.size) &&
 (List.range ops.size).all (fun i => ((ops[i]?).map fun o => o.after.all fun e => !Region.binds .any e || decide (e.on < i)).getD true) &&
 (List.range n).all (fun i => (List.range n).all fun j => decide (i = j) || (dstOf ops i).isNone || dstOf ops i != dstOf ops j) &&
 (List.range n).all (fun i => ((ops[i]?).map fun o => (o.looksAt ops).all fun t => (List.range n).all fun j => dstOf ops j != some t || Region.waitsFor .any ops i j).getD true)
theorem FitE.of {ops : Array Oper} {n : Nat} (h : parE ops n = true) : FitE ops n := by
 simp only [parE,Bool.and_eq_true,decide_eq_true_eq] at h;obtain ⟨⟨⟨⟨h1,h2⟩,h5⟩,h6⟩,h7⟩ := h;refine ⟨h2,Region.noSelect_spec h1,?_,?_,?_⟩
 ·intro i o ho e he hb;have hi : i < ops.size := (Array.getElem?_eq_some_iff.1 ho).1;have := List.all_eq_true.1 h5 i (List.mem_range.2 hi);simp only [ho,Option.map_some,Option.getD_some,Array.all_eq_true_iff_forall_mem] at this;have := this e he;simpa [hb] using this
 ·intro j k hj hk hne d hd;have := List.all_eq_true.1 (List.all_eq_true.1 h6 j (List.mem_range.2 hj)) k (List.mem_range.2 hk);simp only [hd,hne,decide_false,Bool.false_or,Option.isNone_some,bne_iff_ne] at this;exact fun e => this e.symm
 ·intro i o hi ho t ht j hj hd;have := List.all_eq_true.1 h7 i (List.mem_range.2 hi);simp only [ho,Option.map_some,Option.getD_some] at this;have := List.all_eq_true.1 (List.all_eq_true.1 this t ht) j (List.mem_range.2 hj);simpa [hd] using this
section
variable {dfs : List Deferred} {P : Program} {ops : Array Oper} {w0 : World} {n N : Nat}
variable {l : List Oper} {a0 : Act} {E : Sl → Hp → List Res → Prop} {Q : Exit → Act → World → Prop} {listed : Array Bool} {a : Act} {W : World} {val : Nat → Value} {dec : Nat → Bool} {D A : List Nat} {L : Sl} {H : Hp} {bs : List Res} {pa : List (Nat × Oper × Value)}
theorem eval_sameE (F : FitE ops n) {a0 : Act} {v1 v2 : Nat → Value} {S1 S2 : Nat → Bool} {i : Nat} {o : Oper} (hi : i < n) (ho : ops[i]? = some o)
 (h : ∀ j,j < n → Region.waitsFor .any ops i j = true → S1 j = true ∧ S2 j = true ∧ v1 j = v2 j) (t : Tmp) (ht : t ∈ o.looksAt ops) :
 (frm ops v1 S1 n a0).eval (.tmp t) = (frm ops v2 S2 n a0).eval (.tmp t) := by
 by_cases hw : ∃ j,j < n ∧ dstOf ops j = some t
 ·obtain ⟨j,hj,hd⟩ := hw;obtain ⟨h1,h2,h3⟩ := h j hj (F.look i o hi ho t ht j hj hd);rw [frm_in _ S1 a0 t j h1 hd n hj (fun k hk hne e => F.apart k j hk hj hne t e hd),frm_in _ S2 a0 t j h2 hd n hj (fun k hk hne e => F.apart k j hk hj hne t e hd),h3]
 ·rw [frm_out _ S1 a0 t n (fun k hk _ hd => hw ⟨k,hk,hd⟩),frm_out _ S2 a0 t n (fun k hk _ hd => hw ⟨k,hk,hd⟩)]
theorem frm_putE (F : FitE ops n) {i : Nat} {o : Oper} {v : Value} (hi : i < n) (ho : ops[i]? = some o) (hd : dec i = false) :
 frm ops (upd val i v) (upd dec i true) n a0 = (frm ops val dec n a0).put o.dst v := by
 have e1 : dstOf ops i = o.dst := by simp [dstOf,ho]
 rw [frm_more (upd val i v) dec (upd dec i true) a0 i (upd_same _ _ _) hd (fun k hk => upd_ne _ _ hk) n hi F.apart,upd_same,e1]
 congr 1
 refine frm_congr _ _ _ _ a0 n fun k _ => ⟨rfl,fun hk => upd_ne _ _ fun e => ?_⟩;subst e;rw [hd] at hk;cases hk
theorem GT.decideE (F : FitE ops n) {i : Nat} {o : Oper} (I : GT dfs P ops l w0 n N a0 E listed a W val dec D L H bs pa) (hi : i < n) (ho : ops[i]? = some o) (hiD : D.contains i = false) (hwt : ((List.range n).all fun j => !Region.waitsFor .any ops i j || D.contains j) = true)
 {v : Value} (hy : ∀ a W,Fr dfs N L a → St H w0 bs W → Yq P ops o v a W) (hN : ∀ t,o.dst = some t → t < N) :
 GT dfs P ops l w0 n N a0 E listed a W (upd val i v) (upd dec i true) (i :: D) (putL o.dst v L) H bs ((i,o,v) :: pa) := by
 have hdi : dec i = false := (I.set i).trans hiD;have hdeps : ∀ j,j < n → Region.waitsFor .any ops i j = true → dec j = true := fun j hj hw => (I.set j).trans (waits_ok hwt hj hw)
 have hii : ∀ j,j < n → Region.waitsFor .any ops i j = true → j ≠ i := fun j hj hw e => by
  have := hdeps j hj hw;rw [e,hdi] at this;cases this
 have hli : st listed i = false := by
  cases h : st listed i with
  | false => rfl
  | true => have := I.sub i hi h;rw [hdi] at this;cases this
 have hput := frm_putE (a0 := a0) (val := val) (v := v) F hi ho hdi;refine ⟨I.head,?_,?_,?_,I.world,?_,?_,upd_set I.set,?_⟩
 ·rw [I.frame];refine frm_congr _ _ _ _ a0 n fun k _ => ⟨rfl,fun hk => (upd_ne _ _ fun e => ?_).symm⟩;subst e;rw [hli] at hk;cases hk
 ·rw [hput];exact I.full.putL v hN
 ·intro j hj hs
  by_cases e : j = i
  ·subst e;exact upd_same _ _ _
  ·rw [upd_ne _ _ e];exact I.sub j hj hs
 ·intro j oj hj hoj hd hs W hW
  by_cases e : j = i
  ·subst e;obtain rfl : oj = o := Option.some.inj (hoj.symm.trans ho);rw [upd_same];refine Yq.same (fun cs b => F.sel j oj cs b ho) (fun t ht => ?_) (hy _ W I.full hW);refine eval_sameE F hj ho (fun k hk hw => ?_) t ht;have hkd := hdeps k hk hw;have hki := hii k hk hw;exact ⟨by rw [upd_ne _ _ hki];exact hkd,hkd,upd_ne _ _ hki⟩
  ·rw [upd_ne _ _ e] at hd ⊢;refine Yq.same (fun cs b => F.sel j oj cs b hoj) (fun t ht => ?_) (I.light j oj hj hoj hd hs W hW);refine eval_sameE F hj hoj (fun k hk hw => ?_) t ht;have hkd := I.deps j k hj hk hd hw;have hki : k ≠ i := fun e => by subst e;rw [hdi] at hkd;cases hkd
   exact ⟨by rw [upd_ne _ _ hki];exact hkd,hkd,upd_ne _ _ hki⟩
 ·intro j oj hj hoj hd hs
  by_cases e : j = i
  ·subst e;obtain rfl : oj = o := Option.some.inj (hoj.symm.trans ho);rw [upd_same];exact .head _
  ·rw [upd_ne _ _ e] at hd ⊢;exact .tail _ (I.past j oj hj hoj hd hs)
 ·intro j k hj hk hd hw
  by_cases e : j = i
  ·subst e;rw [upd_ne _ _ (hii k hk hw)];exact hdeps k hk hw
  ·rw [upd_ne _ _ e] at hd;have := I.deps j k hj hk hd hw
   by_cases e2 : k = i
   ·subst e2;exact upd_same _ _ _
   ·rw [upd_ne _ _ e2];exact this
theorem GT.stepE (F : FitE ops n) {i : Nat} {o : Oper} {W' : World} (I : GT dfs P ops l w0 n N a0 E listed a W val dec D L H bs pa) (hi : i < n) (ho : ops[i]? = some o) (hr : i ∈ Region.ready .any ops listed) (hd : dec i = true) (hx : Ext W W') :
 GT dfs P ops l w0 n N a0 E (listed.setIfInBounds i true) (a.put o.dst (val i)) W' val dec D L H bs pa := by
 have hun : st listed i = false := (mem_ready.1 hr).1;have e1 : dstOf ops i = o.dst := by simp [dstOf,ho]
 refine ⟨I.head.set hr hi,?_,I.full,?_,I.world.more hx,?_,?_,I.set,I.deps⟩
 ·rw [I.frame,frm_more val (st listed) (st (listed.setIfInBounds i true)) a0 i st_set_same hun (fun k hk => st_set hk) n hi F.apart,e1]
 ·intro j hj hs
  by_cases e : j = i
  ·subst e;exact hd
  ·rw [st_set e] at hs;exact I.sub j hj hs
 ·intro j oj hj hoj hdj hs;have e : j ≠ i := fun e => by subst e;rw [st_set_same] at hs;cases hs
  rw [st_set e] at hs;exact I.light j oj hj hoj hdj hs
 ·intro j oj hj hoj hdj hs;have e : j ≠ i := fun e => by subst e;rw [st_set_same] at hs;cases hs
  rw [st_set e] at hs;exact I.past j oj hj hoj hdj hs
theorem GT.heavyE (F : FitE ops n) {i k : Nat} {o : Oper} {v : Value} {W' : World} {H' : Hp} {bs' : List Res} (I : GT dfs P ops l w0 n N a0 E listed a W val dec D L H bs pa) (hi : i < n) (ho : ops[i]? = some o) (hiD : D.contains i = false) (hwt : ((List.range n).all fun j => !Region.waitsFor .any ops i j || D.contains j) = true) (hk1 : (!(k == 1) || D.all fun j => reach ops n i j) = true) (hN : ∀ t,o.dst = some t → t < N) (hr : i ∈ Region.ready .any ops listed)
 (hs : St H' w0 bs' W') (hws : k = 1 ∨ (∀ W,St H' w0 bs' W → St H w0 bs W) ∨ RedoP dfs P ops n w0 N L H' bs' i pa) :
 GT dfs P ops l w0 n N a0 E (listed.setIfInBounds i true) (a.put o.dst v) W' (upd val i v) (upd dec i true) (i :: D) (putL o.dst v L) H' bs' pa := by
 have hdi : dec i = false := (I.set i).trans hiD;have hdeps : ∀ j,j < n → Region.waitsFor .any ops i j = true → dec j = true := fun j hj hw => (I.set j).trans (waits_ok hwt hj hw)
 have hii : ∀ j,j < n → Region.waitsFor .any ops i j = true → j ≠ i := fun j hj hw e => by
  have := hdeps j hj hw;rw [e,hdi] at this;cases this
 have hun : st listed i = false := (mem_ready.1 hr).1;have e1 : dstOf ops i = o.dst := by simp [dstOf,ho]
 have hput := frm_putE (a0 := a0) (val := val) (v := v) F hi ho hdi;refine ⟨I.head.set hr hi,?_,?_,?_,hs,?_,?_,upd_set I.set,?_⟩
 ·rw [I.frame,frm_more (upd val i v) (st listed) (st (listed.setIfInBounds i true)) a0 i st_set_same hun (fun k hk => st_set hk) n hi F.apart,e1,upd_same]
  congr 1
  refine frm_congr _ _ _ _ a0 n fun k _ => ⟨rfl,fun hk => (upd_ne _ _ fun e => ?_).symm⟩;subst e;rw [hun] at hk;cases hk
 ·rw [hput];exact I.full.putL v hN
 ·intro j hj hs
  by_cases e : j = i
  ·subst e;exact upd_same _ _ _
  ·rw [upd_ne _ _ e];rw [st_set e] at hs;exact I.sub j hj hs
 ·intro j oj hj hoj hd hs W hW;have e : j ≠ i := fun e => by subst e;rw [st_set_same] at hs;cases hs
  rw [st_set e] at hs;rw [upd_ne _ _ e] at hd ⊢
  have hdone : reach ops n i j = true → False := fun h1 => by
   obtain ⟨_,oi,hoi,hall⟩ := mem_ready.1 hr
   have h2 := reach_listed I.head n i j h1 (fun ok hok x hx hb => by
    obtain rfl : ok = oi := Option.some.inj (hok.symm.trans hoi);exact hall x hx hb)
   rw [getD_both hs] at h2;cases h2
  have hy : Yq P ops oj (val j) (frm ops val dec n a0) W := by
   rcases hws with hk | hw | hw
   ·subst hk;have hjD : j ∈ D := by have := (I.set j).symm.trans hd;simpa using this
    simp only [beq_self_eq_true,Bool.not_true,Bool.false_or] at hk1;exact (hdone (List.all_eq_true.1 hk1 j hjD)).elim
   ·exact I.light j oj hj hoj hd hs W (hw W hW)
   ·rcases hw.at (I.past j oj hj hoj hd hs) with h1 | h1
    ·exact (hdone h1).elim
    ·exact h1 _ W I.full hW
  refine Yq.same (fun cs b => F.sel j oj cs b hoj) (fun t ht => ?_) hy;refine eval_sameE F hj hoj (fun k hk hw => ?_) t ht;have hkd := I.deps j k hj hk hd hw;have hki : k ≠ i := fun e => by subst e;rw [hdi] at hkd;cases hkd
  exact ⟨by rw [upd_ne _ _ hki];exact hkd,hkd,upd_ne _ _ hki⟩
 ·intro j oj hj hoj hd hs;have e : j ≠ i := fun e => by subst e;rw [st_set_same] at hs;cases hs
  rw [st_set e] at hs;rw [upd_ne _ _ e] at hd ⊢;exact I.past j oj hj hoj hd hs
 ·intro j k hj hk hd hw
  by_cases e : j = i
  ·subst e;rw [upd_ne _ _ (hii k hk hw)];exact hdeps k hk hw
  ·rw [upd_ne _ _ e] at hd;have := I.deps j k hj hk hd hw
   by_cases e2 : k = i
   ·subst e2;exact upd_same _ _ _
   ·rw [upd_ne _ _ e2];exact this
theorem flowT_gameE (hl : ops = l.toArray) (F : FitE ops n) (hend : ∀ L H bs,E L H bs → At dfs N L H w0 bs (Q .normal)) :
 ∀ (m : Nat) (p : Pi0) (listed : Array Bool) (a : Act) (W : World) (val : Nat → Value) (dec : Nat → Bool) (D : List Nat) (L : Sl) (H : Hp) (bs : List Res) (pa : List (Nat × Oper × Value)),cnt (st listed) n = m → okT ops n D [] p = true →
  FlowT dfs P ops n w0 N E (fillT l p) pa L H bs → GT dfs P ops l w0 n N a0 E listed a W val dec D L H bs pa → wpAny P .any ops Q (m + (ops.size - n)) listed a W := by
 have hop : ∀ i,i < n → ops[i]? = some l[i]! := fun i hi => by
  have h1 : i < ops.size := by have := F.all;omega
  subst hl;have h2 : i < l.length := by simpa using h1
  simp [h2]
 intro m;induction m with
 | zero =>
  intro p;induction p with
  | done =>
   intro listed a W val dec D L H bs pa hm hok hF I;have hall := cnt_zero _ n hm;have hsz : ops.size - n = 0 := by have := F.all;omega
   rw [hsz]
   have hrd : Region.ready .any ops listed = [] := List.eq_nil_iff_forall_not_mem.2 fun k hk => by
    obtain ⟨h1,o,h2,_⟩ := mem_ready.1 hk;have h3 : k < ops.size := (Array.getElem?_eq_some_iff.1 h2).1;have h4 := hall k (by have := F.all;omega);have h5 : k < listed.size := by rw [I.head.size];exact h3
    simp [st,h5] at h1 h4;rw [h4] at h1;cases h1
   have hfr : a = frm ops val dec n a0 := by
    rw [I.frame];exact frm_congr _ _ _ _ a0 n (fun k hk => ⟨by rw [hall k hk,I.sub k hk (hall k hk)],fun _ => rfl⟩)
   rw [hfr];exact At.ae (n := N) (L := L) hrd (hend L H bs hF) _ W I.full I.world
  | no =>
   intro listed a W val dec D L H bs pa hm hok hF I;simp [okT] at hok
  | light i r ih =>
   intro listed a W val dec D L H bs pa hm hok hF I;have hall := cnt_zero _ n hm;simp only [okT,Bool.and_eq_true,decide_eq_true_eq,Bool.not_eq_true'] at hok;have := I.sub i hok.1.1.1.2 (hall i hok.1.1.1.2);rw [I.set i,hok.1.1.2] at this;cases this
  | alt i k r q ih1 ih2 =>
   intro listed a W val dec D L H bs pa hm hok hF I;have hall := cnt_zero _ n hm;simp only [okT,Bool.and_eq_true,decide_eq_true_eq,Bool.not_eq_true'] at hok;have := I.sub i hok.1.1.1.1.1 (hall i hok.1.1.1.1.1);rw [I.set i,hok.1.1.1.1.2] at this;cases this
 | succ m ih =>
  have one_step : ∀ (p : Pi0) (listed : Array Bool) (a : Act) (W : World) (val : Nat → Value) (dec : Nat → Bool) (D : List Nat) (L : Sl) (H : Hp) (bs : List Res) (pa : List (Nat × Oper × Value)),cnt (st listed) n = m + 1 → okT ops n D [] p = true →
   FlowT dfs P ops n w0 N E (fillT l p) pa L H bs → GT dfs P ops l w0 n N a0 E listed a W val dec D L H bs pa → (p = .done ∨ p = .no ∨ ∃ i k r q,p = .alt i k r q) → wpAny P .any ops Q (m + 1 + (ops.size - n)) listed a W := by
   intro p listed a W val dec D L H bs pa hm hok hF I hp;obtain ⟨k0,hk0,hun0,hbelow⟩ := cnt_pos (st listed) n (by omega);have hk0s : k0 < ops.size := by have := F.all;omega
   have hready0 : k0 ∈ Region.ready .any ops listed := by
    refine mem_ready.2 ⟨hun0,ops[k0],Array.getElem?_eq_getElem hk0s,fun e he hb => ?_⟩;have hlt := F.back k0 _ (Array.getElem?_eq_getElem hk0s) e he hb;have := hbelow e.on hlt;have hsz : e.on < listed.size := by rw [I.head.size];omega
    simpa [st,hsz] using this
   rw [show m + 1 + (ops.size - n) = (m + (ops.size - n)) + 1 by omega];refine ⟨fun h0 => (by rw [h0] at hready0;cases hready0),fun j hj => ?_⟩
   have hjn : j < n := by
    rcases Nat.lt_or_ge j n with h | h
    ·exact h
    ·exfalso
     obtain ⟨_,oj,hoj,_⟩ := mem_ready.1 hj;have h3 : j < ops.size := (Array.getElem?_eq_some_iff.1 hoj).1;have := F.all;omega
   obtain ⟨hun,oj,hoj,hall⟩ := mem_ready.1 hj
   have hcnt : cnt (st (listed.setIfInBounds j true)) n = m := by
    have := cnt_more (st listed) (st (listed.setIfInBounds j true)) j st_set_same hun (fun k hk => st_set hk) n hjn;omega
   have hS : ∀ k,k < n → Region.waitsFor .any ops j k = true → st listed k = true := by
    intro k hk hw;obtain ⟨oi,hoi,e,he,hb,hon⟩ := Region.waitsFor_spec hw;obtain rfl : oi = oj := Option.some.inj (hoi.symm.trans hoj);have h1 := hall e he hb;rw [hon] at h1;have hsz : k < listed.size := by rw [I.head.size];have := F.all;omega
    simp [hsz] at h1;simp [st,hsz,h1]
   have hev : ∀ t ∈ oj.looksAt ops,a.eval (.tmp t) = (frm ops val dec n a0).eval (.tmp t) := fun t ht => by
    rw [I.frame];exact eval_sameE F hjn hoj (fun k hk hw => ⟨hS k hk hw,I.sub k hk (hS k hk hw),rfl⟩) t ht
   cases hd : dec j with
   | true =>
    have hy : Yq P ops oj (val j) a W := Yq.same (fun cs b => F.sel j oj cs b hoj) hev (I.light j oj hjn hoj hd hun W I.world);exact hy.wpOp hoj fun W' hx => ih p _ _ _ _ _ _ _ _ _ _ hcnt hok hF (I.stepE F hjn hoj hj hd hx)
   | false =>
    have hjD : D.contains j = false := (I.set j).symm.trans hd
    have hch : p = .no ∨ ∃ i k r q',p = .alt i k r q' := by
     rcases hp with rfl | rfl | h
     ·exfalso
      simp only [okT,Bool.and_eq_true] at hok;have := List.all_eq_true.1 hok.2 j (List.mem_range.2 hjn);rw [hjD] at this;cases this
     ·exact .inl Z
     ·exact .inr h
    obtain ⟨k,r,h1,h2,h3,h4,h5⟩ := chain_find hl hjn hjD (fun i hi hin => by
     cases hre : reach ops n j i with
     | false => rfl
     | true =>
      have h2 := reach_listed I.head n j i hre (fun ok hok e he hb => by
       obtain rfl : ok = oj := Option.some.inj (hok.symm.trans hoj);exact hall e he hb)
      have h3 : st listed i = false := by
       cases h : st listed i with
       | false => rfl
       | true => have := I.sub i hin h;rw [I.set i,hi] at this;cases this
      rw [getD_both h3] at h2;cases h2) p [] hch hok (fun i hi => by cases hi) hF
    have hoj2 := hop j hjn;obtain rfl : oj = l[j]! := Option.some.inj (hoj.symm.trans hoj2);refine one_same hoj (fun cs b => F.sel j _ cs b hoj) hev (fun b W' ⟨v,H',bs',hf,_⟩ => hf.defers) I.full.defers ?_ (h5 _ W I.full I.world);rintro v W' ⟨v',H',bs',hf,hs,hw,hp'⟩
    have hvv : putL (l[j]!).dst v' L = putL (l[j]!).dst v L := by
     cases hdst : (l[j]!).dst with
     | none => rfl
     | some t =>
      rw [hdst] at hf;have h1 := hf.slot t v' (by unfold putL look;rw [Nat.beq_refl,cond_true]);have h2 : t < N := h4 t hdst;have h3 := (I.full.put (by simpa [Nat.blt_eq] using h2) v).slot t v (by unfold look;rw [Nat.beq_refl,cond_true]);rw [h3] at h1;rw [h1]
    rw [hvv] at hp';exact ih r _ _ _ _ _ _ _ _ _ _ hcnt h3 hp' (I.heavyE F hjn hoj hjD h1 h2 h4 hj hs hw)
  intro p;induction p with
  | done => exact fun listed a W val dec D L H bs pa hm hok hF I => one_step _ listed a W val dec D L H bs pa hm hok hF I (.inl rfl)
  | no => exact fun listed a W val dec D L H bs pa hm hok hF I => one_step _ listed a W val dec D L H bs pa hm hok hF I (.inr (.inl rfl))
  | alt i k r q _ _ => exact fun listed a W val dec D L H bs pa hm hok hF I => one_step _ listed a W val dec D L H bs pa hm hok hF I (.inr (.inr ⟨_,_,_,_,rfl⟩))
  | light i r ihr =>
   intro listed a W val dec D L H bs pa hm hok hF I;simp only [okT,Bool.and_eq_true,decide_eq_true_eq,Bool.not_eq_true'] at hok;obtain ⟨⟨⟨⟨_,hi⟩,hiD⟩,hwt⟩,hok'⟩ := hok;unfold fillT FlowT at hF;obtain ⟨v,hy,hN,hF'⟩ := hF;exact ihr listed a W _ _ _ _ H bs _ hm hok' hF' (I.decideE F hi (hop i hi) hiD hwt hy hN)
theorem flowTE {id : Nat} {l : List Oper} {p : PlT} {Q : Exit → Act → World → Prop} {L : Sl} {H : Hp} {bs : List Res} (n : Nat) (p0 : Pi0) (hm : P.follows .mixedOrders = true) (hB : (parE l.toArray n && okT l.toArray n [] [] p0) = true) (ht : fillT l p0 = p)
 (h : FlowT dfs P l.toArray n w0 N (fun L H bs => At dfs N L H w0 bs (Q .normal)) p [] L H bs) : At dfs N L H w0 bs ((Code.region id l.toArray true).wp P Q) := by
 simp only [Bool.and_eq_true] at hB;obtain ⟨h1,h2⟩ := hB;have F := FitE.of h1;have hlt : n = l.length := by simpa using F.all
 subst ht;intro a W f s;refine wp_region_any hm ?_;have hsz : l.toArray.size = l.length := by simp
 have hc0 : ∀ m,m ≤ n → cnt (st (Array.replicate l.toArray.size false)) m = m := by
  intro m;induction m with
  | zero => intro _;rfl
  | succ m ih =>
   intro hm;unfold cnt;rw [ih (by omega)]
   have : st (Array.replicate l.toArray.size false) m = false := by
    have : m < l.length := by omega
    simp [st,this]
   rw [this];simp
 have hfrm : ∀ (val : Nat → Value) (m : Nat),frm l.toArray val (fun _ => false) m a = a := fun val m => by
  induction m with
  | zero => rfl
  | succ m ih => unfold frm;simp [ih]
 have hall : ∀ m,m ≤ n → ∀ k,k < m → st (Array.replicate l.toArray.size false) k = false := fun m hm k hk => by
  have : k < l.length := by omega
  simp [st,this]
 have hh : HeadInv .any l.toArray n (Array.replicate l.toArray.size false) := by
  refine ⟨by simp,fun j oj hj hl => ?_,fun t ht ht' => ?_⟩
  ·exfalso
   rcases Nat.lt_or_ge j l.length with h | h
   ·simp [h] at hl
   ·simp [h] at hl
  ·have : t < l.length := by simpa using ht'
   simp [this]
 have key := flowT_gameE (Q := Q) (a0 := a) (l := l) rfl F (fun L H bs h => h) n p0 (Array.replicate l.toArray.size false) a _ (fun _ => undef) (fun _ => false) [] L H bs [] (hc0 n (Nat.le_refl _)) h2 h
  ⟨hh,?_,by rw [hfrm];exact f,?_,s.more ((Ext.refl W).drew),fun _ _ _ _ h => (by cases h),fun _ _ _ _ h => (by cases h),fun _ => rfl,fun _ _ _ _ h => (by cases h)⟩
 ·have : n + (l.toArray.size - n) = l.toArray.size := by rw [hsz];omega
  rw [this] at key;exact key
 ·rw [frm_congr (fun _ => undef) (fun _ => undef) _ (fun _ => false) a n (fun k hk => ⟨hall n (Nat.le_refl _) k hk,fun _ => rfl⟩),hfrm]
 ·intro i hi hs;rw [hall n (Nat.le_refl _) i hi] at hs;cases hs
end
section
variable {dfs : List Deferred} {P : Program} {n : Nat} {L : Sl} {H : Hp} {w0 : World} {bs : List Res} {Q : Exit → Act → World → Prop} {ops : Array Oper} {rest : List Oper} {K : Act → World → Prop}
variable {d : Option Tmp} {ty : TypeId} {pos : String} {aft : Array Edge} {v : Value} {t : Tmp} {x y : Operand} {T : TypeId}
theorem storeR {g off k c size : Nat} {e : TypeId} {xs vs : List Value} {bs' : List Res} (hp : ev L x = some (.pointer (some ⟨g,off,none⟩))) (hv : ev L y = some (.agg vs.toArray)) (hT : sizeN P T = some vs.length) (h1 : ∀ u ∈ vs,u.oneCell' = true)
 (hm : Upd bs (.row e size (.slice (some ⟨g,0,none⟩) k c) k xs) (.row e size (.slice (some ⟨g,0,none⟩) k c) k (setsL xs off vs)) bs') (ho : off + vs.length ≤ xs.length) (h : At dfs n L H w0 bs' K) :
 At dfs n L H w0 bs (one P ops Q ⟨none,.store T x y,ty,pos,aft,none⟩ K) := by
 intro a W f s;have ho1 : W.ownsRow w0.heap.size e size (.slice (some ⟨g,0,none⟩) k c) k xs := (s.own _ hm.mem).1;rcases ho1.2 with ⟨hr,_⟩ | ⟨g',cap,cur,hr,hbg,hgc,hnc,hcm,hcs,htake⟩
 ·cases hr
 ·injection hr with e1 _ e3
  injection e1 with e1
  injection e1 with e1
  subst e1 e3;obtain ⟨more,hmo⟩ : ∃ more,more = cur.toList.drop (k * size) := ⟨_,rfl⟩;have hcur : cur.toList = xs ++ more := by rw [hmo,← htake,List.take_append_drop]
  have hcur2 : cur = (xs ++ more).toArray := by rw [← hcur]
  obtain ⟨b1,u1,u2⟩ := hm.mid (.box g (xs ++ more) e);obtain ⟨b2,u3,u4⟩ := u2.mid (.box g (setsL (xs ++ more) off vs) e);have s1 : St H w0 b1 W := s.put1 u1 ⟨hbg,by rw [hgc,← hcur2]⟩ (fun b e => e);refine stores hp hv hT rfl h1 u3 (by rw [List.length_append];omega) ?_ a W f s1;intro a W f s2;have ob := (s2.own _ u4.mem).1;have e4 : setsL (xs ++ more) off vs = setsL xs off vs ++ more := setsL_app vs xs more off ho;have hz : xs.length = k * size := ho1.1;refine h a W f (s2.put1 u4 ⟨by rw [setsL_len];exact hz,.inr ⟨g,c,(setsL (xs ++ more) off vs).toArray,rfl,ob.1,ob.2,hnc,hcm,?_,?_⟩⟩ (fun b e => e))
  ·rw [List.size_toArray,setsL_len,← hcur];simpa using hcs
  ·rw [e4];show List.take (k * size) (setsL xs off vs ++ more) = setsL xs off vs;rw [List.take_append_of_le_length (by rw [setsL_len];omega),List.take_of_length_le (by rw [setsL_len];omega)]
variable {N hn i kk : Nat} {pa : List (Nat × Oper × Value)} {E : Sl → Hp → List Res → Prop} {q : PlT} {bs' : List Res}
theorem AltT.sR {g off k c size : Nat} {e : TypeId} {xs vs : List Value} (hp : ev L x = some (.pointer (some ⟨g,off,none⟩))) (hv : ev L y = some (.agg vs.toArray)) (hT : sizeN P T = some vs.length) (h1 : ∀ u ∈ vs,u.oneCell' = true)
 (hm : Upd bs (.row e size (.slice (some ⟨g,0,none⟩) k c) k xs) (.row e size (.slice (some ⟨g,0,none⟩) k c) k (setsL xs off vs)) bs') (ho : off + vs.length ≤ xs.length)
 (hr : RedoP dfs P ops hn w0 N L H bs' i pa) (h : FlowT dfs P ops hn w0 N E q pa L H bs') : AltT dfs P ops hn w0 N E i kk ⟨none,.store T x y,ty,pos,aft,none⟩ q pa L H bs :=
 ⟨fun _ e => (by cases e),storeR hp hv hT h1 hm ho (AltT.into0 hr h)⟩
theorem AltT.st {b off : Nat} {l l' : List Value} {t' : TypeId} (hm : Upd bs (.box b l t') (.box b l' t') bs') (hp : ev L x = some (.pointer (some ⟨b,off,none⟩))) (hv : ev L y = some v) (hT : sizeN P T = some 1) (h1 : v.oneCell' = true) (ho : off < l.length) (hl : l.set off v = l')
 (hr : RedoP dfs P ops hn w0 N L H bs' i pa) (h : FlowT dfs P ops hn w0 N E q pa L H bs') : AltT dfs P ops hn w0 N E i kk ⟨none,.store T x y,ty,pos,aft,none⟩ q pa L H bs :=
 ⟨fun _ e => (by cases e),store hp hv hT h1 hm ho hl (AltT.into0 hr h)⟩
theorem AltT.apE {e : TypeId} {size bytes m c k : Nat} {p : Option Addr} {r : Value} {xs : List Value} {ds : List D} {bs' : List Value → Value → List Res} (hT : rowN P T = some (e,size,bytes)) (hx : ev L x = some r)
 (hm : ∀ news r',Upd bs (.row e size r k xs) (.row e size r' (k + m) (xs ++ news)) (bs' news r')) (hy : ev L y = some (.slice p m c)) (hr : Rep H (.seq size ds) [.slice p m c]) (hpos : 0 < k + m)
 (h63 : k + m ≤ maxLen) (hb : (k + m) * bytes ≤ 140737488355328) (ht : Nat.blt t N = true)
 (hr2 : ∀ news r',RedoP dfs P ops hn w0 N L H (bs' news r') i pa) (h : ∀ news g c,RepZ H size ds news → FlowT dfs P ops hn w0 N E q pa ((t,.slice (some ⟨g,0,none⟩) (k + m) c) :: L) H (bs' news (.slice (some ⟨g,0,none⟩) (k + m) c))) :
 AltT dfs P ops hn w0 N E i 2 ⟨some t,.call ⟨.builtin .append,#[x,y],#[T,T]⟩,ty,pos,aft,none⟩ q pa L H bs :=
 ⟨blt_of ht,appendD hT hx hm hy hr h63 hb ht fun news r' hz => At.rs (hm news r').new hpos fun g c e => by subst e;exact AltT.into (.inr<|.inr<|hr2 _ _) (h news g c hz)⟩
theorem FlowT.fe {Q : Exit → Act → World → Prop} (h : At dfs N L H w0 bs (Q .normal)) : FlowT dfs P ops hn w0 N (fun L H bs => At dfs N L H w0 bs (Q .normal)) .done pa L H bs := h
theorem At.fx {id : Nat} {l : List Oper} {p : PlT} (nn : Nat) (p0 : Pi0) (hm : P.follows .mixedOrders = true) (hB : (parE l.toArray nn && okT l.toArray nn [] [] p0) = true) (ht : fillT l p0 = p)
 (h : FlowT dfs P l.toArray nn w0 n (fun L H bs => At dfs n L H w0 bs (Q .normal)) p [] L H bs) : At dfs n L H w0 bs ((Code.region id l.toArray true).wp P Q) := flowTE nn p0 hm hB ht h
end
section
variable {P : Program} {L : Sl} {H : Hp} {w0 : World} {bs : List Res} {d : Option Tmp} {ty : TypeId} {pos : String} {aft : Array Edge} {g : Option (Nat × Bool)} {x : Operand} {T : TypeId}
theorem Yl.neg {k : IntKind} {i c : Int} (hx : ev L x = some (.int k i)) (hw : k.wrap (0 - i) = c) : Yl P L H w0 bs ⟨d,.unOp .neg T x,ty,pos,aft,g⟩ (.int k c) := .of_run fun a W f _ => by
 subst hw;unfold execOp;simp [f x _ hx,Op.unary,Op.intArith]
end
end Go.Sx
namespace Go.Proofs.YtidclioghdbphaaGreatDoor
open Go.RowKit Go.Par Go.Sx
theorem strs_at {es : List Str} {i : Nat} (h : i < es.length) : (es.map strV)[i]? = some (strV (es.getD i [])) := by simp [h]
theorem lalls_at {q : Ex → Bool} {l : List Ex} {k : Nat} (h : k < l.length) (ha : Ex.alls q l = true) : Ex.all q l[k] = true := by
 cases hb : Ex.all q l[k] with
 | true => rfl
 | false => rw [alls_bad h hb] at ha;cases ha
def spT : Nat → Str
 | 0 => []
 | k + 1 => spT k ++ [32,32]
def lineT (ind : Nat) (parts : List Str) : Str := spT ind ++ parts.flatten ++ [10]
def joinT (l : List Str) : Str := Lib.join l [44,32]
def diskT (n : Nat) (first : Str) (noE : Bool) (E : Str) : Str := if noE then lineT n [first,[59]] else lineT n [first,[32,101,108,115,101,32,123]] ++ E ++ lineT n [[125]]
def stT (n : Nat) (kd : UInt8) (nm hd : Str) (es : List Str) (T : Str) (noE : Bool) (E : Str) : Str :=
 if kd = 1 then lineT n [nm,[32,61,32],es.getD 0 [],[59]]
 else if kd = 2 then lineT n [nm,[91],es.getD 0 [],[93,32,61,32],es.getD 1 [],[59]]
 else if kd = 3 then lineT n [[100,101,108,101,116,101,32],nm,[91],es.getD 0 [],[93,59]]
 else if kd = 4 then lineT n [[105,102,32],es.getD 0 [],[32,123]] ++ T ++ (if noE then [] else lineT n [[125,32,101,108,115,101,32,123]] ++ E) ++ lineT n [[125]]
 else if kd = 5 then lineT n [[119,104,105,108,101,32],es.getD 0 [],[32,123]] ++ T ++ lineT n [[125]]
 else if kd = 6 then lineT n [[115,101,110,100,32],nm,[46],hd,[40],joinT es,[41,59]]
 else if kd = 7 then lineT n [[97,102,116,101,114,32],es.getD 0 [],[32,100,111,32],hd,[40],joinT (es.drop 1),[41,59]]
 else if kd = 8 then diskT n ([115,116,111,114,101,32] ++ es.getD 0 [] ++ [32,61,32] ++ es.getD 1 []) noE E
 else if kd = 9 then diskT n ([102,101,116,99,104,32] ++ nm ++ [32,61,32] ++ es.getD 0 []) noE E
 else if kd = 10 then lineT n [[115,116,111,112,59]]
 else []
mutual
def Sm.text (n : Nat) : Sm → Str
 | .mk kd nm hd ex th el => stT n kd nm hd (ex.map Ex.text) (Sm.texts (n + 1) th) (decide (el.length = 0)) (Sm.texts (n + 1) el)
def Sm.texts (n : Nat) : List Sm → Str
 | [] => []
 | s :: r => Sm.text n s ++ Sm.texts n r
end
theorem stext_mk (n : Nat) (kd : UInt8) (nm hd : Str) (ex : List Ex) (th el : List Sm) : Sm.text n (.mk kd nm hd ex th el) = stT n kd nm hd (ex.map Ex.text) (Sm.texts (n + 1) th) (decide (el.length = 0)) (Sm.texts (n + 1) el) := by rw [Sm.text]
theorem itoa_len (n : Int64) : (Lib.itoa n.toInt).length ≤ 21 := Lib.itoa_length_le n.toInt (by have := n.le_toInt;omega) (by have := n.toInt_lt;omega)
theorem name_len {l : Str} (h : nameB l = true) : l.length ≤ 12 := by
 simp only [nameB,Bool.and_eq_true,decide_eq_true_eq,beq_iff_eq] at h;obtain ⟨⟨_,h1⟩,h2⟩ := h;unfold readK at h1 h2;dsimp only at h1 h2
 split at h1
 ·split at h1
  ·simp at h1
  ·split at h1
   ·rename_i a b c;simp only [a,b,c,if_true,Bool.false_eq_true,if_false] at h2;omega
   ·simp at h1
 ·split at h1
  ·split at h1 <;> simp at h1
  ·split at h1 <;> simp at h1
theorem alls_mem {q : Ex → Bool} : ∀ {l : List Ex} {a : Ex},a ∈ l → Ex.alls q l = true → Ex.all q a = true
 | [],a,h,_ => by cases h
 | b :: r,a,h,k => by
  rw [Ex.alls,Bool.and_eq_true] at k;rcases List.mem_cons.1 h with rfl | h
  ·exact k.1
  ·exact alls_mem h k.2
structure Nd where
 op : UInt8
 nm : UInt8
 ct : UInt8
 odd : Bool
 n : Int64
def dNd (x : Nd) : D := .str [.val (.int .u8 x.op.toNat),.val (.int .u8 x.nm.toNat),.val (.int .u8 x.ct.toNat),.val (.bool x.odd),.val (.int .i64 x.n.toInt)]
def cNd (x : Nd) : List Value := [.int .u8 x.op.toNat,.int .u8 x.nm.toNat,.int .u8 x.ct.toNat,.bool x.odd,.int .i64 x.n.toInt]
theorem nd_open {H : Hp} {x : Nd} {cs : List Value} (h : Rep H (dNd x) cs) : cs = cNd x := by
 rw [dNd,repS] at h;obtain ⟨_,rfl,_,_,h⟩ := repL_val.1 h;obtain ⟨_,rfl,_,_,h⟩ := repL_val.1 h;obtain ⟨_,rfl,_,_,h⟩ := repL_val.1 h;obtain ⟨_,rfl,_,_,h⟩ := repL_val.1 h;obtain ⟨_,rfl,_,_,h⟩ := repL_val.1 h;rw [repL_nil] at h;subst h
 rfl
theorem rep_drop {H : Hp} {z b off n c lo : Nat} {ds : List D} (h : Rep H (.seq z ds) [.slice (some ⟨b,off,none⟩) n c]) (hl : lo ≤ n) : Rep H (.seq z (ds.drop lo)) [.slice (some (if c = lo then ⟨b,off,none⟩ else ⟨b,off + lo * z,none⟩)) (n - lo) (c - lo)] := by
 have hn := h.len
 by_cases hc : c = lo
 ·rw [if_pos hc];rw [show ds.drop lo = [] from List.drop_of_length_le (by omega),show n - lo = 0 by omega];exact .empty (by omega)
 ·rw [if_neg hc];unfold Rep at h;obtain ⟨p',c',h1,h2,h3,h4⟩ := h;injection h1 with h1 _
  injection h1 with h5 h6 h7
  subst h5 h7;rcases h4 with h4 | ⟨b',off',cs,h8,h9,h10,h11⟩
  ·subst h4;rw [List.drop_nil,show n - lo = 0 by simp only [List.length_nil] at h6;omega];exact .empty (by omega)
  ·cases h8
   exact .mkM (h9.drop (lo * z)) (h10.drop lo) (by rw [List.length_drop];omega) (by omega) (by omega) fun e => by
    obtain ⟨k1,k2⟩ := h11 (D.txtL_sub (fun x => List.mem_of_mem_drop) e);exact ⟨k1,by rw [Nat.add_mul_mod_self_right];exact k2⟩
def wordsR : List Str := [[97],[98],[120,48],[116,48],[102,95,49],[97,98,99,100,101,102,103,104,105,106,107,108],[110,111,119],[],[97,98,99,100,101,102,103,104,105,106,107,108,109],[95,120],[120,45,121]]
def wordR (n : UInt8) : Str := wordsR.getD (n.toNat % 11) []
theorem word_len (n : UInt8) : (wordR n).length ≤ 13 := by
 have key : ∀ i ∈ List.range 11,(wordsR.getD i []).length ≤ 13 := by decide
 exact key _ (List.mem_range.2 (Nat.mod_lt _ (by omega)))
def arR (k : Nat) : Int := if k < 1 ∨ 23 < k then -1 else if k ≤ 5 ∨ k = 8 then 0 else if k = 6 ∨ k = 7 ∨ k = 9 ∨ k = 10 then 1 else 2
theorem arR_bnd (k : Nat) : -1 ≤ arR k ∧ arR k ≤ 2 := by unfold arR;split <;> (try split) <;> (try split) <;> omega
def narrow (e : Ex) : Bool := decide (e.args.length ≤ 3)
theorem narrow_mk (op : UInt8) (nm : Str) (n : Int64) (args : List Ex) : narrow (.mk op nm n args) = decide (args.length ≤ 3) := rfl
theorem Fx.agg9 : aggN Tryz.prog 9 = Option.some Option.none := by kernel_rfl
theorem Fx.sl71 : slN Tryz.prog 71 = Option.some 1 := by kernel_rfl
theorem Fx.bsl71_11 (x0 : ByteArray) (x1 : ByteArray) (x2 : ByteArray) (x3 : ByteArray) (x4 : ByteArray) (x5 : ByteArray) (x6 : ByteArray) (x7 : ByteArray) (x8 : ByteArray) (x9 : ByteArray) (x10 : ByteArray) : bslN Tryz.prog 71 11 [(0,.string x0),(1,.string x1),(2,.string x2),(3,.string x3),(4,.string x4),(5,.string x5),(6,.string x6),(7,.string x7),(8,.string x8),(9,.string x9),(10,.string x10)] = some (9,[.string x0,.string x1,.string x2,.string x3,.string x4,.string x5,.string x6,.string x7,.string x8,.string x9,.string x10]) := by kernel_rfl
set_option maxRecDepth 100000 in
theorem word_any (H : Hp) (n : UInt8) (w : World) (hA : Agr H w) : Calls Tryz.prog 128 #[.int .u8 n.toNat] w fun r w' => r = .returned (strV (wordR n)) ∧ Ext w w' := by
 refine Sx.enter (H := H) Tryz.func128 rfl Tryz.ntmps128 rfl hA ?_;refine .sr<|.a Z Z<|.ns<|.bl Z (Fx.bsl71_11 _ _ _ _ _ _ _ _ _ _ _) Z fun b3 => .m Z Z<|.yv (.rem Z Z (by decide) (c := ((n.toNat % 11 : Nat) : Int)) (by rw [Int.tmod_eq_emod_of_nonneg (by omega)];omega)) Z<|.yv (.indexSl Fx.sl71 Z Z (i := n.toNat % 11) Z (Nat.mod_lt _ (by omega)) (q := n.toNat % 11) (by omega)) Z<|.yv (.load (v := strV (wordR n)) Z Fx.agg9 (.head _) (strs_at (es := wordsR) (Nat.mod_lt _ (by show 0 < 11;omega)))) Z<|.a Z Z<|.nt<|.rt<|?_
 exact Sx.ret1 (.inl rfl) rfl (.tmp rfl) fun W s => ⟨rfl,s.ext⟩
set_option maxRecDepth 100000 in
theorem arity_any (H : Hp) (k : Nat) (w : World) (hA : Agr H w) : Calls Tryz.prog 170 #[.int .i64 (k : Nat)] w fun r w' => r = .returned (.int .i64 (arR k)) ∧ Ext w w' := by
 refine Sx.enter (H := H) Tryz.func170 rfl Tryz.ntmps170 rfl hA ?_;refine .sr<|.a Z Z<|.nt<|.sq<|.bk<|.sr<|.m Z Z<|.yv (.lss Z Z) Z<|.m Z Z<|.b2 (fun h6 => ?_) (fun h6 => ?_)
 ·try simp only [dt] at h6
  refine .gF Z Z Z Z<|.gF Z Z Z Z<|.yv (.pickT Z Z) Z<|.a Z Z<|.nt<|.cT Z<|.sr<|.a Z Z<|.nt<|.rt<|.bR<|.tR<|?_
  refine Sx.ret1 (.inl rfl) rfl (.tmp rfl) fun W s => ⟨?_,s.ext⟩
  first
   | (rw [arR];simp_all <;> omega)
   | (rw [arR];simp_all;omega)
   | (congr 1;congr 1;rw [arR];simp_all <;> omega)
 try simp only [df] at h6
 refine .gd Z Z<|.yv (.move Z) Z<|.gd Z Z<|.yv (.gtr Z Z) Z<|.yv (.pickF Z Z) Z<|.a Z Z<|.nt<|.cd Z (fun h3 => ?_) (fun h3 => ?_)
 ·skip
  refine .sr<|.a Z Z<|.nt<|.rt<|.bR<|.tR<|?_
  refine Sx.ret1 (.inl rfl) rfl (.tmp rfl) fun W s => ⟨?_,s.ext⟩
  first
   | (rw [arR];simp_all <;> omega)
   | (rw [arR];simp_all;omega)
   | (congr 1;congr 1;rw [arR];simp_all <;> omega)
 skip
 refine .sr<|.m Z Z<|.yv (.leq Z Z) Z<|.m Z Z<|.b2 (fun h13 => ?_) (fun h13 => ?_)
 ·try simp only [dt] at h13
  refine .gF Z Z Z Z<|.gF Z Z Z Z<|.yv (.pickT Z Z) Z<|.a Z Z<|.nt<|.cT Z<|.sr<|.a Z Z<|.nt<|.rt<|.bR<|.tR<|?_
  refine Sx.ret1 (.inl rfl) rfl (.tmp rfl) fun W s => ⟨?_,s.ext⟩
  first
   | (rw [arR];simp_all <;> omega)
   | (rw [arR];simp_all;omega)
   | (congr 1;congr 1;rw [arR];simp_all <;> omega)
 try simp only [df] at h13
 refine .gd Z Z<|.yv (.move Z) Z<|.gd Z Z<|.yv (.eql Z Z) Z<|.yv (.pickF Z Z) Z<|.a Z Z<|.nt<|.cd Z (fun h10 => ?_) (fun h10 => ?_)
 ·skip
  refine .sr<|.a Z Z<|.nt<|.rt<|.bR<|.tR<|?_
  refine Sx.ret1 (.inl rfl) rfl (.tmp rfl) fun W s => ⟨?_,s.ext⟩
  first
   | (rw [arR];simp_all <;> omega)
   | (rw [arR];simp_all;omega)
   | (congr 1;congr 1;rw [arR];simp_all <;> omega)
 skip
 refine .sr<|.m Z Z<|.yv (.eql Z Z) Z<|.m Z Z<|.b2 (fun h20 => ?_) (fun h20 => ?_)
 ·try simp only [dt] at h20
  refine .gF Z Z Z Z<|.gF Z Z Z Z<|.yv (.pickT Z Z) Z<|.m Z Z<|.gF Z Z Z Z<|.gF Z Z Z Z<|.yv (.pickT Z Z) Z<|.m Z Z<|.gF Z Z Z Z<|.gF Z Z Z Z<|.yv (.pickT Z Z) Z<|.a Z Z<|.nt<|.cT Z<|.sr<|.a Z Z<|.nt<|.rt<|.bR<|.tR<|?_
  refine Sx.ret1 (.inl rfl) rfl (.tmp rfl) fun W s => ⟨?_,s.ext⟩
  first
   | (rw [arR];simp_all <;> omega)
   | (rw [arR];simp_all;omega)
   | (congr 1;congr 1;rw [arR];simp_all <;> omega)
 try simp only [df] at h20
 refine .gd Z Z<|.yv (.move Z) Z<|.gd Z Z<|.yv (.eql Z Z) Z<|.yv (.pickF Z Z) Z<|.m Z Z<|.b2 (fun h24 => ?_) (fun h24 => ?_)
 ·try simp only [dt] at h24
  refine .gF Z Z Z Z<|.gF Z Z Z Z<|.yv (.pickT Z Z) Z<|.m Z Z<|.gF Z Z Z Z<|.gF Z Z Z Z<|.yv (.pickT Z Z) Z<|.a Z Z<|.nt<|.cT Z<|.sr<|.a Z Z<|.nt<|.rt<|.bR<|.tR<|?_
  refine Sx.ret1 (.inl rfl) rfl (.tmp rfl) fun W s => ⟨?_,s.ext⟩
  first
   | (rw [arR];simp_all <;> omega)
   | (rw [arR];simp_all;omega)
   | (congr 1;congr 1;rw [arR];simp_all <;> omega)
 try simp only [df] at h24
 refine .gd Z Z<|.yv (.move Z) Z<|.gd Z Z<|.yv (.eql Z Z) Z<|.yv (.pickF Z Z) Z<|.m Z Z<|.b2 (fun h28 => ?_) (fun h28 => ?_)
 ·try simp only [dt] at h28
  refine .gF Z Z Z Z<|.gF Z Z Z Z<|.yv (.pickT Z Z) Z<|.a Z Z<|.nt<|.cT Z<|.sr<|.a Z Z<|.nt<|.rt<|.bR<|.tR<|?_
  refine Sx.ret1 (.inl rfl) rfl (.tmp rfl) fun W s => ⟨?_,s.ext⟩
  first
   | (rw [arR];simp_all <;> omega)
   | (rw [arR];simp_all;omega)
   | (congr 1;congr 1;rw [arR];simp_all <;> omega)
 try simp only [df] at h28
 refine .gd Z Z<|.yv (.move Z) Z<|.gd Z Z<|.yv (.eql Z Z) Z<|.yv (.pickF Z Z) Z<|.a Z Z<|.nt<|.cd Z (fun h17 => ?_) (fun h17 => ?_)
 ·skip
  refine .sr<|.a Z Z<|.nt<|.rt<|.bR<|.tR<|?_
  refine Sx.ret1 (.inl rfl) rfl (.tmp rfl) fun W s => ⟨?_,s.ext⟩
  first
   | (rw [arR];simp_all <;> omega)
   | (rw [arR];simp_all;omega)
   | (congr 1;congr 1;rw [arR];simp_all <;> omega)
 skip
 refine .sk<|.bN<|.tN<|.sr<|.a Z Z<|.nt<|.rt<|?_
 refine Sx.ret1 (.inl rfl) rfl (.tmp rfl) fun W s => ⟨?_,s.ext⟩
 first
  | (rw [arR];simp_all <;> omega)
  | (rw [arR];simp_all;omega)
  | (congr 1;congr 1;rw [arR];simp_all <;> omega)
theorem Fx.agg2 : aggN Tryz.prog 2 = Option.some Option.none := by kernel_rfl
theorem Fx.agg3 : aggN Tryz.prog 3 = Option.some Option.none := by kernel_rfl
theorem Fx.call39 : callN Tryz.prog 39 = Bool.true := by kernel_rfl
theorem Fx.field83_0 : fieldN Tryz.prog 83 0 = Option.some 0 := by kernel_rfl
theorem Fx.field83_1 : fieldN Tryz.prog 83 1 = Option.some 1 := by kernel_rfl
theorem Fx.field83_2 : fieldN Tryz.prog 83 2 = Option.some 2 := by kernel_rfl
theorem Fx.int3 : intN Tryz.prog 3 = Option.some Go.IntKind.i64 := by kernel_rfl
theorem Fx.int74 : intN Tryz.prog 74 = Option.some Go.IntKind.u8 := by kernel_rfl
theorem Fx.row32 : rowN Tryz.prog 32 = Option.some (76,4,56) := by kernel_rfl
theorem Fx.size32 : sizeN Tryz.prog 32 = Option.some 1 := by kernel_rfl
theorem Fx.size76 : sizeN Tryz.prog 76 = Option.some 4 := by kernel_rfl
theorem Fx.zero76 : zeroN Tryz.prog 76 = Option.some
 [Go.Value.int Go.IntKind.u8 (Int.ofNat 0),Go.Value.string { data := { toList := [] } },
  Go.Value.int Go.IntKind.i64 (Int.ofNat 0),Go.Value.slice Option.none 0 0] := by kernel_rfl
theorem Fx.bld76_0_1_2 (x0 : Int) (x1 : ByteArray) (x2 : Int) : buildN Tryz.prog 76 [(0,.int .u8 x0),(1,.string x1),(2,.int .i64 x2)] = some [.int .u8 x0,.string x1,.int .i64 x2,.slice none 0 0] := by kernel_rfl
theorem Fx.bsl32_1 (x00 x01 x02 x03 : Value) : bslN Tryz.prog 32 1 [(0,.agg [x00,x01,x02,x03].toArray)] = some (76,[x00,x01,x02,x03]) := by kernel_rfl
def ExprOf (e : Ex) : Prop := Ex.all narrow e = true → ∀ (H : Hp) (cs : List Value) (w : World),Rep H (dEx .i64 e) cs → Agr H w →
 Calls Tryz.prog 39 #[.agg cs.toArray] w fun r w' => ∃ x H',Rep H' (dEx .u8 e) x ∧ r = .returned (.agg x.toArray) ∧ Grow H w H' w'
set_option maxRecDepth 100000 in
theorem expr_any (e : Ex) : ExprOf e := by
 induction e using Ex.ind with | _ op nm nn args ih
 intro hnr H cs w h hA;rw [all_mk,Bool.and_eq_true,narrow_mk,decide_eq_true_eq] at hnr;obtain ⟨p,c,rfl,hs,hnm⟩ := ex_open h;have hcap := hs.cap;have hn3 := hnr.1;refine Sx.enter (H := H) Tryz.func39 rfl Tryz.ntmps39 rfl hA ?_;refine .sr<|.bx Z Z Z fun b1 => .al Fx.zero76 Z fun b2 => ?_
 refine Sx.row0 76 4 ?_;refine .ns<|.yv (.fieldAddr Z Fx.field83_0) Z<|.yv (.load Z Fx.agg3 (.tail _<|.tail _<|.head _) Z) Z<|.yv (.conv Z Fx.int3 Fx.int74 (c := (op.toNat : Nat)) (by have := op.toNat_lt;simp only [IntKind.wrap,IntKind.signed,IntKind.bits];simp;omega)) Z<|.yv (.fieldAddr Z Fx.field83_1) Z<|.yv (.load Z Fx.agg9 (.tail _<|.tail _<|.head _) Z) Z<|.yv (.fieldAddr Z Fx.field83_2) Z<|.yv (.load Z Fx.agg2 (.tail _<|.tail _<|.head _) Z) Z<|.yv (.build Z (Fx.bld76_0_1_2 _ _ _)) Z<|.al Fx.zero76 Z fun b3 => .sW .head Z Z Fx.size76 (by simp [Value.oneCell',strV]) Z<|.nt<|.sq<|.sr<|.yv (.fieldAddr Z Fx.field83_3) Z<|.yv (.load Z Fx.agg24 (.tail _<|.tail _<|.tail _<|.head _) Z) Z<|.yv (.lenSl Fx.sl24 Z) Z<|.m Z Z<|.nt<|.bk<|.lp (X := Nat × Hp × Value × List Value) [(2,_),(3,_),(15,_),(16,_)] ⟨rfl,rfl,rfl,rfl,trivial⟩ [_,_] (fun z => [(17,.int .i64 (z.1 : Nat))]) (fun z => z.2.1) (fun z => [.box b3 [.int .u8 op.toNat,strV nm,.int .i64 nn.toInt,z.2.2.1] 76,.row 76 4 z.2.2.1 z.1 z.2.2.2]) (fun z => z.1 ≤ args.length ∧ HUp w H z.2.1 ∧ RepZ z.2.1 4 ((args.take z.1).map (dEx .u8)) z.2.2.2) (fun z => args.length - z.1) (0,H,.slice none 0 0,[]) (fun _ s => s) ⟨rfl,trivial⟩ ⟨by simp,.refl,RepZ.nil⟩ fun z hC => ?_
 obtain ⟨k,H1,r,xs⟩ := z;dsimp only at hC ⊢;obtain ⟨hk0,u1,hz⟩ := hC;refine .sr<|.yv (.lss Z Z) Z<|.nt<|.sq<|.cd Z (fun h18 => ?_) (fun h18 => ?_)
 ·try simp only [dt] at h18
  have hk : k < args.length := by omega
  obtain ⟨bE,oE,cE,hpE,rE,lE,mE⟩ := (hs.up u1.up).elem (map_at hk);cases hpE;have hnr1 := lalls_at hk hnr.2;refine .sk<|.tN<|.sq<|.bk<|.sr<|.yv (.indexSl Fx.sl24 Z Z Z (by omega) (q := oE + k * 4) Z) Z<|.yv (.loadMW Z Fx.agg83 mE lE) Z<|.al Fx.zero83 Z fun b5 => .sV .head Z Z Fx.size83 lE rE.one Z<|.nt<|.fl (trip := [(_,_,_),(_,_,_),(_,_,_),(_,_,_),(_,_,_)]) 5 [(0,0),(1,0),(2,0),(3,1),(4,1)] (by kernel_rfl) (by kernel_rfl) Z<|.yv (.fieldAddr Z Fx.field76_3) Z<|.yv (.load Z Fx.agg32 (.tail _<|.head _) Z) Z<|.yv (.loadW Z Fx.agg83 (.head _) lE) Z<|.ct (X := List Value) Fx.call39 Z (fun W s => ih _ (List.getElem_mem hk) hnr1 H1 cE W rE s.agr) Z fun x2 H2 hc2 u2 => ?_
  generalize hx : args[k] = x at hc2;obtain ⟨op2,nm2,n2,args2⟩ := x;obtain ⟨p2,c2,rfl,hs2,hnm2⟩ := ex_open hc2;refine .bl Z (Fx.bsl32_1 _ _ _ _) Z fun b25 => .fn (tl := [_,_,_]) Z<|.ap (news := [.int .u8 op2.toNat,strV nm2,.int .i64 n2.toInt,.slice p2 args2.length c2]) Fx.row32 Z (fun _ => (.tail<|.tail<|.tail<|.head)) Z (.box (.head _) z0) Z (by simp [Value.oneCell',strV]) (by simp [maxLen];omega) (by omega) Z fun r26 _ => ?_
  refine At.ra (.tail _ (.tail _ (.tail _ (.head _)))) fun p26 c26 e26 => ?_;exact .yv (.fieldAddr Z Fx.field76_3) Z<|.st (.tail<|.tail<|.head) Z Z Fx.size32 (by rw [e26];rfl) (nb Z) Z<|.nl<|.bN<|.tN<|.rg<|.yv (.add Z Z (w6 (by omega))) Z<|.m Z Z<|.nt<|.ag (x := (k,H1,r,xs)) (k + 1,H2,r26,xs ++ [.int .u8 op2.toNat,strV nm2,.int .i64 n2.toInt,.slice p2 args2.length c2]) ⟨rfl,trivial⟩ ⟨rfl,rfl,rfl,rfl,trivial⟩ (fun _ s => (s.pick [2,3,4,5] _ Z Z)) ⟨by dsimp only;omega,u1.trans u2,by dsimp only;rw [take_snoc hk,hx,List.map_append];exact (hz.up u2.up).snoc hc2 Z⟩ (by dsimp only;omega)
 try simp only [df] at h18
 obtain rfl : k = args.length := by omega
 rw [List.take_length] at hz;refine At.ra (.tail _ (.head _)) fun p26 c26 e26 => ?_;subst e26;refine .ex<|.tE<|.tE<|.bE<|.tN<|.sr<|.yv (.loadW Z Fx.agg76 (.head _) Z) Z<|.sW (.tail<|.tail<|.head) Z Z Fx.size76 (by simp [Value.oneCell',strV]) Z<|.nt<|.rt<|?_
 refine At.pm [1,2] [_,_] rfl rfl ?_;refine Sx.freezeSeq (ds := args.map (dEx .u8)) (by simp) hz fun H3 p3 c3 u3 hr3 hs3 => ?_;refine Sx.ret1 (.inl rfl) rfl (.cell rfl Fx.agg76 (.head _) rfl) fun W s => ⟨_,H3,ex_shut hnm hs3,rfl,(u1.trans u3).grow s⟩
theorem Fx.agg4 : aggN Tryz.prog 4 = Option.some Option.none := by kernel_rfl
theorem Fx.agg5 : aggN Tryz.prog 5 = Option.some Option.none := by kernel_rfl
theorem Fx.agg240 : aggN Tryz.prog 240 = Option.some (Option.some 5) := by kernel_rfl
theorem Fx.call128 : callN Tryz.prog 128 = Bool.true := by kernel_rfl
theorem Fx.call169 : callN Tryz.prog 169 = Bool.true := by kernel_rfl
theorem Fx.call170 : callN Tryz.prog 170 = Bool.true := by kernel_rfl
theorem Fx.field240_0 : fieldN Tryz.prog 240 0 = Option.some 0 := by kernel_rfl
theorem Fx.field240_1 : fieldN Tryz.prog 240 1 = Option.some 1 := by kernel_rfl
theorem Fx.field240_2 : fieldN Tryz.prog 240 2 = Option.some 2 := by kernel_rfl
theorem Fx.field240_3 : fieldN Tryz.prog 240 3 = Option.some 3 := by kernel_rfl
theorem Fx.field240_4 : fieldN Tryz.prog 240 4 = Option.some 4 := by kernel_rfl
theorem Fx.int5 : intN Tryz.prog 5 = Option.some Go.IntKind.u8 := by kernel_rfl
theorem Fx.row24 : rowN Tryz.prog 24 = Option.some (83,4,56) := by kernel_rfl
theorem Fx.size2 : sizeN Tryz.prog 2 = Option.some 1 := by kernel_rfl
theorem Fx.size9 : sizeN Tryz.prog 9 = Option.some 1 := by kernel_rfl
theorem Fx.size24 : sizeN Tryz.prog 24 = Option.some 1 := by kernel_rfl
theorem Fx.size240 : sizeN Tryz.prog 240 = Option.some 5 := by kernel_rfl
theorem Fx.sl149 : slN Tryz.prog 149 = Option.some 5 := by kernel_rfl
theorem Fx.zero240 : zeroN Tryz.prog 240 = Option.some
 [Go.Value.int Go.IntKind.u8 (Int.ofNat 0),Go.Value.int Go.IntKind.u8 (Int.ofNat 0),
  Go.Value.int Go.IntKind.u8 (Int.ofNat 0),Go.Value.bool Bool.false,Go.Value.int Go.IntKind.i64 (Int.ofNat 0)] := by kernel_rfl
theorem Fx.bld83_0 (x0 : Int) : buildN Tryz.prog 83 [(0,.int .i64 x0)] = some [.int .i64 x0,.string ⟨#[]⟩,.int .i64 0,.slice none 0 0] := by kernel_rfl
theorem Fx.bld83_0_2 (x0 : Int) (x2 : Int) : buildN Tryz.prog 83 [(0,.int .i64 x0),(2,.int .i64 x2)] = some [.int .i64 x0,.string ⟨#[]⟩,.int .i64 x2,.slice none 0 0] := by kernel_rfl
theorem Fx.bsl24_1 (x00 x01 x02 x03 : Value) : bslN Tryz.prog 24 1 [(0,.agg [x00,x01,x02,x03].toArray)] = some (83,[x00,x01,x02,x03]) := by kernel_rfl
def goodE (d : Nat) (e : Ex) : Prop := e.depth + d ≤ 32 ∧ Ex.all narrow e = true
def goodEs (d : Nat) (l : List Ex) : Prop := Ex.deeps l + (d + 1) ≤ 32 ∧ Ex.alls narrow l = true
theorem goodE_leaf {d : Nat} {op : UInt8} {nm : Str} {n : Int64} (h : d ≤ 31) : goodE d (.mk op nm n []) := ⟨by rw [depth_mk];simp only [Ex.deeps];omega,by rw [all_mk,narrow_mk];rfl⟩
theorem goodE_mk {d : Nat} {op : UInt8} {nm : Str} {n : Int64} {l : List Ex} : goodE d (.mk op nm n l) ↔ l.length ≤ 3 ∧ goodEs d l := by
 simp only [goodE,goodEs,depth_mk,all_mk,narrow_mk,Bool.and_eq_true,decide_eq_true_eq]
 constructor
 ·rintro ⟨h1,h2,h3⟩;exact ⟨h2,by omega,h3⟩
 ·rintro ⟨h1,h2,h3⟩;exact ⟨by omega,h1,h3⟩
theorem goodEs_nil (d : Nat) (h : d + 1 ≤ 32 := by omega) : goodEs d [] := ⟨by simp only [Ex.deeps];omega,rfl⟩
theorem goodEs_snoc {d : Nat} {l : List Ex} {e : Ex} (h : goodEs d l) (k : goodE (d + 1) e) : goodEs d (l ++ [e]) := by
 obtain ⟨h1,h2⟩ := h;obtain ⟨k1,k2⟩ := k;refine ⟨?_,?_⟩
 ·rw [deeps_app];simp only [Ex.deeps];omega
 ·rw [alls_app,h2];simp [Ex.alls,k2]
inductive Fm where
 | mk (op : UInt8) (nm fd : Str) (a b : Int64) (ex : List Ex) (args : List Fm)
def Fm.op : Fm → UInt8 | .mk op _ _ _ _ _ _ => op
def Fm.nm : Fm → Str | .mk _ nm _ _ _ _ _ => nm
def Fm.fd : Fm → Str | .mk _ _ fd _ _ _ _ => fd
def Fm.a : Fm → Int64 | .mk _ _ _ a _ _ _ => a
def Fm.b : Fm → Int64 | .mk _ _ _ _ b _ _ => b
def Fm.ex : Fm → List Ex | .mk _ _ _ _ _ ex _ => ex
def Fm.args : Fm → List Fm | .mk _ _ _ _ _ _ args => args
mutual
def dFm (k : IntKind) : Fm → D
 | .mk op nm fd a b ex args => .str [.val (.int k op.toNat),.val (strV nm),.val (strV fd),.val (.int .i64 a.toInt),.val (.int .i64 b.toInt),.seq 4 (ex.map (dEx k)),.seq 7 (dFms k args)]
def dFms (k : IntKind) : List Fm → List D
 | [] => []
 | f :: r => dFm k f :: dFms k r
end
theorem dFms_map (k : IntKind) : ∀ l,dFms k l = l.map (dFm k)
 | [] => rfl
 | e :: r => by rw [dFms,dFms_map k r];rfl
theorem dFm_mk (k : IntKind) (op : UInt8) (nm fd : Str) (a b : Int64) (ex : List Ex) (args : List Fm) : dFm k (.mk op nm fd a b ex args) = .str [.val (.int k op.toNat),.val (strV nm),.val (strV fd),.val (.int .i64 a.toInt),.val (.int .i64 b.toInt),.seq 4 (ex.map (dEx k)),.seq 7 (args.map (dFm k))] := by rw [dFm,dFms_map]
theorem Fm.ind {C : Fm → Prop} (h : ∀ op nm fd a b ex args,(∀ x ∈ args,C x) → C (.mk op nm fd a b ex args)) : ∀ e,C e
 | .mk op nm fd a b ex args => h op nm fd a b ex args fun x hx => Fm.ind h x
termination_by e => SizeOf.sizeOf e
decreasing_by
 have := List.sizeOf_lt_of_mem hx;simp;omega
section
variable {H : Hp}
abbrev cFm (k : IntKind) (op : UInt8) (nm fd : Str) (a b : Int64) (s1 s2 : Value) : List Value := [.int k op.toNat,strV nm,strV fd,.int .i64 a.toInt,.int .i64 b.toInt,s1,s2]
theorem fm_open {k : IntKind} {op : UInt8} {nm fd : Str} {a b : Int64} {ex : List Ex} {args : List Fm} {cs : List Value} (h : Rep H (dFm k (.mk op nm fd a b ex args)) cs) :
 ∃ p c p1 c1,cs = cFm k op nm fd a b (.slice p ex.length c) (.slice p1 args.length c1) ∧ Rep H (.seq 4 (ex.map (dEx k))) [.slice p ex.length c] ∧ Rep H (.seq 7 (args.map (dFm k))) [.slice p1 args.length c1] ∧ nm.length ≤ 1000000 ∧ fd.length ≤ 1000000 := by
 rw [dFm_mk,repS] at h;obtain ⟨_,rfl,_,_,h⟩ := repL_val.1 h;obtain ⟨_,rfl,_,hn,h⟩ := repL_val.1 h;obtain ⟨_,rfl,_,hm,h⟩ := repL_val.1 h;obtain ⟨_,rfl,_,_,h⟩ := repL_val.1 h;obtain ⟨_,rfl,_,_,h⟩ := repL_val.1 h;obtain ⟨p,c,_,rfl,hs,h⟩ := repL_seq.1 h;obtain ⟨p1,c1,_,rfl,hs1,h⟩ := repL_seq.1 h;rw [repL_nil] at h;subst h;rw [List.length_map] at hs hs1;exact ⟨p,c,p1,c1,by rw [List.length_map,List.length_map],hs,hs1,okS.1 hn,okS.1 hm⟩
theorem fm_shut {k : IntKind} {op : UInt8} {nm fd : Str} {a b : Int64} {ex : List Ex} {args : List Fm} {s s1 : Value} (hn : nm.length ≤ 1000000) (hm : fd.length ≤ 1000000) (h : Rep H (.seq 4 (ex.map (dEx k))) [s]) (h1 : Rep H (.seq 7 (args.map (dFm k))) [s1]) :
 Rep H (dFm k (.mk op nm fd a b ex args)) (cFm k op nm fd a b s s1) := by
 rw [dFm_mk,repS];exact repL_val.2 ⟨_,rfl,rfl,trivial,repL_val.2 ⟨_,rfl,rfl,okS.2 hn,repL_val.2 ⟨_,rfl,rfl,okS.2 hm,repL_val.2 ⟨_,rfl,rfl,trivial,repL_val.2 ⟨_,rfl,rfl,trivial,repL_cons.2 ⟨[s],_,rfl,h,repL_cons.2 ⟨[s1],[],rfl,h1,repL_nil.2 rfl⟩⟩⟩⟩⟩⟩⟩
theorem fm_len {k : IntKind} {f : Fm} {cs : List Value} (h : Rep H (dFm k f) cs) : cs.length = 7 := by
 obtain ⟨op,nm,fd,a,b,ex,args⟩ := f;obtain ⟨_,_,_,_,rfl,_⟩ := fm_open h
 rfl
end
mutual
def Fm.all (q : Fm → Bool) : Fm → Bool
 | .mk op nm fd a b ex args => q (.mk op nm fd a b ex args) && Fm.alls q args
def Fm.alls (q : Fm → Bool) : List Fm → Bool
 | [] => true
 | f :: r => Fm.all q f && Fm.alls q r
end
mutual
def Fm.depth : Fm → Nat
 | .mk _ _ _ _ _ _ args => Fm.deeps args + 1
def Fm.deeps : List Fm → Nat
 | [] => 0
 | f :: r => max (Fm.depth f) (Fm.deeps r)
end
mutual
def Ex.count : Ex → Nat
 | .mk _ _ _ args => Ex.counts args + 1
def Ex.counts : List Ex → Nat
 | [] => 0
 | e :: r => Ex.count e + Ex.counts r
end
mutual
def Fm.count : Fm → Nat
 | .mk _ _ _ _ _ ex args => Ex.counts ex + Fm.counts args + 1
def Fm.counts : List Fm → Nat
 | [] => 0
 | f :: r => Fm.count f + Fm.counts r
end
structure Fs where
 lv : Nat
 nm : Bool
 fd : Bool
 wn : Bool
 am : Bool
 ex : Nat
 ar : Nat
def zFs : Fs := ⟨0,false,false,false,false,0,0⟩
def fshapes : List Fs := [zFs,⟨6,false,false,false,false,0,0⟩,⟨6,false,false,false,false,0,0⟩,⟨6,false,false,false,false,1,0⟩,⟨6,true,true,false,false,0,0⟩,⟨6,true,true,false,false,1,0⟩,⟨6,true,false,false,false,0,0⟩,⟨6,true,true,false,false,0,0⟩,
 ⟨5,false,false,false,false,0,1⟩,⟨3,false,false,false,false,0,2⟩,⟨2,false,false,false,false,0,2⟩,⟨1,false,false,false,false,0,2⟩,⟨5,false,false,false,false,0,1⟩,⟨5,false,false,true,false,0,1⟩,⟨5,false,false,true,false,0,1⟩,⟨4,false,false,true,false,0,2⟩,
 ⟨5,true,false,false,true,0,1⟩,⟨5,true,false,false,true,0,1⟩,⟨5,true,false,false,true,1,1⟩]
def fsOf (op : UInt8) : Fs := fshapes.getD op.toNat zFs
def splitF : Str → Option (Str × Str)
 | [] => none
 | c :: r => if c = 46 then some ([],r) else (splitF r).map fun x => (c :: x.1,x.2)
def bothB (n : Str) : Bool := match splitF n with | some (a,b) => nameB a && nameB b | none => false
def shalB (f : Fm) : Bool := !f.ex.any fun e => decide ((if f.op = 3 then 9 else 8) < e.depth)
mutual
def misB : Ex → Bool
 | .mk op nm _ args => (decide (op = 5) && !bothB nm && !nameB nm) || ((decide (op = 6) || decide (op = 8)) && !bothB nm) || misBs args
def misBs : List Ex → Bool
 | [] => false
 | e :: r => misB e || misBs r
end
def namdB (f : Fm) : Bool := !((fsOf f.op).nm && !nameB f.nm || (fsOf f.op).fd && !nameB f.fd) && !misBs f.ex
mutual
def termB : Ex → Bool
 | .mk op nm n args =>
  if op = 1 then decide (nm = []) && decide (0 ≤ n.toInt) && decide (args.length = 0)
  else if op = 4 then decide (nm = []) && decide (n = 0) && decide (args.length = 0)
  else if op = 5 ∨ op = 8 then decide (n = 0) && decide (args.length = 0)
  else if op = 6 then decide (n = 0) && (termBs args && decide (args.length = 1))
  else if op = 9 then decide (nm = []) && decide (n = 0) && (termBs args && decide (args.length = 1))
  else if op = 11 ∨ op = 12 ∨ op = 13 ∨ op = 14 ∨ op = 15 then decide (nm = []) && decide (n = 0) && (termBs args && decide (args.length = 2))
  else false
def termBs : List Ex → Bool
 | [] => true
 | e :: r => termB e && termBs r
end
def anyB : Ex → Bool
 | .mk op nm n args => decide (op = 0) && decide (nm = []) && decide (n = 0) && decide (args.length = 0)
def cmpB : Ex → Bool
 | .mk op nm n args => decide (16 ≤ op.toNat) && decide (op.toNat ≤ 21) && decide (nm = []) && decide (n = 0) && (termBs args && decide (args.length = 2))
def bndB (f : Fm) : Bool :=
 if (fsOf f.op).wn then (decide (f.a = 0) && decide (f.b.toInt = -1)) || (decide (0 ≤ f.a.toInt) && decide (f.a.toInt ≤ f.b.toInt) && decide (f.b.toInt ≤ 200))
 else if (fsOf f.op).am then decide (-1000000 ≤ f.a.toInt) && decide (f.a.toInt ≤ f.b.toInt) && decide (f.b.toInt ≤ 1000000) && decide (f.b.toInt - f.a.toInt < 32)
 else decide (f.a = 0) && decide (f.b = 0)
def exsB (f : Fm) : Bool :=
 if f.op = 7 then decide (f.ex.length ≤ 4) && f.ex.all fun e => anyB e || termB e
 else decide (f.ex.length = (fsOf f.op).ex) && (if f.op = 3 then cmpB (f.ex.headD (.mk 0 [] 0 [])) else if f.op = 5 then termB (f.ex.headD (.mk 0 [] 0 []))
  else if f.op = 18 then decide ((f.ex.headD (.mk 0 [] 0 [])).op = 1) && termB (f.ex.headD (.mk 0 [] 0 [])) && decide ((f.ex.headD (.mk 0 [] 0 [])).n.toInt ≤ 32) else true)
def formB (f : Fm) : Bool :=
 decide (¬ (fsOf f.op).lv = 0) && ((fsOf f.op).nm || decide (f.nm = [])) && ((fsOf f.op).fd || decide (f.fd = [])) && decide (f.args.length = (fsOf f.op).ar) && bndB f && exsB f
def fcheck (f : Fm) : Nat := if 60 < Fm.count f ∨ Fm.all shalB f = false then 3 else if Fm.all namdB f = false then 9 else if Fm.all formB f = false then 6 else 0
theorem ex_count (op : UInt8) (nm : Str) (n : Int64) (args : List Ex) : Ex.count (.mk op nm n args) = Ex.counts args + 1 := by rw [Ex.count]
theorem fm_count (op : UInt8) (nm fd : Str) (a b : Int64) (ex : List Ex) (args : List Fm) : Fm.count (.mk op nm fd a b ex args) = Ex.counts ex + Fm.counts args + 1 := by rw [Fm.count]
theorem ex_counts_app : ∀ (l m : List Ex),Ex.counts (l ++ m) = Ex.counts l + Ex.counts m
 | [],m => by rw [List.nil_append,Ex.counts,Nat.zero_add]
 | e :: l,m => by rw [List.cons_append,Ex.counts,Ex.counts,ex_counts_app l m,Nat.add_assoc]
theorem fm_counts_app : ∀ (l m : List Fm),Fm.counts (l ++ m) = Fm.counts l + Fm.counts m
 | [],m => by rw [List.nil_append,Fm.counts,Nat.zero_add]
 | e :: l,m => by rw [List.cons_append,Fm.counts,Fm.counts,fm_counts_app l m,Nat.add_assoc]
theorem ex_pos (e : Ex) : 1 ≤ e.count := by obtain ⟨op,nm,n,args⟩ := e;rw [ex_count];omega
theorem fm_pos (f : Fm) : 1 ≤ f.count := by obtain ⟨op,nm,fd,a,b,ex,args⟩ := f;rw [fm_count];omega
theorem ex_len : ∀ l : List Ex,l.length ≤ Ex.counts l
 | [] => Nat.zero_le _
 | e :: l => by rw [Ex.counts,List.length_cons];have := ex_len l;have := ex_pos e;omega
theorem fm_len' : ∀ l : List Fm,l.length ≤ Fm.counts l
 | [] => Nat.zero_le _
 | e :: l => by rw [Fm.counts,List.length_cons];have := fm_len' l;have := fm_pos e;omega
theorem ex_depth_le (e : Ex) : e.depth ≤ e.count := by
 induction e using Ex.ind with | _ op nm n args ih
 rw [depth_mk,ex_count]
 have : Ex.deeps args ≤ Ex.counts args := by
  clear n nm op;induction args with
  | nil => rw [Ex.deeps];exact Nat.zero_le _
  | cons a r ih2 =>
   rw [Ex.deeps,Ex.counts];have h1 := ih a (List.mem_cons_self ..);have h2 := ih2 fun x hx => ih x (List.mem_cons_of_mem _ hx);omega
 omega
theorem ex_mem_count : ∀ {l : List Ex} {e : Ex},e ∈ l → e.count ≤ Ex.counts l
 | a :: r,e,h => by
  rw [Ex.counts];rcases List.mem_cons.1 h with rfl | h
  ·omega
  ·have := ex_mem_count h;omega
theorem fm_mem_count : ∀ {l : List Fm} {e : Fm},e ∈ l → e.count ≤ Fm.counts l
 | a :: r,e,h => by
  rw [Fm.counts];rcases List.mem_cons.1 h with rfl | h
  ·omega
  ·have := fm_mem_count h;omega
theorem fm_allsL (q : Fm → Bool) : ∀ l,Fm.alls q l = l.all (Fm.all q)
 | [] => rfl
 | f :: r => by rw [Fm.alls,List.all_cons,fm_allsL q r]
theorem fm_allL (q : Fm → Bool) (op : UInt8) (nm fd : Str) (a b : Int64) (ex : List Ex) (args : List Fm) : Fm.all q (.mk op nm fd a b ex args) = (q (.mk op nm fd a b ex args) && args.all (Fm.all q)) := by rw [Fm.all,fm_allsL]
theorem fm_all_true (f : Fm) : Fm.all (fun _ => true) f = true := by
 induction f using Fm.ind with | _ op nm fd a b ex args ih
 rw [fm_allL,Bool.true_and];exact List.all_eq_true.2 ih
def depB (f : Fm) : Bool := f.ex.all fun e => decide (e.depth ≤ 1000000)
theorem fm_all_dep (f : Fm) (h : f.count ≤ 1000000) : Fm.all depB f = true := by
 induction f using Fm.ind with | _ op nm fd a b ex args ih
 rw [fm_count] at h;rw [fm_allL,Bool.and_eq_true];refine ⟨List.all_eq_true.2 fun e he => decide_eq_true ?_,List.all_eq_true.2 fun x hx => ih x hx ?_⟩
 ·have h1 := ex_mem_count (l := ex) he;have h2 := ex_depth_le e;omega
 ·have h1 := fm_mem_count hx;omega
def blE (N : Nat) (e : Ex) : Bool := Ex.all (fun e => decide (e.args.length ≤ N)) e
def blF (N : Nat) (f : Fm) : Bool := Fm.all (fun f => decide (f.ex.length ≤ N) && decide (f.args.length ≤ N) && f.ex.all (blE N)) f
theorem alls_allE (q : Ex → Bool) : ∀ l,Ex.alls q l = l.all (Ex.all q)
 | [] => rfl
 | e :: r => by rw [Ex.alls,List.all_cons,alls_allE q r]
theorem blE_mk {N : Nat} {op : UInt8} {nm : Str} {n : Int64} {args : List Ex} : blE N (.mk op nm n args) = true ↔ args.length ≤ N ∧ ∀ a ∈ args,blE N a = true := by
 unfold blE;rw [all_mk,alls_allE,Bool.and_eq_true,decide_eq_true_eq,List.all_eq_true];rfl
theorem blF_mk {N : Nat} {op : UInt8} {nm fd : Str} {a b : Int64} {ex : List Ex} {args : List Fm} : blF N (.mk op nm fd a b ex args) = true ↔ (ex.length ≤ N ∧ args.length ≤ N ∧ ∀ e ∈ ex,blE N e = true) ∧ ∀ g ∈ args,blF N g = true := by
 unfold blF;rw [fm_allL,Bool.and_eq_true,Bool.and_eq_true,Bool.and_eq_true,decide_eq_true_eq,decide_eq_true_eq,List.all_eq_true,List.all_eq_true];exact ⟨fun h => ⟨⟨h.1.1.1,h.1.1.2,h.1.2⟩,h.2⟩,fun h => ⟨⟨⟨h.1.1,h.1.2.1⟩,h.1.2.2⟩,h.2⟩⟩
theorem Fx.row71 : rowN Tryz.prog 71 = Option.some (9,1,16) := by kernel_rfl
theorem Fx.bsl71_1 (x0 : ByteArray) : bslN Tryz.prog 71 1 [(0,.string x0)] = some (9,[.string x0]) := by kernel_rfl
theorem Fx.bld83_0_3 (x0 : Int) (x3p : Option Addr) (x3n x3c : Nat) : buildN Tryz.prog 83 [(0,.int .i64 x0),(3,.slice x3p x3n x3c)] = some [.int .i64 x0,.string ⟨#[]⟩,.int .i64 0,.slice x3p x3n x3c] := by kernel_rfl
theorem Fx.bsl24_2 (x00 x01 x02 x03 : Value) (x10 x11 x12 x13 : Value) : bslN Tryz.prog 24 2 [(0,.agg [x00,x01,x02,x03].toArray),(1,.agg [x10,x11,x12,x13].toArray)] = some (83,[x00,x01,x02,x03,x10,x11,x12,x13]) := by kernel_rfl
theorem Fx.agg74 : aggN Tryz.prog 74 = Option.some Option.none := by kernel_rfl
theorem Fx.field76_0 : fieldN Tryz.prog 76 0 = Option.some 0 := by kernel_rfl
theorem Fx.field76_1 : fieldN Tryz.prog 76 1 = Option.some 1 := by kernel_rfl
theorem Fx.field76_2 : fieldN Tryz.prog 76 2 = Option.some 2 := by kernel_rfl
theorem Fx.agg29 : aggN Tryz.prog 29 = Option.some Option.none := by kernel_rfl
theorem Fx.agg99 : aggN Tryz.prog 99 = Option.some Option.none := by kernel_rfl
theorem Fx.agg106 : aggN Tryz.prog 106 = Option.some Option.none := by kernel_rfl
theorem Fx.agg108 : aggN Tryz.prog 108 = Option.some (Option.some 3) := by kernel_rfl
theorem Fx.call98 : callN Tryz.prog 98 = Bool.true := by kernel_rfl
theorem Fx.field102_0 : fieldN Tryz.prog 102 0 = Option.some 0 := by kernel_rfl
theorem Fx.field102_1 : fieldN Tryz.prog 102 1 = Option.some 1 := by kernel_rfl
theorem Fx.field102_7 : fieldN Tryz.prog 102 7 = Option.some 7 := by kernel_rfl
theorem Fx.field102_8 : fieldN Tryz.prog 102 8 = Option.some 8 := by kernel_rfl
theorem Fx.field108_0 : fieldN Tryz.prog 108 0 = Option.some 0 := by kernel_rfl
theorem Fx.field108_1 : fieldN Tryz.prog 108 1 = Option.some 1 := by kernel_rfl
theorem Fx.size3 : sizeN Tryz.prog 3 = Option.some 1 := by kernel_rfl
theorem Fx.size29 : sizeN Tryz.prog 29 = Option.some 1 := by kernel_rfl
theorem Fx.size108 : sizeN Tryz.prog 108 = Option.some 3 := by kernel_rfl
theorem Fx.sl99 : slN Tryz.prog 99 = Option.some 3 := by kernel_rfl
theorem Fx.zero108 : zeroN Tryz.prog 108 = Option.some
 [Go.Value.int Go.IntKind.u8 (Int.ofNat 0),Go.Value.string { data := { toList := [] } },
  Go.Value.int Go.IntKind.i64 (Int.ofNat 0)] := by kernel_rfl
theorem Fx.call100 : callN Tryz.prog 100 = Bool.true := by kernel_rfl
theorem Fx.call104 : callN Tryz.prog 104 = Bool.true := by kernel_rfl
theorem Fx.call107 : callN Tryz.prog 107 = Bool.true := by kernel_rfl
theorem Fx.agg35 : aggN Tryz.prog 35 = Option.some (Option.some 7) := by kernel_rfl
theorem Fx.call110 : callN Tryz.prog 110 = Bool.true := by kernel_rfl
theorem Fx.call113 : callN Tryz.prog 113 = Bool.true := by kernel_rfl
theorem Fx.call114 : callN Tryz.prog 114 = Bool.true := by kernel_rfl
theorem Fx.call158 : callN Tryz.prog 158 = Bool.true := by kernel_rfl
theorem Fx.call180 : callN Tryz.prog 180 = Bool.true := by kernel_rfl
theorem Fx.field35_2 : fieldN Tryz.prog 35 2 = Option.some 2 := by kernel_rfl
theorem Fx.field35_3 : fieldN Tryz.prog 35 3 = Option.some 3 := by kernel_rfl
theorem Fx.field35_4 : fieldN Tryz.prog 35 4 = Option.some 4 := by kernel_rfl
theorem Fx.int2 : intN Tryz.prog 2 = Option.some Go.IntKind.i64 := by kernel_rfl
theorem Fx.size35 : sizeN Tryz.prog 35 = Option.some 7 := by kernel_rfl
theorem Fx.zero35 : zeroN Tryz.prog 35 = Option.some
 [Go.Value.int Go.IntKind.u8 (Int.ofNat 0),Go.Value.string { data := { toList := [] } },
  Go.Value.string { data := { toList := [] } },Go.Value.int Go.IntKind.i64 (Int.ofNat 0),
  Go.Value.int Go.IntKind.i64 (Int.ofNat 0),Go.Value.slice Option.none 0 0,Go.Value.slice Option.none 0 0] := by kernel_rfl
theorem Fx.bld35_0_1 (x0 : Int) (x1 : ByteArray) : buildN Tryz.prog 35 [(0,.int .u8 x0),(1,.string x1)] = some [.int .u8 x0,.string x1,.string ⟨#[]⟩,.int .i64 0,.int .i64 0,.slice none 0 0,.slice none 0 0] := by kernel_rfl
theorem Fx.bld35_0_4 (x0 : Int) (x4 : Int) : buildN Tryz.prog 35 [(0,.int .u8 x0),(4,.int .i64 x4)] = some [.int .u8 x0,.string ⟨#[]⟩,.string ⟨#[]⟩,.int .i64 0,.int .i64 x4,.slice none 0 0,.slice none 0 0] := by kernel_rfl
theorem Fx.agg97 : aggN Tryz.prog 97 = Option.some (Option.some 11) := by kernel_rfl
theorem Fx.agg98 : aggN Tryz.prog 98 = Option.some Option.none := by kernel_rfl
theorem Fx.agg100 : aggN Tryz.prog 100 = Option.some Option.none := by kernel_rfl
theorem Fx.agg179 : aggN Tryz.prog 179 = Option.some (Option.some 13) := by kernel_rfl
theorem Fx.call105 : callN Tryz.prog 105 = Bool.true := by kernel_rfl
theorem Fx.field97_1 : fieldN Tryz.prog 97 1 = Option.some 1 := by kernel_rfl
theorem Fx.field97_2 : fieldN Tryz.prog 97 2 = Option.some 2 := by kernel_rfl
theorem Fx.field102_2 : fieldN Tryz.prog 102 2 = Option.some 2 := by kernel_rfl
theorem Fx.field102_3 : fieldN Tryz.prog 102 3 = Option.some 3 := by kernel_rfl
theorem Fx.field102_4 : fieldN Tryz.prog 102 4 = Option.some 4 := by kernel_rfl
theorem Fx.row98 : rowN Tryz.prog 98 = Option.some (97,11,128) := by kernel_rfl
theorem Fx.row100 : rowN Tryz.prog 100 = Option.some (179,13,168) := by kernel_rfl
theorem Fx.size4 : sizeN Tryz.prog 4 = Option.some 1 := by kernel_rfl
theorem Fx.size98 : sizeN Tryz.prog 98 = Option.some 1 := by kernel_rfl
theorem Fx.size100 : sizeN Tryz.prog 100 = Option.some 1 := by kernel_rfl
theorem Fx.size179 : sizeN Tryz.prog 179 = Option.some 13 := by kernel_rfl
theorem Fx.sl98 : slN Tryz.prog 98 = Option.some 11 := by kernel_rfl
theorem Fx.sl100 : slN Tryz.prog 100 = Option.some 13 := by kernel_rfl
theorem Fx.zero179 : zeroN Tryz.prog 179 = Option.some
 [Go.Value.bool Bool.false,Go.Value.bool Bool.false,Go.Value.int Go.IntKind.u8 (Int.ofNat 0),
  Go.Value.string { data := { toList := [] } },Go.Value.int Go.IntKind.i64 (Int.ofNat 0),
  Go.Value.slice Option.none 0 0,Go.Value.int Go.IntKind.u8 (Int.ofNat 0),
  Go.Value.string { data := { toList := [] } },Go.Value.string { data := { toList := [] } },
  Go.Value.int Go.IntKind.i64 (Int.ofNat 0),Go.Value.int Go.IntKind.i64 (Int.ofNat 0),
  Go.Value.slice Option.none 0 0,Go.Value.slice Option.none 0 0] := by kernel_rfl
theorem Fx.bsl100_1 (x00 x01 x02 x03 x04 x05 x06 x07 x08 x09 x010 x011 x012 : Value) : bslN Tryz.prog 100 1 [(0,.agg [x00,x01,x02,x03,x04,x05,x06,x07,x08,x09,x010,x011,x012].toArray)] = some (179,[x00,x01,x02,x03,x04,x05,x06,x07,x08,x09,x010,x011,x012]) := by kernel_rfl
theorem Fx.bsl98_1 (x00 x01 x02 x03 x04 x05 x06 x07 x08 x09 x010 : Value) : bslN Tryz.prog 98 1 [(0,.agg [x00,x01,x02,x03,x04,x05,x06,x07,x08,x09,x010].toArray)] = some (97,[x00,x01,x02,x03,x04,x05,x06,x07,x08,x09,x010]) := by kernel_rfl
theorem Fx.call20 : callN Tryz.prog 20 = Bool.true := by kernel_rfl
theorem Fx.call49 : callN Tryz.prog 49 = Bool.true := by kernel_rfl
theorem Fx.call94 : callN Tryz.prog 94 = Bool.true := by kernel_rfl
theorem Fx.call108 : callN Tryz.prog 108 = Bool.true := by kernel_rfl
theorem Fx.call116 : callN Tryz.prog 116 = Bool.true := by kernel_rfl
theorem Fx.call145 : callN Tryz.prog 145 = Bool.true := by kernel_rfl
theorem Fx.field102_6 : fieldN Tryz.prog 102 6 = Option.some 6 := by kernel_rfl
theorem Fx.field179_0 : fieldN Tryz.prog 179 0 = Option.some 0 := by kernel_rfl
theorem Fx.field179_2 : fieldN Tryz.prog 179 2 = Option.some 2 := by kernel_rfl
theorem Fx.field179_3 : fieldN Tryz.prog 179 3 = Option.some 6 := by kernel_rfl
theorem Fx.bld35_0_1_2 (x0 : Int) (x1 : ByteArray) (x2 : ByteArray) : buildN Tryz.prog 35 [(0,.int .u8 x0),(1,.string x1),(2,.string x2)] = some [.int .u8 x0,.string x1,.string x2,.int .i64 0,.int .i64 0,.slice none 0 0,.slice none 0 0] := by kernel_rfl
theorem Fx.agg95 : aggN Tryz.prog 95 = Option.some Option.none := by kernel_rfl
theorem Fx.call57 : callN Tryz.prog 57 = Bool.true := by kernel_rfl
theorem Fx.call155 : callN Tryz.prog 155 = Bool.true := by kernel_rfl
theorem Fx.field35_6 : fieldN Tryz.prog 35 6 = Option.some 6 := by kernel_rfl
theorem Fx.field97_0 : fieldN Tryz.prog 97 0 = Option.some 0 := by kernel_rfl
theorem Fx.field97_3 : fieldN Tryz.prog 97 3 = Option.some 3 := by kernel_rfl
theorem Fx.field97_4 : fieldN Tryz.prog 97 4 = Option.some 4 := by kernel_rfl
theorem Fx.size33 : sizeN Tryz.prog 33 = Option.some 1 := by kernel_rfl
theorem Fx.size97 : sizeN Tryz.prog 97 = Option.some 11 := by kernel_rfl
theorem Fx.zero97 : zeroN Tryz.prog 97 = Option.some
 [Go.Value.int Go.IntKind.u8 (Int.ofNat 0),Go.Value.int Go.IntKind.i64 (Int.ofNat 0),Go.Value.bool Bool.false,
  Go.Value.int Go.IntKind.u8 (Int.ofNat 0),Go.Value.int Go.IntKind.u8 (Int.ofNat 0),
  Go.Value.string { data := { toList := [] } },Go.Value.string { data := { toList := [] } },
  Go.Value.int Go.IntKind.i64 (Int.ofNat 0),Go.Value.int Go.IntKind.i64 (Int.ofNat 0),
  Go.Value.slice Option.none 0 0,Go.Value.slice Option.none 0 0] := by kernel_rfl
theorem Fx.bld179_0_2 (x0 : Bool) (x20 x21 x22 x23 : Value) : buildN Tryz.prog 179 [(0,.bool x0),(2,.agg [x20,x21,x22,x23].toArray)] = some [.bool x0,.bool false,x20,x21,x22,x23,.int .u8 0,.string ⟨#[]⟩,.string ⟨#[]⟩,.int .i64 0,.int .i64 0,.slice none 0 0,.slice none 0 0] := by kernel_rfl
theorem Fx.bld179_3 (x30 x31 x32 x33 x34 x35 x36 : Value) : buildN Tryz.prog 179 [(3,.agg [x30,x31,x32,x33,x34,x35,x36].toArray)] = some [.bool false,.bool false,.int .u8 0,.string ⟨#[]⟩,.int .i64 0,.slice none 0 0,x30,x31,x32,x33,x34,x35,x36] := by kernel_rfl
theorem Fx.bld35_0_5 (x0 : Int) (x5p : Option Addr) (x5n x5c : Nat) : buildN Tryz.prog 35 [(0,.int .u8 x0),(5,.slice x5p x5n x5c)] = some [.int .u8 x0,.string ⟨#[]⟩,.string ⟨#[]⟩,.int .i64 0,.int .i64 0,.slice x5p x5n x5c,.slice none 0 0] := by kernel_rfl
theorem Fx.bld76_0_3 (x0 : Int) (x3p : Option Addr) (x3n x3c : Nat) : buildN Tryz.prog 76 [(0,.int .u8 x0),(3,.slice x3p x3n x3c)] = some [.int .u8 x0,.string ⟨#[]⟩,.int .i64 0,.slice x3p x3n x3c] := by kernel_rfl
theorem Fx.bsl32_2 (x00 x01 x02 x03 : Value) (x10 x11 x12 x13 : Value) : bslN Tryz.prog 32 2 [(0,.agg [x00,x01,x02,x03].toArray),(1,.agg [x10,x11,x12,x13].toArray)] = some (76,[x00,x01,x02,x03,x10,x11,x12,x13]) := by kernel_rfl
theorem Fx.bsl33_1 (x00 x01 x02 x03 x04 x05 x06 : Value) : bslN Tryz.prog 33 1 [(0,.agg [x00,x01,x02,x03,x04,x05,x06].toArray)] = some (35,[x00,x01,x02,x03,x04,x05,x06]) := by kernel_rfl
theorem Fx.bsl33_2 (x00 x01 x02 x03 x04 x05 x06 : Value) (x10 x11 x12 x13 x14 x15 x16 : Value) : bslN Tryz.prog 33 2 [(0,.agg [x00,x01,x02,x03,x04,x05,x06].toArray),(1,.agg [x10,x11,x12,x13,x14,x15,x16].toArray)] = some (35,[x00,x01,x02,x03,x04,x05,x06,x10,x11,x12,x13,x14,x15,x16]) := by kernel_rfl
theorem Fx.call109 : callN Tryz.prog 109 = Bool.true := by kernel_rfl
theorem Fx.call112 : callN Tryz.prog 112 = Bool.true := by kernel_rfl
theorem Fx.call154 : callN Tryz.prog 154 = Bool.true := by kernel_rfl
theorem Fx.call157 : callN Tryz.prog 157 = Bool.true := by kernel_rfl
theorem Fx.bld35_0 (x0 : Int) : buildN Tryz.prog 35 [(0,.int .u8 x0)] = some [.int .u8 x0,.string ⟨#[]⟩,.string ⟨#[]⟩,.int .i64 0,.int .i64 0,.slice none 0 0,.slice none 0 0] := by kernel_rfl
theorem Fx.bld35_1 (x1 : ByteArray) : buildN Tryz.prog 35 [(1,.string x1)] = some [.int .u8 0,.string x1,.string ⟨#[]⟩,.int .i64 0,.int .i64 0,.slice none 0 0,.slice none 0 0] := by kernel_rfl
theorem Fx.bld76_0_1 (x0 : Int) (x1 : ByteArray) : buildN Tryz.prog 76 [(0,.int .u8 x0),(1,.string x1)] = some [.int .u8 x0,.string x1,.int .i64 0,.slice none 0 0] := by kernel_rfl
theorem Fx.bld97_0_1_4 (x0 : Int) (x1 : Int) (x40 x41 x42 x43 x44 x45 x46 : Value) : buildN Tryz.prog 97 [(0,.int .u8 x0),(1,.int .i64 x1),(4,.agg [x40,x41,x42,x43,x44,x45,x46].toArray)] = some [.int .u8 x0,.int .i64 x1,.bool false,.int .u8 0,x40,x41,x42,x43,x44,x45,x46] := by kernel_rfl
theorem Fx.bld97_0_2_3_4 (x0 : Int) (x2 : Bool) (x3 : Int) (x40 x41 x42 x43 x44 x45 x46 : Value) : buildN Tryz.prog 97 [(0,.int .u8 x0),(2,.bool x2),(3,.int .u8 x3),(4,.agg [x40,x41,x42,x43,x44,x45,x46].toArray)] = some [.int .u8 x0,.int .i64 0,.bool x2,.int .u8 x3,x40,x41,x42,x43,x44,x45,x46] := by kernel_rfl
theorem Fx.bld97_0_2_4 (x0 : Int) (x2 : Bool) (x40 x41 x42 x43 x44 x45 x46 : Value) : buildN Tryz.prog 97 [(0,.int .u8 x0),(2,.bool x2),(4,.agg [x40,x41,x42,x43,x44,x45,x46].toArray)] = some [.int .u8 x0,.int .i64 0,.bool x2,.int .u8 0,x40,x41,x42,x43,x44,x45,x46] := by kernel_rfl
theorem Fx.bld97_0_4 (x0 : Int) (x40 x41 x42 x43 x44 x45 x46 : Value) : buildN Tryz.prog 97 [(0,.int .u8 x0),(4,.agg [x40,x41,x42,x43,x44,x45,x46].toArray)] = some [.int .u8 x0,.int .i64 0,.bool false,.int .u8 0,x40,x41,x42,x43,x44,x45,x46] := by kernel_rfl
theorem Fx.call106 : callN Tryz.prog 106 = Bool.true := by kernel_rfl
theorem Fx.call111 : callN Tryz.prog 111 = Bool.true := by kernel_rfl
theorem Fx.call115 : callN Tryz.prog 115 = Bool.true := by kernel_rfl
theorem Fx.field35_1 : fieldN Tryz.prog 35 1 = Option.some 1 := by kernel_rfl
theorem Fx.bld179_0_1 (x0 : Bool) (x1 : Bool) : buildN Tryz.prog 179 [(0,.bool x0),(1,.bool x1)] = some [.bool x0,.bool x1,.int .u8 0,.string ⟨#[]⟩,.int .i64 0,.slice none 0 0,.int .u8 0,.string ⟨#[]⟩,.string ⟨#[]⟩,.int .i64 0,.int .i64 0,.slice none 0 0,.slice none 0 0] := by kernel_rfl
theorem Fx.bld76_0 (x0 : Int) : buildN Tryz.prog 76 [(0,.int .u8 x0)] = some [.int .u8 x0,.string ⟨#[]⟩,.int .i64 0,.slice none 0 0] := by kernel_rfl
theorem Fx.bld76_0_2 (x0 : Int) (x2 : Int) : buildN Tryz.prog 76 [(0,.int .u8 x0),(2,.int .i64 x2)] = some [.int .u8 x0,.string ⟨#[]⟩,.int .i64 x2,.slice none 0 0] := by kernel_rfl
theorem Fx.bld97_0 (x0 : Int) : buildN Tryz.prog 97 [(0,.int .u8 x0)] = some [.int .u8 x0,.int .i64 0,.bool false,.int .u8 0,.int .u8 0,.string ⟨#[]⟩,.string ⟨#[]⟩,.int .i64 0,.int .i64 0,.slice none 0 0,.slice none 0 0] := by kernel_rfl
theorem Fx.bld97_0_1 (x0 : Int) (x1 : Int) : buildN Tryz.prog 97 [(0,.int .u8 x0),(1,.int .i64 x1)] = some [.int .u8 x0,.int .i64 x1,.bool false,.int .u8 0,.int .u8 0,.string ⟨#[]⟩,.string ⟨#[]⟩,.int .i64 0,.int .i64 0,.slice none 0 0,.slice none 0 0] := by kernel_rfl
theorem Fx.agg157 : aggN Tryz.prog 157 = Option.some (Option.some 7) := by kernel_rfl
theorem Fx.arr200 : arrN Tryz.prog 200 = Option.some (19,7) := by kernel_rfl
theorem Fx.call102 : callN Tryz.prog 102 = Bool.true := by kernel_rfl
theorem Fx.field179_1 : fieldN Tryz.prog 179 1 = Option.some 1 := by kernel_rfl
theorem Fx.size95 : sizeN Tryz.prog 95 = Option.some 1 := by kernel_rfl
theorem Fx.size157 : sizeN Tryz.prog 157 = Option.some 7 := by kernel_rfl
theorem Fx.zero157 : zeroN Tryz.prog 157 = Option.some
 [Go.Value.int Go.IntKind.u8 (Int.ofNat 0),Go.Value.bool Bool.false,Go.Value.bool Bool.false,
  Go.Value.bool Bool.false,Go.Value.bool Bool.false,Go.Value.int Go.IntKind.u8 (Int.ofNat 0),
  Go.Value.int Go.IntKind.u8 (Int.ofNat 0)] := by kernel_rfl
theorem Fx.bld157  : buildN Tryz.prog 157 [] = some [.int .u8 0,.bool false,.bool false,.bool false,.bool false,.int .u8 0,.int .u8 0] := by kernel_rfl
theorem Fx.bld97_0_1_3 (x0 : Int) (x1 : Int) (x3 : Int) : buildN Tryz.prog 97 [(0,.int .u8 x0),(1,.int .i64 x1),(3,.int .u8 x3)] = some [.int .u8 x0,.int .i64 x1,.bool false,.int .u8 x3,.int .u8 0,.string ⟨#[]⟩,.string ⟨#[]⟩,.int .i64 0,.int .i64 0,.slice none 0 0,.slice none 0 0] := by kernel_rfl
theorem Fx.agg31 : aggN Tryz.prog 31 = Option.some Option.none := by kernel_rfl
theorem Fx.call74 : callN Tryz.prog 74 = Bool.true := by kernel_rfl
theorem Fx.field35_0 : fieldN Tryz.prog 35 0 = Option.some 0 := by kernel_rfl
theorem Fx.call156 : callN Tryz.prog 156 = Bool.true := by kernel_rfl
theorem Fx.field35_5 : fieldN Tryz.prog 35 5 = Option.some 5 := by kernel_rfl
theorem Fx.field102_5 : fieldN Tryz.prog 102 5 = Option.some 5 := by kernel_rfl
theorem Fx.bld179_1_3 (x1 : Bool) (x30 x31 x32 x33 x34 x35 x36 : Value) : buildN Tryz.prog 179 [(1,.bool x1),(3,.agg [x30,x31,x32,x33,x34,x35,x36].toArray)] = some [.bool false,.bool x1,.int .u8 0,.string ⟨#[]⟩,.int .i64 0,.slice none 0 0,x30,x31,x32,x33,x34,x35,x36] := by kernel_rfl
theorem Fx.bld76_0_1_3 (x0 : Int) (x1 : ByteArray) (x3p : Option Addr) (x3n x3c : Nat) : buildN Tryz.prog 76 [(0,.int .u8 x0),(1,.string x1),(3,.slice x3p x3n x3c)] = some [.int .u8 x0,.string x1,.int .i64 0,.slice x3p x3n x3c] := by kernel_rfl
theorem Fx.agg165 : aggN Tryz.prog 165 = Option.some (Option.some 22) := by kernel_rfl
theorem Fx.are165 : arrE Tryz.prog 165 = Bool.true := by kernel_rfl
theorem Fx.arr165 : arrN Tryz.prog 165 = Option.some (22,1) := by kernel_rfl
theorem Fx.call99 : callN Tryz.prog 99 = Bool.true := by kernel_rfl
theorem Fx.call101 : callN Tryz.prog 101 = Bool.true := by kernel_rfl
theorem Fx.call103 : callN Tryz.prog 103 = Bool.true := by kernel_rfl
theorem Fx.call131 : callN Tryz.prog 131 = Bool.true := by kernel_rfl
theorem Fx.call78 : callN Tryz.prog 78 = Bool.true := by kernel_rfl
theorem Fx.call79 : callN Tryz.prog 79 = Bool.true := by kernel_rfl
theorem Fx.call132 : callN Tryz.prog 132 = Bool.true := by kernel_rfl
theorem Fx.agg33 : aggN Tryz.prog 33 = Option.some Option.none := by kernel_rfl
theorem Fx.call35 : callN Tryz.prog 35 = Bool.true := by kernel_rfl
theorem Fx.call71 : callN Tryz.prog 71 = Bool.true := by kernel_rfl
theorem Fx.call72 : callN Tryz.prog 72 = Bool.true := by kernel_rfl
theorem Fx.call75 : callN Tryz.prog 75 = Bool.true := by kernel_rfl
theorem Fx.call76 : callN Tryz.prog 76 = Bool.true := by kernel_rfl
theorem Fx.field157_1 : fieldN Tryz.prog 157 1 = Option.some 1 := by kernel_rfl
theorem Fx.field157_2 : fieldN Tryz.prog 157 2 = Option.some 2 := by kernel_rfl
theorem Fx.sl33 : slN Tryz.prog 33 = Option.some 7 := by kernel_rfl
theorem Fx.zero3 : zeroN Tryz.prog 3 = Option.some [Go.Value.int Go.IntKind.i64 (Int.ofNat 0)] := by kernel_rfl
theorem Fx.call77 : callN Tryz.prog 77 = Bool.true := by kernel_rfl
theorem Fx.call80 : callN Tryz.prog 80 = Bool.true := by kernel_rfl
theorem Fx.field157_0 : fieldN Tryz.prog 157 0 = Option.some 0 := by kernel_rfl
theorem Fx.field157_3 : fieldN Tryz.prog 157 3 = Option.some 3 := by kernel_rfl
theorem Fx.field157_4 : fieldN Tryz.prog 157 4 = Option.some 4 := by kernel_rfl
theorem Fx.field157_5 : fieldN Tryz.prog 157 5 = Option.some 5 := by kernel_rfl
theorem Fx.field157_6 : fieldN Tryz.prog 157 6 = Option.some 6 := by kernel_rfl
theorem Fx.row33 : rowN Tryz.prog 33 = Option.some (35,7,104) := by kernel_rfl
theorem Fx.call34 : callN Tryz.prog 34 = Bool.true := by kernel_rfl
theorem Fx.call36 : callN Tryz.prog 36 = Bool.true := by kernel_rfl
theorem Fx.call37 : callN Tryz.prog 37 = Bool.true := by kernel_rfl
theorem Fx.call38 : callN Tryz.prog 38 = Bool.true := by kernel_rfl
theorem Fx.call96 : callN Tryz.prog 96 = Bool.true := by kernel_rfl
theorem Fx.call147 : callN Tryz.prog 147 = Bool.true := by kernel_rfl
theorem Fx.call149 : callN Tryz.prog 149 = Bool.true := by kernel_rfl
theorem Fx.bld108_0_1_2 (x0 : Int) (x1 : ByteArray) (x2 : Int) : buildN Tryz.prog 108 [(0,.int .u8 x0),(1,.string x1),(2,.int .i64 x2)] = some [.int .u8 x0,.string x1,.int .i64 x2] := by kernel_rfl
theorem Fx.agg94 : aggN Tryz.prog 94 = Option.some Option.none := by kernel_rfl
theorem Fx.call15 : callN Tryz.prog 15 = Bool.true := by kernel_rfl
theorem Fx.call54 : callN Tryz.prog 54 = Bool.true := by kernel_rfl
theorem Fx.call55 : callN Tryz.prog 55 = Bool.true := by kernel_rfl
theorem Fx.call56 : callN Tryz.prog 56 = Bool.true := by kernel_rfl
theorem Fx.call95 : callN Tryz.prog 95 = Bool.true := by kernel_rfl
theorem Fx.row99 : rowN Tryz.prog 99 = Option.some (108,3,32) := by kernel_rfl
theorem Fx.size94 : sizeN Tryz.prog 94 = Option.some 1 := by kernel_rfl
theorem Fx.size99 : sizeN Tryz.prog 99 = Option.some 1 := by kernel_rfl
theorem Fx.zero94 : zeroN Tryz.prog 94 = Option.some [Go.Value.pointer Option.none] := by kernel_rfl
theorem Fx.bld102_2 (x2p : Option Addr) (x2n x2c : Nat) : buildN Tryz.prog 102 [(2,.slice x2p x2n x2c)] = some [.slice none 0 0,.int .i64 0,.slice x2p x2n x2c,.slice none 0 0,.bool false,.bool false,.bool false,.int .i64 0,.int .i64 0] := by kernel_rfl
theorem Fx.bld108_2 (x2 : Int) : buildN Tryz.prog 108 [(2,.int .i64 x2)] = some [.int .u8 0,.string ⟨#[]⟩,.int .i64 x2] := by kernel_rfl
theorem Fx.bld35  : buildN Tryz.prog 35 [] = some [.int .u8 0,.string ⟨#[]⟩,.string ⟨#[]⟩,.int .i64 0,.int .i64 0,.slice none 0 0,.slice none 0 0] := by kernel_rfl
theorem Fx.bsl99_1 (x00 x01 x02 : Value) : bslN Tryz.prog 99 1 [(0,.agg [x00,x01,x02].toArray)] = some (108,[x00,x01,x02]) := by kernel_rfl
theorem Fx.call89 : callN Tryz.prog 89 = Bool.true := by kernel_rfl
theorem Fx.call138 : callN Tryz.prog 138 = Bool.true := by kernel_rfl
theorem Fx.call139 : callN Tryz.prog 139 = Bool.true := by kernel_rfl
theorem Fx.call140 : callN Tryz.prog 140 = Bool.true := by kernel_rfl
theorem Fx.call48 : callN Tryz.prog 48 = Bool.true := by kernel_rfl
theorem Fx.call144 : callN Tryz.prog 144 = Bool.true := by kernel_rfl
theorem Fx.arr163 : arrN Tryz.prog 163 = Option.some (19,1) := by kernel_rfl
theorem Fx.call90 : callN Tryz.prog 90 = Bool.true := by kernel_rfl
theorem Fx.call91 : callN Tryz.prog 91 = Bool.true := by kernel_rfl
theorem Fx.call92 : callN Tryz.prog 92 = Bool.true := by kernel_rfl
theorem Fx.call93 : callN Tryz.prog 93 = Bool.true := by kernel_rfl
theorem Fx.call19 : callN Tryz.prog 19 = Bool.true := by kernel_rfl
theorem Fx.call26 : callN Tryz.prog 26 = Bool.true := by kernel_rfl
end Go.Proofs.YtidclioghdbphaaGreatDoor
