/- Texts of the proof, one behind the other. -/
import Derived.Test.YtidclioghdbphaaGreatDoorMe
set_option linter.all false
set_option maxRecDepth 100000
namespace Go.Proofs.YtidclioghdbphaaGreatDoor
open Go.RowKit Go.Par Go.Sx
theorem all_take {l : List Ex} {p : Ex → Bool} {k : Nat} (hk : k < l.length) (h : (l.take k).all p = true) (hp : p l[k] = true) : (l.take (k + 1)).all p = true := by
 rw [List.take_succ,List.all_append,h,List.getElem?_eq_getElem hk];simp [hp]
theorem all_at {l : List Ex} {p : Ex → Bool} {k : Nat} (hk : k < l.length) (hp : p l[k] = false) : l.all p = false := List.all_eq_false.2 ⟨_,List.getElem_mem hk,by rw [hp];decide⟩
theorem termBs_allF : ∀ l,termBs l = l.all termB
 | [] => rfl
 | e :: r => by rw [termBs,List.all_cons,termBs_allF r]
set_option maxRecDepth 100000 in
theorem operands_any (H : Hp) (op : UInt8) (nm : Str) (nn : Int64) (args : List Ex) (n : Nat) (cs : List Value) (w : World) (h : Rep H (dEx .u8 (.mk op nm nn args)) cs) (ht : ∀ a ∈ args,(∀ (cs : List Value) (W : World),Rep H (dEx .u8 a) cs → Agr H W → Calls Tryz.prog 79 #[.agg cs.toArray] W fun r W' => r = .returned (.bool (termB a)) ∧ Ext W W')) (hA : Agr H w) :
 Calls Tryz.prog 132 #[.agg cs.toArray,.int .i64 (n : Nat)] w fun r w' => r = .returned (.bool (args.all termB && decide (args.length = n))) ∧ Ext w w' := by
 obtain ⟨pp,c,rfl,hs,hnm⟩ := ex_open h;have hcap := hs.cap;refine Sx.enter (H := H) Tryz.func132 rfl Tryz.ntmps132 rfl hA ?_;refine .sr<|.bx Z Z Z fun b2 => .a Z Z<|.nt<|.sq<|.sr<|.yv (.fieldAddr Z Fx.field76_3) Z<|.yv (.load Z Fx.agg32 (.head _) Z) Z<|.yv (.lenSl Fx.sl32 Z) Z<|.m Z Z<|.nt<|.bk<|.lp (X := Nat) [(1,_),(2,_),(8,_),(9,_)] ⟨rfl,rfl,rfl,rfl,trivial⟩ [_] (fun k => [(10,.int .i64 (k : Nat))]) (fun k => H) (fun k => []) (fun k => k ≤ args.length ∧ (args.take k).all termB = true) (fun k => args.length - k) 0 (fun _ s => s) ⟨rfl,trivial⟩ ⟨Nat.zero_le _,rfl⟩ fun k hC => ?_
 obtain ⟨hk0,hal⟩ := hC;refine .sr<|.yv (.lss Z Z) Z<|.nt<|.sq<|.cd Z (fun h11 => ?_) (fun h11 => ?_)
 ·try simp only [dt] at h11
  have hk : k < args.length := by omega
  obtain ⟨bE,oE,cE,hpE,rE,lE,mE⟩ := hs.elem (map_at (f := dEx .u8) hk);cases hpE;refine .sk<|.tN<|.sq<|.bk<|.sr<|.yv (.indexSl Fx.sl32 Z Z Z (by omega) (q := oE + k * 4) Z) Z<|.yv (.loadMW Z Fx.agg76 mE lE) Z<|.al Fx.zero76 Z fun b6 => .sV .head Z Z Fx.size76 lE rE.one Z<|.ns<|.yv (.loadW Z Fx.agg76 (.head _) lE) Z<|.yv (.call Fx.call79 Z (fun W s => ht _ (List.getElem_mem hk) cE W rE s.agr)) Z<|.yv (.not Z) Z<|.nt<|.cd Z (fun h16 => ?_) (fun h16 => ?_)
  ·skip
   refine .sr<|.a Z Z<|.nt<|.rt<|.bR<|.tR<|.tR<|.bR<|.tR<|?_
   refine Sx.ret1 (.inl rfl) rfl (.tmp rfl) fun W s => ⟨?_,s.ext⟩
   first
    | (rw [all_at hk (by simpa using h16)];rfl)
    | (rw [hal,Bool.true_and])
  skip
  exact .sk<|.bN<|.tN<|.rg<|.yv (.add Z Z (w6 (by omega))) Z<|.m Z Z<|.nt<|.ag (k + 1) ⟨rfl,trivial⟩ ⟨rfl,rfl,rfl,rfl,trivial⟩ (fun _ s => s.pick [1] [_] Z Z) ⟨by omega,all_take hk hal (by simpa using h16)⟩ (by omega)
 try simp only [df] at h11
 obtain rfl : k = args.length := by omega
 rw [List.take_length] at hal;refine .ex<|.tE<|.tE<|.bE<|.tN<|.sr<|.yv (.fieldAddr Z Fx.field76_3) Z<|.yv (.load Z Fx.agg32 (.head _) Z) Z<|.yv (.lenSl Fx.sl32 Z) Z<|.m Z Z<|.yv (.cast (.eql Z Z) (congrArg Value.bool n0)) Z<|.a Z Z<|.nt<|.rt<|?_
 refine Sx.ret1 (.inl rfl) rfl (.tmp rfl) fun W s => ⟨?_,s.ext⟩
 first
  | (rw [all_at hk (by simpa using h16)];rfl)
  | (rw [hal,Bool.true_and])
theorem tb1 {op : UInt8} {nm : Str} {n : Int64} {args : List Ex} (h : op = 1) : termB (.mk op nm n args) = (decide (nm = []) && decide (0 ≤ n.toInt) && decide (args.length = 0)) := by rw [termB,if_pos h]
theorem tb4 {op : UInt8} {nm : Str} {n : Int64} {args : List Ex} (h : op = 4) : termB (.mk op nm n args) = (decide (nm = []) && decide (n = 0) && decide (args.length = 0)) := by subst h;rw [termB,if_neg (by decide),if_pos rfl]
theorem tb5 {op : UInt8} {nm : Str} {n : Int64} {args : List Ex} (h : op = 5 ∨ op = 8) : termB (.mk op nm n args) = (decide (n = 0) && decide (args.length = 0)) := by
 rw [termB,if_neg (by rcases h with rfl | rfl <;> decide),if_neg (by rcases h with rfl | rfl <;> decide),if_pos h]
theorem tb6 {op : UInt8} {nm : Str} {n : Int64} {args : List Ex} (h : op = 6) : termB (.mk op nm n args) = (decide (n = 0) && (args.all termB && decide (args.length = 1))) := by
 subst h;rw [termB,if_neg (by decide),if_neg (by decide),if_neg (by decide),if_pos rfl,termBs_allF]
theorem tb9 {op : UInt8} {nm : Str} {n : Int64} {args : List Ex} (h : op = 9) : termB (.mk op nm n args) = (decide (nm = []) && decide (n = 0) && (args.all termB && decide (args.length = 1))) := by
 subst h;rw [termB,if_neg (by decide),if_neg (by decide),if_neg (by decide),if_neg (by decide),if_pos rfl,termBs_allF]
theorem tbb {op : UInt8} {nm : Str} {n : Int64} {args : List Ex} (h : op = 11 ∨ op = 12 ∨ op = 13 ∨ op = 14 ∨ op = 15) : termB (.mk op nm n args) = (decide (nm = []) && decide (n = 0) && (args.all termB && decide (args.length = 2))) := by
 have e : ∀ k : UInt8,k < 11 → ¬ op = k := by
  intro k hk e;subst e;rcases h with rfl | rfl | rfl | rfl | rfl <;> exact absurd hk (by decide)
 rw [termB,if_neg (e 1 (by decide)),if_neg (e 4 (by decide)),if_neg (by rintro (h | h);exact e 5 (by decide) h;exact e 8 (by decide) h),if_neg (e 6 (by decide)),if_neg (e 9 (by decide)),if_pos h,termBs_allF]
theorem tbn {op : UInt8} {nm : Str} {n : Int64} {args : List Ex} (h1 : ¬ op = 1) (h4 : ¬ op = 4) (h5 : ¬ op = 5) (h8 : ¬ op = 8) (h6 : ¬ op = 6) (h9 : ¬ op = 9) (a : ¬ op = 11) (b : ¬ op = 12) (c : ¬ op = 13) (d : ¬ op = 14) (e : ¬ op = 15) : termB (.mk op nm n args) = false := by
 rw [termB,if_neg h1,if_neg h4,if_neg (not_or.2 ⟨h5,h8⟩),if_neg h6,if_neg h9,if_neg (by rintro (h | h | h | h | h);exact a h;exact b h;exact c h;exact d h;exact e h)]
set_option maxHeartbeats 1000000 in
set_option maxRecDepth 100000 in
theorem isTerm_any (H : Hp) (e : Ex) : (∀ (cs : List Value) (W : World),Rep H (dEx .u8 e) cs → Agr H W → Calls Tryz.prog 79 #[.agg cs.toArray] W fun r W' => r = .returned (.bool (termB e)) ∧ Ext W W') := by
 induction e using Ex.ind with | _ op nm nn args ih
 intro cs w h hA;obtain ⟨pp,c,rfl,hs,hnm⟩ := ex_open h;refine Sx.enter (H := H) Tryz.func79 rfl Tryz.ntmps79 rfl hA ?_;refine .sr<|.bx Z Z Z fun b1 => .a Z Z<|.nt<|.sq<|.sr<|.yv (.fieldAddr Z Fx.field76_0) Z<|.yv (.load Z Fx.agg74 (.head _) Z) Z<|.nt<|.bk<|.sr<|.yv (.eql Z Z) Z<|.a Z Z<|.nt<|.cd Z (fun h5 => ?_) (fun h5 => ?_)
 ·have q1 : op = 1 := UInt8.toNat_inj.1 (by have := of_decide_eq_true h5;show op.toNat = 1;omega);refine .sr<|.yv (.fieldAddr Z Fx.field76_1) Z<|.yv (.load Z Fx.agg9 (.head _) Z) Z<|.yv (.eqS Z Z) Z<|.m Z Z<|.b2 (fun h10 => ?_) (fun h10 => ?_)
  ·skip
   refine .gd Z Z<|.yv (.fieldAddr Z Fx.field76_2) Z<|.gd Z Z<|.yv (.load Z Fx.agg2 (.head _) Z) Z<|.gd Z Z<|.yv (.geq Z Z) Z<|.yv (.pickT Z Z) Z<|.m Z Z<|.b2 (fun h15 => ?_) (fun h15 => ?_)
   ·skip
    refine .gd Z Z<|.yv (.fieldAddr Z Fx.field76_3) Z<|.gd Z Z<|.yv (.load Z Fx.agg32 (.head _) Z) Z<|.gd Z Z<|.yv (.lenSl Fx.sl32 Z) Z<|.gd Z Z<|.yv (.cast (.eql Z Z) (congrArg Value.bool er0)) Z<|.yv (.pickT Z Z) Z<|.a Z Z<|.nt<|.rt<|.bR<|.tR<|?_
    refine Sx.ret1 (.inl rfl) rfl (.tmp rfl) fun W s => ⟨?_,s.ext⟩
    first
     | (rw [tb1 q1,h10,h15];simp only [Bool.true_and,Bool.false_and,Bool.and_true,Bool.and_false])
     | (rw [tb1 q1,h10,h15];rfl)
     | (rw [tb1 q1,h10];simp only [Bool.true_and,Bool.false_and,Bool.and_true,Bool.and_false])
     | (rw [tb1 q1,h10];rfl)
     | (rw [tb4 q4,h26,h31];simp only [Bool.true_and,Bool.false_and,Bool.and_true,Bool.and_false])
     | (rw [tb4 q4,h26,h31];rfl)
     | (rw [tb4 q4,h26];simp only [Bool.true_and,Bool.false_and,Bool.and_true,Bool.and_false])
     | (rw [tb4 q4,h26];rfl)
     | (rw [tb5 (.inl q58),h43];simp only [Bool.true_and,Bool.false_and,Bool.and_true,Bool.and_false])
     | (rw [tb5 (.inl q58),h43];rfl)
     | (rw [tb5 (.inr q58),h43];simp only [Bool.true_and,Bool.false_and,Bool.and_true,Bool.and_false])
     | (rw [tb5 (.inr q58),h43];rfl)
     | (rw [tb6 q6,h54];simp only [Bool.true_and,Bool.false_and,Bool.and_true,Bool.and_false])
     | (rw [tb6 q6,h54];rfl)
     | (rw [tb9 q9,h63,h68];simp only [Bool.true_and,Bool.false_and,Bool.and_true,Bool.and_false])
     | (rw [tb9 q9,h63,h68];rfl)
     | (rw [tb9 q9,h63];simp only [Bool.true_and,Bool.false_and,Bool.and_true,Bool.and_false])
     | (rw [tb9 q9,h63];rfl)
     | (rw [tbb (.inl qb),h81,h86];simp only [Bool.true_and,Bool.false_and,Bool.and_true,Bool.and_false])
     | (rw [tbb (.inl qb),h81,h86];rfl)
     | (rw [tbb (.inl qb),h81];simp only [Bool.true_and,Bool.false_and,Bool.and_true,Bool.and_false])
     | (rw [tbb (.inl qb),h81];rfl)
     | (rw [tbb (.inr (.inl qb)),h81,h86];simp only [Bool.true_and,Bool.false_and,Bool.and_true,Bool.and_false])
     | (rw [tbb (.inr (.inl qb)),h81,h86];rfl)
     | (rw [tbb (.inr (.inl qb)),h81];simp only [Bool.true_and,Bool.false_and,Bool.and_true,Bool.and_false])
     | (rw [tbb (.inr (.inl qb)),h81];rfl)
     | (rw [tbb (.inr (.inr (.inl qb))),h81,h86];simp only [Bool.true_and,Bool.false_and,Bool.and_true,Bool.and_false])
     | (rw [tbb (.inr (.inr (.inl qb))),h81,h86];rfl)
     | (rw [tbb (.inr (.inr (.inl qb))),h81];simp only [Bool.true_and,Bool.false_and,Bool.and_true,Bool.and_false])
     | (rw [tbb (.inr (.inr (.inl qb))),h81];rfl)
     | (rw [tbb (.inr (.inr (.inr (.inl qb)))),h81,h86];simp only [Bool.true_and,Bool.false_and,Bool.and_true,Bool.and_false])
     | (rw [tbb (.inr (.inr (.inr (.inl qb)))),h81,h86];rfl)
     | (rw [tbb (.inr (.inr (.inr (.inl qb)))),h81];simp only [Bool.true_and,Bool.false_and,Bool.and_true,Bool.and_false])
     | (rw [tbb (.inr (.inr (.inr (.inl qb)))),h81];rfl)
     | (rw [tbb (.inr (.inr (.inr (.inr qb)))),h81,h86];simp only [Bool.true_and,Bool.false_and,Bool.and_true,Bool.and_false])
     | (rw [tbb (.inr (.inr (.inr (.inr qb)))),h81,h86];rfl)
     | (rw [tbb (.inr (.inr (.inr (.inr qb)))),h81];simp only [Bool.true_and,Bool.false_and,Bool.and_true,Bool.and_false])
     | (rw [tbb (.inr (.inr (.inr (.inr qb)))),h81];rfl)
     | (rw [tbn q1 q4 q585 q588 q6 q9 qb11 qb12 qb13 qb14 qb15])
   skip
   refine .gF Z Z Z Z<|.gF Z Z Z Z<|.gF Z Z Z Z<|.gF Z Z Z Z<|.yv (.pickF Z Z) Z<|.a Z Z<|.nt<|.rt<|.bR<|.tR<|?_
   refine Sx.ret1 (.inl rfl) rfl (.tmp rfl) fun W s => ⟨?_,s.ext⟩
   first
    | (rw [tb1 q1,h10,h15];simp only [Bool.true_and,Bool.false_and,Bool.and_true,Bool.and_false])
    | (rw [tb1 q1,h10,h15];rfl)
    | (rw [tb1 q1,h10];simp only [Bool.true_and,Bool.false_and,Bool.and_true,Bool.and_false])
    | (rw [tb1 q1,h10];rfl)
    | (rw [tb4 q4,h26,h31];simp only [Bool.true_and,Bool.false_and,Bool.and_true,Bool.and_false])
    | (rw [tb4 q4,h26,h31];rfl)
    | (rw [tb4 q4,h26];simp only [Bool.true_and,Bool.false_and,Bool.and_true,Bool.and_false])
    | (rw [tb4 q4,h26];rfl)
    | (rw [tb5 (.inl q58),h43];simp only [Bool.true_and,Bool.false_and,Bool.and_true,Bool.and_false])
    | (rw [tb5 (.inl q58),h43];rfl)
    | (rw [tb5 (.inr q58),h43];simp only [Bool.true_and,Bool.false_and,Bool.and_true,Bool.and_false])
    | (rw [tb5 (.inr q58),h43];rfl)
    | (rw [tb6 q6,h54];simp only [Bool.true_and,Bool.false_and,Bool.and_true,Bool.and_false])
    | (rw [tb6 q6,h54];rfl)
    | (rw [tb9 q9,h63,h68];simp only [Bool.true_and,Bool.false_and,Bool.and_true,Bool.and_false])
    | (rw [tb9 q9,h63,h68];rfl)
    | (rw [tb9 q9,h63];simp only [Bool.true_and,Bool.false_and,Bool.and_true,Bool.and_false])
    | (rw [tb9 q9,h63];rfl)
    | (rw [tbb (.inl qb),h81,h86];simp only [Bool.true_and,Bool.false_and,Bool.and_true,Bool.and_false])
    | (rw [tbb (.inl qb),h81,h86];rfl)
    | (rw [tbb (.inl qb),h81];simp only [Bool.true_and,Bool.false_and,Bool.and_true,Bool.and_false])
    | (rw [tbb (.inl qb),h81];rfl)
    | (rw [tbb (.inr (.inl qb)),h81,h86];simp only [Bool.true_and,Bool.false_and,Bool.and_true,Bool.and_false])
    | (rw [tbb (.inr (.inl qb)),h81,h86];rfl)
    | (rw [tbb (.inr (.inl qb)),h81];simp only [Bool.true_and,Bool.false_and,Bool.and_true,Bool.and_false])
    | (rw [tbb (.inr (.inl qb)),h81];rfl)
    | (rw [tbb (.inr (.inr (.inl qb))),h81,h86];simp only [Bool.true_and,Bool.false_and,Bool.and_true,Bool.and_false])
    | (rw [tbb (.inr (.inr (.inl qb))),h81,h86];rfl)
    | (rw [tbb (.inr (.inr (.inl qb))),h81];simp only [Bool.true_and,Bool.false_and,Bool.and_true,Bool.and_false])
    | (rw [tbb (.inr (.inr (.inl qb))),h81];rfl)
    | (rw [tbb (.inr (.inr (.inr (.inl qb)))),h81,h86];simp only [Bool.true_and,Bool.false_and,Bool.and_true,Bool.and_false])
    | (rw [tbb (.inr (.inr (.inr (.inl qb)))),h81,h86];rfl)
    | (rw [tbb (.inr (.inr (.inr (.inl qb)))),h81];simp only [Bool.true_and,Bool.false_and,Bool.and_true,Bool.and_false])
    | (rw [tbb (.inr (.inr (.inr (.inl qb)))),h81];rfl)
    | (rw [tbb (.inr (.inr (.inr (.inr qb)))),h81,h86];simp only [Bool.true_and,Bool.false_and,Bool.and_true,Bool.and_false])
    | (rw [tbb (.inr (.inr (.inr (.inr qb)))),h81,h86];rfl)
    | (rw [tbb (.inr (.inr (.inr (.inr qb)))),h81];simp only [Bool.true_and,Bool.false_and,Bool.and_true,Bool.and_false])
    | (rw [tbb (.inr (.inr (.inr (.inr qb)))),h81];rfl)
    | (rw [tbn q1 q4 q585 q588 q6 q9 qb11 qb12 qb13 qb14 qb15])
  skip
  refine .gF Z Z Z Z<|.gF Z Z Z Z<|.gF Z Z Z Z<|.yv (.pickF Z Z) Z<|.m Z Z<|.gF Z Z Z Z<|.gF Z Z Z Z<|.gF Z Z Z Z<|.gF Z Z Z Z<|.yv (.pickF Z Z) Z<|.a Z Z<|.nt<|.rt<|.bR<|.tR<|?_
  refine Sx.ret1 (.inl rfl) rfl (.tmp rfl) fun W s => ⟨?_,s.ext⟩
  first
   | (rw [tb1 q1,h10,h15];simp only [Bool.true_and,Bool.false_and,Bool.and_true,Bool.and_false])
   | (rw [tb1 q1,h10,h15];rfl)
   | (rw [tb1 q1,h10];simp only [Bool.true_and,Bool.false_and,Bool.and_true,Bool.and_false])
   | (rw [tb1 q1,h10];rfl)
   | (rw [tb4 q4,h26,h31];simp only [Bool.true_and,Bool.false_and,Bool.and_true,Bool.and_false])
   | (rw [tb4 q4,h26,h31];rfl)
   | (rw [tb4 q4,h26];simp only [Bool.true_and,Bool.false_and,Bool.and_true,Bool.and_false])
   | (rw [tb4 q4,h26];rfl)
   | (rw [tb5 (.inl q58),h43];simp only [Bool.true_and,Bool.false_and,Bool.and_true,Bool.and_false])
   | (rw [tb5 (.inl q58),h43];rfl)
   | (rw [tb5 (.inr q58),h43];simp only [Bool.true_and,Bool.false_and,Bool.and_true,Bool.and_false])
   | (rw [tb5 (.inr q58),h43];rfl)
   | (rw [tb6 q6,h54];simp only [Bool.true_and,Bool.false_and,Bool.and_true,Bool.and_false])
   | (rw [tb6 q6,h54];rfl)
   | (rw [tb9 q9,h63,h68];simp only [Bool.true_and,Bool.false_and,Bool.and_true,Bool.and_false])
   | (rw [tb9 q9,h63,h68];rfl)
   | (rw [tb9 q9,h63];simp only [Bool.true_and,Bool.false_and,Bool.and_true,Bool.and_false])
   | (rw [tb9 q9,h63];rfl)
   | (rw [tbb (.inl qb),h81,h86];simp only [Bool.true_and,Bool.false_and,Bool.and_true,Bool.and_false])
   | (rw [tbb (.inl qb),h81,h86];rfl)
   | (rw [tbb (.inl qb),h81];simp only [Bool.true_and,Bool.false_and,Bool.and_true,Bool.and_false])
   | (rw [tbb (.inl qb),h81];rfl)
   | (rw [tbb (.inr (.inl qb)),h81,h86];simp only [Bool.true_and,Bool.false_and,Bool.and_true,Bool.and_false])
   | (rw [tbb (.inr (.inl qb)),h81,h86];rfl)
   | (rw [tbb (.inr (.inl qb)),h81];simp only [Bool.true_and,Bool.false_and,Bool.and_true,Bool.and_false])
   | (rw [tbb (.inr (.inl qb)),h81];rfl)
   | (rw [tbb (.inr (.inr (.inl qb))),h81,h86];simp only [Bool.true_and,Bool.false_and,Bool.and_true,Bool.and_false])
   | (rw [tbb (.inr (.inr (.inl qb))),h81,h86];rfl)
   | (rw [tbb (.inr (.inr (.inl qb))),h81];simp only [Bool.true_and,Bool.false_and,Bool.and_true,Bool.and_false])
   | (rw [tbb (.inr (.inr (.inl qb))),h81];rfl)
   | (rw [tbb (.inr (.inr (.inr (.inl qb)))),h81,h86];simp only [Bool.true_and,Bool.false_and,Bool.and_true,Bool.and_false])
   | (rw [tbb (.inr (.inr (.inr (.inl qb)))),h81,h86];rfl)
   | (rw [tbb (.inr (.inr (.inr (.inl qb)))),h81];simp only [Bool.true_and,Bool.false_and,Bool.and_true,Bool.and_false])
   | (rw [tbb (.inr (.inr (.inr (.inl qb)))),h81];rfl)
   | (rw [tbb (.inr (.inr (.inr (.inr qb)))),h81,h86];simp only [Bool.true_and,Bool.false_and,Bool.and_true,Bool.and_false])
   | (rw [tbb (.inr (.inr (.inr (.inr qb)))),h81,h86];rfl)
   | (rw [tbb (.inr (.inr (.inr (.inr qb)))),h81];simp only [Bool.true_and,Bool.false_and,Bool.and_true,Bool.and_false])
   | (rw [tbb (.inr (.inr (.inr (.inr qb)))),h81];rfl)
   | (rw [tbn q1 q4 q585 q588 q6 q9 qb11 qb12 qb13 qb14 qb15])
 have q1 : ¬ op = 1 := fun e => of_decide_eq_false h5 (by rw [e];rfl);refine .sr<|.yv (.eql Z Z) Z<|.a Z Z<|.nt<|.cd Z (fun h21 => ?_) (fun h21 => ?_)
 ·have q4 : op = 4 := UInt8.toNat_inj.1 (by have := of_decide_eq_true h21;show op.toNat = 4;omega);refine .sr<|.yv (.fieldAddr Z Fx.field76_1) Z<|.yv (.load Z Fx.agg9 (.head _) Z) Z<|.yv (.eqS Z Z) Z<|.m Z Z<|.b2 (fun h26 => ?_) (fun h26 => ?_)
  ·skip
   refine .gd Z Z<|.yv (.fieldAddr Z Fx.field76_2) Z<|.gd Z Z<|.yv (.load Z Fx.agg2 (.head _) Z) Z<|.gd Z Z<|.yv (.cast (.eql Z Z) (congrArg Value.bool i0)) Z<|.yv (.pickT Z Z) Z<|.m Z Z<|.b2 (fun h31 => ?_) (fun h31 => ?_)
   ·skip
    refine .gd Z Z<|.yv (.fieldAddr Z Fx.field76_3) Z<|.gd Z Z<|.yv (.load Z Fx.agg32 (.head _) Z) Z<|.gd Z Z<|.yv (.lenSl Fx.sl32 Z) Z<|.gd Z Z<|.yv (.cast (.eql Z Z) (congrArg Value.bool er0)) Z<|.yv (.pickT Z Z) Z<|.a Z Z<|.nt<|.rt<|.bR<|.tR<|?_
    refine Sx.ret1 (.inl rfl) rfl (.tmp rfl) fun W s => ⟨?_,s.ext⟩
    first
     | (rw [tb1 q1,h10,h15];simp only [Bool.true_and,Bool.false_and,Bool.and_true,Bool.and_false])
     | (rw [tb1 q1,h10,h15];rfl)
     | (rw [tb1 q1,h10];simp only [Bool.true_and,Bool.false_and,Bool.and_true,Bool.and_false])
     | (rw [tb1 q1,h10];rfl)
     | (rw [tb4 q4,h26,h31];simp only [Bool.true_and,Bool.false_and,Bool.and_true,Bool.and_false])
     | (rw [tb4 q4,h26,h31];rfl)
     | (rw [tb4 q4,h26];simp only [Bool.true_and,Bool.false_and,Bool.and_true,Bool.and_false])
     | (rw [tb4 q4,h26];rfl)
     | (rw [tb5 (.inl q58),h43];simp only [Bool.true_and,Bool.false_and,Bool.and_true,Bool.and_false])
     | (rw [tb5 (.inl q58),h43];rfl)
     | (rw [tb5 (.inr q58),h43];simp only [Bool.true_and,Bool.false_and,Bool.and_true,Bool.and_false])
     | (rw [tb5 (.inr q58),h43];rfl)
     | (rw [tb6 q6,h54];simp only [Bool.true_and,Bool.false_and,Bool.and_true,Bool.and_false])
     | (rw [tb6 q6,h54];rfl)
     | (rw [tb9 q9,h63,h68];simp only [Bool.true_and,Bool.false_and,Bool.and_true,Bool.and_false])
     | (rw [tb9 q9,h63,h68];rfl)
     | (rw [tb9 q9,h63];simp only [Bool.true_and,Bool.false_and,Bool.and_true,Bool.and_false])
     | (rw [tb9 q9,h63];rfl)
     | (rw [tbb (.inl qb),h81,h86];simp only [Bool.true_and,Bool.false_and,Bool.and_true,Bool.and_false])
     | (rw [tbb (.inl qb),h81,h86];rfl)
     | (rw [tbb (.inl qb),h81];simp only [Bool.true_and,Bool.false_and,Bool.and_true,Bool.and_false])
     | (rw [tbb (.inl qb),h81];rfl)
     | (rw [tbb (.inr (.inl qb)),h81,h86];simp only [Bool.true_and,Bool.false_and,Bool.and_true,Bool.and_false])
     | (rw [tbb (.inr (.inl qb)),h81,h86];rfl)
     | (rw [tbb (.inr (.inl qb)),h81];simp only [Bool.true_and,Bool.false_and,Bool.and_true,Bool.and_false])
     | (rw [tbb (.inr (.inl qb)),h81];rfl)
     | (rw [tbb (.inr (.inr (.inl qb))),h81,h86];simp only [Bool.true_and,Bool.false_and,Bool.and_true,Bool.and_false])
     | (rw [tbb (.inr (.inr (.inl qb))),h81,h86];rfl)
     | (rw [tbb (.inr (.inr (.inl qb))),h81];simp only [Bool.true_and,Bool.false_and,Bool.and_true,Bool.and_false])
     | (rw [tbb (.inr (.inr (.inl qb))),h81];rfl)
     | (rw [tbb (.inr (.inr (.inr (.inl qb)))),h81,h86];simp only [Bool.true_and,Bool.false_and,Bool.and_true,Bool.and_false])
     | (rw [tbb (.inr (.inr (.inr (.inl qb)))),h81,h86];rfl)
     | (rw [tbb (.inr (.inr (.inr (.inl qb)))),h81];simp only [Bool.true_and,Bool.false_and,Bool.and_true,Bool.and_false])
     | (rw [tbb (.inr (.inr (.inr (.inl qb)))),h81];rfl)
     | (rw [tbb (.inr (.inr (.inr (.inr qb)))),h81,h86];simp only [Bool.true_and,Bool.false_and,Bool.and_true,Bool.and_false])
     | (rw [tbb (.inr (.inr (.inr (.inr qb)))),h81,h86];rfl)
     | (rw [tbb (.inr (.inr (.inr (.inr qb)))),h81];simp only [Bool.true_and,Bool.false_and,Bool.and_true,Bool.and_false])
     | (rw [tbb (.inr (.inr (.inr (.inr qb)))),h81];rfl)
     | (rw [tbn q1 q4 q585 q588 q6 q9 qb11 qb12 qb13 qb14 qb15])
   skip
   refine .gF Z Z Z Z<|.gF Z Z Z Z<|.gF Z Z Z Z<|.gF Z Z Z Z<|.yv (.pickF Z Z) Z<|.a Z Z<|.nt<|.rt<|.bR<|.tR<|?_
   refine Sx.ret1 (.inl rfl) rfl (.tmp rfl) fun W s => ⟨?_,s.ext⟩
   first
    | (rw [tb1 q1,h10,h15];simp only [Bool.true_and,Bool.false_and,Bool.and_true,Bool.and_false])
    | (rw [tb1 q1,h10,h15];rfl)
    | (rw [tb1 q1,h10];simp only [Bool.true_and,Bool.false_and,Bool.and_true,Bool.and_false])
    | (rw [tb1 q1,h10];rfl)
    | (rw [tb4 q4,h26,h31];simp only [Bool.true_and,Bool.false_and,Bool.and_true,Bool.and_false])
    | (rw [tb4 q4,h26,h31];rfl)
    | (rw [tb4 q4,h26];simp only [Bool.true_and,Bool.false_and,Bool.and_true,Bool.and_false])
    | (rw [tb4 q4,h26];rfl)
    | (rw [tb5 (.inl q58),h43];simp only [Bool.true_and,Bool.false_and,Bool.and_true,Bool.and_false])
    | (rw [tb5 (.inl q58),h43];rfl)
    | (rw [tb5 (.inr q58),h43];simp only [Bool.true_and,Bool.false_and,Bool.and_true,Bool.and_false])
    | (rw [tb5 (.inr q58),h43];rfl)
    | (rw [tb6 q6,h54];simp only [Bool.true_and,Bool.false_and,Bool.and_true,Bool.and_false])
    | (rw [tb6 q6,h54];rfl)
    | (rw [tb9 q9,h63,h68];simp only [Bool.true_and,Bool.false_and,Bool.and_true,Bool.and_false])
    | (rw [tb9 q9,h63,h68];rfl)
    | (rw [tb9 q9,h63];simp only [Bool.true_and,Bool.false_and,Bool.and_true,Bool.and_false])
    | (rw [tb9 q9,h63];rfl)
    | (rw [tbb (.inl qb),h81,h86];simp only [Bool.true_and,Bool.false_and,Bool.and_true,Bool.and_false])
    | (rw [tbb (.inl qb),h81,h86];rfl)
    | (rw [tbb (.inl qb),h81];simp only [Bool.true_and,Bool.false_and,Bool.and_true,Bool.and_false])
    | (rw [tbb (.inl qb),h81];rfl)
    | (rw [tbb (.inr (.inl qb)),h81,h86];simp only [Bool.true_and,Bool.false_and,Bool.and_true,Bool.and_false])
    | (rw [tbb (.inr (.inl qb)),h81,h86];rfl)
    | (rw [tbb (.inr (.inl qb)),h81];simp only [Bool.true_and,Bool.false_and,Bool.and_true,Bool.and_false])
    | (rw [tbb (.inr (.inl qb)),h81];rfl)
    | (rw [tbb (.inr (.inr (.inl qb))),h81,h86];simp only [Bool.true_and,Bool.false_and,Bool.and_true,Bool.and_false])
    | (rw [tbb (.inr (.inr (.inl qb))),h81,h86];rfl)
    | (rw [tbb (.inr (.inr (.inl qb))),h81];simp only [Bool.true_and,Bool.false_and,Bool.and_true,Bool.and_false])
    | (rw [tbb (.inr (.inr (.inl qb))),h81];rfl)
    | (rw [tbb (.inr (.inr (.inr (.inl qb)))),h81,h86];simp only [Bool.true_and,Bool.false_and,Bool.and_true,Bool.and_false])
    | (rw [tbb (.inr (.inr (.inr (.inl qb)))),h81,h86];rfl)
    | (rw [tbb (.inr (.inr (.inr (.inl qb)))),h81];simp only [Bool.true_and,Bool.false_and,Bool.and_true,Bool.and_false])
    | (rw [tbb (.inr (.inr (.inr (.inl qb)))),h81];rfl)
    | (rw [tbb (.inr (.inr (.inr (.inr qb)))),h81,h86];simp only [Bool.true_and,Bool.false_and,Bool.and_true,Bool.and_false])
    | (rw [tbb (.inr (.inr (.inr (.inr qb)))),h81,h86];rfl)
    | (rw [tbb (.inr (.inr (.inr (.inr qb)))),h81];simp only [Bool.true_and,Bool.false_and,Bool.and_true,Bool.and_false])
    | (rw [tbb (.inr (.inr (.inr (.inr qb)))),h81];rfl)
    | (rw [tbn q1 q4 q585 q588 q6 q9 qb11 qb12 qb13 qb14 qb15])
  skip
  refine .gF Z Z Z Z<|.gF Z Z Z Z<|.gF Z Z Z Z<|.yv (.pickF Z Z) Z<|.m Z Z<|.gF Z Z Z Z<|.gF Z Z Z Z<|.gF Z Z Z Z<|.gF Z Z Z Z<|.yv (.pickF Z Z) Z<|.a Z Z<|.nt<|.rt<|.bR<|.tR<|?_
  refine Sx.ret1 (.inl rfl) rfl (.tmp rfl) fun W s => ⟨?_,s.ext⟩
  first
   | (rw [tb1 q1,h10,h15];simp only [Bool.true_and,Bool.false_and,Bool.and_true,Bool.and_false])
   | (rw [tb1 q1,h10,h15];rfl)
   | (rw [tb1 q1,h10];simp only [Bool.true_and,Bool.false_and,Bool.and_true,Bool.and_false])
   | (rw [tb1 q1,h10];rfl)
   | (rw [tb4 q4,h26,h31];simp only [Bool.true_and,Bool.false_and,Bool.and_true,Bool.and_false])
   | (rw [tb4 q4,h26,h31];rfl)
   | (rw [tb4 q4,h26];simp only [Bool.true_and,Bool.false_and,Bool.and_true,Bool.and_false])
   | (rw [tb4 q4,h26];rfl)
   | (rw [tb5 (.inl q58),h43];simp only [Bool.true_and,Bool.false_and,Bool.and_true,Bool.and_false])
   | (rw [tb5 (.inl q58),h43];rfl)
   | (rw [tb5 (.inr q58),h43];simp only [Bool.true_and,Bool.false_and,Bool.and_true,Bool.and_false])
   | (rw [tb5 (.inr q58),h43];rfl)
   | (rw [tb6 q6,h54];simp only [Bool.true_and,Bool.false_and,Bool.and_true,Bool.and_false])
   | (rw [tb6 q6,h54];rfl)
   | (rw [tb9 q9,h63,h68];simp only [Bool.true_and,Bool.false_and,Bool.and_true,Bool.and_false])
   | (rw [tb9 q9,h63,h68];rfl)
   | (rw [tb9 q9,h63];simp only [Bool.true_and,Bool.false_and,Bool.and_true,Bool.and_false])
   | (rw [tb9 q9,h63];rfl)
   | (rw [tbb (.inl qb),h81,h86];simp only [Bool.true_and,Bool.false_and,Bool.and_true,Bool.and_false])
   | (rw [tbb (.inl qb),h81,h86];rfl)
   | (rw [tbb (.inl qb),h81];simp only [Bool.true_and,Bool.false_and,Bool.and_true,Bool.and_false])
   | (rw [tbb (.inl qb),h81];rfl)
   | (rw [tbb (.inr (.inl qb)),h81,h86];simp only [Bool.true_and,Bool.false_and,Bool.and_true,Bool.and_false])
   | (rw [tbb (.inr (.inl qb)),h81,h86];rfl)
   | (rw [tbb (.inr (.inl qb)),h81];simp only [Bool.true_and,Bool.false_and,Bool.and_true,Bool.and_false])
   | (rw [tbb (.inr (.inl qb)),h81];rfl)
   | (rw [tbb (.inr (.inr (.inl qb))),h81,h86];simp only [Bool.true_and,Bool.false_and,Bool.and_true,Bool.and_false])
   | (rw [tbb (.inr (.inr (.inl qb))),h81,h86];rfl)
   | (rw [tbb (.inr (.inr (.inl qb))),h81];simp only [Bool.true_and,Bool.false_and,Bool.and_true,Bool.and_false])
   | (rw [tbb (.inr (.inr (.inl qb))),h81];rfl)
   | (rw [tbb (.inr (.inr (.inr (.inl qb)))),h81,h86];simp only [Bool.true_and,Bool.false_and,Bool.and_true,Bool.and_false])
   | (rw [tbb (.inr (.inr (.inr (.inl qb)))),h81,h86];rfl)
   | (rw [tbb (.inr (.inr (.inr (.inl qb)))),h81];simp only [Bool.true_and,Bool.false_and,Bool.and_true,Bool.and_false])
   | (rw [tbb (.inr (.inr (.inr (.inl qb)))),h81];rfl)
   | (rw [tbb (.inr (.inr (.inr (.inr qb)))),h81,h86];simp only [Bool.true_and,Bool.false_and,Bool.and_true,Bool.and_false])
   | (rw [tbb (.inr (.inr (.inr (.inr qb)))),h81,h86];rfl)
   | (rw [tbb (.inr (.inr (.inr (.inr qb)))),h81];simp only [Bool.true_and,Bool.false_and,Bool.and_true,Bool.and_false])
   | (rw [tbb (.inr (.inr (.inr (.inr qb)))),h81];rfl)
   | (rw [tbn q1 q4 q585 q588 q6 q9 qb11 qb12 qb13 qb14 qb15])
 have q4 : ¬ op = 4 := fun e => of_decide_eq_false h21 (by rw [e];rfl);refine .sq<|.sr<|.yv (.eql Z Z) Z<|.a Z Z<|.nt<|.cr Z (fun h37 => ?_) (fun h37 => ?_)
 ·have q58 : op = 5 := UInt8.toNat_inj.1 (by have := of_decide_eq_true h37;show op.toNat = 5;omega);refine .sk<|.tN<|.cT Z<|.sr<|.yv (.fieldAddr Z Fx.field76_2) Z<|.yv (.load Z Fx.agg2 (.head _) Z) Z<|.yv (.cast (.eql Z Z) (congrArg Value.bool i0)) Z<|.m Z Z<|.b2 (fun h43 => ?_) (fun h43 => ?_)
  ·skip
   refine .gd Z Z<|.yv (.fieldAddr Z Fx.field76_3) Z<|.gd Z Z<|.yv (.load Z Fx.agg32 (.head _) Z) Z<|.gd Z Z<|.yv (.lenSl Fx.sl32 Z) Z<|.gd Z Z<|.yv (.cast (.eql Z Z) (congrArg Value.bool er0)) Z<|.yv (.pickT Z Z) Z<|.a Z Z<|.nt<|.rt<|.bR<|.tR<|?_
   refine Sx.ret1 (.inl rfl) rfl (.tmp rfl) fun W s => ⟨?_,s.ext⟩
   first
    | (rw [tb1 q1,h10,h15];simp only [Bool.true_and,Bool.false_and,Bool.and_true,Bool.and_false])
    | (rw [tb1 q1,h10,h15];rfl)
    | (rw [tb1 q1,h10];simp only [Bool.true_and,Bool.false_and,Bool.and_true,Bool.and_false])
    | (rw [tb1 q1,h10];rfl)
    | (rw [tb4 q4,h26,h31];simp only [Bool.true_and,Bool.false_and,Bool.and_true,Bool.and_false])
    | (rw [tb4 q4,h26,h31];rfl)
    | (rw [tb4 q4,h26];simp only [Bool.true_and,Bool.false_and,Bool.and_true,Bool.and_false])
    | (rw [tb4 q4,h26];rfl)
    | (rw [tb5 (.inl q58),h43];simp only [Bool.true_and,Bool.false_and,Bool.and_true,Bool.and_false])
    | (rw [tb5 (.inl q58),h43];rfl)
    | (rw [tb5 (.inr q58),h43];simp only [Bool.true_and,Bool.false_and,Bool.and_true,Bool.and_false])
    | (rw [tb5 (.inr q58),h43];rfl)
    | (rw [tb6 q6,h54];simp only [Bool.true_and,Bool.false_and,Bool.and_true,Bool.and_false])
    | (rw [tb6 q6,h54];rfl)
    | (rw [tb9 q9,h63,h68];simp only [Bool.true_and,Bool.false_and,Bool.and_true,Bool.and_false])
    | (rw [tb9 q9,h63,h68];rfl)
    | (rw [tb9 q9,h63];simp only [Bool.true_and,Bool.false_and,Bool.and_true,Bool.and_false])
    | (rw [tb9 q9,h63];rfl)
    | (rw [tbb (.inl qb),h81,h86];simp only [Bool.true_and,Bool.false_and,Bool.and_true,Bool.and_false])
    | (rw [tbb (.inl qb),h81,h86];rfl)
    | (rw [tbb (.inl qb),h81];simp only [Bool.true_and,Bool.false_and,Bool.and_true,Bool.and_false])
    | (rw [tbb (.inl qb),h81];rfl)
    | (rw [tbb (.inr (.inl qb)),h81,h86];simp only [Bool.true_and,Bool.false_and,Bool.and_true,Bool.and_false])
    | (rw [tbb (.inr (.inl qb)),h81,h86];rfl)
    | (rw [tbb (.inr (.inl qb)),h81];simp only [Bool.true_and,Bool.false_and,Bool.and_true,Bool.and_false])
    | (rw [tbb (.inr (.inl qb)),h81];rfl)
    | (rw [tbb (.inr (.inr (.inl qb))),h81,h86];simp only [Bool.true_and,Bool.false_and,Bool.and_true,Bool.and_false])
    | (rw [tbb (.inr (.inr (.inl qb))),h81,h86];rfl)
    | (rw [tbb (.inr (.inr (.inl qb))),h81];simp only [Bool.true_and,Bool.false_and,Bool.and_true,Bool.and_false])
    | (rw [tbb (.inr (.inr (.inl qb))),h81];rfl)
    | (rw [tbb (.inr (.inr (.inr (.inl qb)))),h81,h86];simp only [Bool.true_and,Bool.false_and,Bool.and_true,Bool.and_false])
    | (rw [tbb (.inr (.inr (.inr (.inl qb)))),h81,h86];rfl)
    | (rw [tbb (.inr (.inr (.inr (.inl qb)))),h81];simp only [Bool.true_and,Bool.false_and,Bool.and_true,Bool.and_false])
    | (rw [tbb (.inr (.inr (.inr (.inl qb)))),h81];rfl)
    | (rw [tbb (.inr (.inr (.inr (.inr qb)))),h81,h86];simp only [Bool.true_and,Bool.false_and,Bool.and_true,Bool.and_false])
    | (rw [tbb (.inr (.inr (.inr (.inr qb)))),h81,h86];rfl)
    | (rw [tbb (.inr (.inr (.inr (.inr qb)))),h81];simp only [Bool.true_and,Bool.false_and,Bool.and_true,Bool.and_false])
    | (rw [tbb (.inr (.inr (.inr (.inr qb)))),h81];rfl)
    | (rw [tbn q1 q4 q585 q588 q6 q9 qb11 qb12 qb13 qb14 qb15])
  skip
  refine .gF Z Z Z Z<|.gF Z Z Z Z<|.gF Z Z Z Z<|.gF Z Z Z Z<|.yv (.pickF Z Z) Z<|.a Z Z<|.nt<|.rt<|.bR<|.tR<|?_
  refine Sx.ret1 (.inl rfl) rfl (.tmp rfl) fun W s => ⟨?_,s.ext⟩
  first
   | (rw [tb1 q1,h10,h15];simp only [Bool.true_and,Bool.false_and,Bool.and_true,Bool.and_false])
   | (rw [tb1 q1,h10,h15];rfl)
   | (rw [tb1 q1,h10];simp only [Bool.true_and,Bool.false_and,Bool.and_true,Bool.and_false])
   | (rw [tb1 q1,h10];rfl)
   | (rw [tb4 q4,h26,h31];simp only [Bool.true_and,Bool.false_and,Bool.and_true,Bool.and_false])
   | (rw [tb4 q4,h26,h31];rfl)
   | (rw [tb4 q4,h26];simp only [Bool.true_and,Bool.false_and,Bool.and_true,Bool.and_false])
   | (rw [tb4 q4,h26];rfl)
   | (rw [tb5 (.inl q58),h43];simp only [Bool.true_and,Bool.false_and,Bool.and_true,Bool.and_false])
   | (rw [tb5 (.inl q58),h43];rfl)
   | (rw [tb5 (.inr q58),h43];simp only [Bool.true_and,Bool.false_and,Bool.and_true,Bool.and_false])
   | (rw [tb5 (.inr q58),h43];rfl)
   | (rw [tb6 q6,h54];simp only [Bool.true_and,Bool.false_and,Bool.and_true,Bool.and_false])
   | (rw [tb6 q6,h54];rfl)
   | (rw [tb9 q9,h63,h68];simp only [Bool.true_and,Bool.false_and,Bool.and_true,Bool.and_false])
   | (rw [tb9 q9,h63,h68];rfl)
   | (rw [tb9 q9,h63];simp only [Bool.true_and,Bool.false_and,Bool.and_true,Bool.and_false])
   | (rw [tb9 q9,h63];rfl)
   | (rw [tbb (.inl qb),h81,h86];simp only [Bool.true_and,Bool.false_and,Bool.and_true,Bool.and_false])
   | (rw [tbb (.inl qb),h81,h86];rfl)
   | (rw [tbb (.inl qb),h81];simp only [Bool.true_and,Bool.false_and,Bool.and_true,Bool.and_false])
   | (rw [tbb (.inl qb),h81];rfl)
   | (rw [tbb (.inr (.inl qb)),h81,h86];simp only [Bool.true_and,Bool.false_and,Bool.and_true,Bool.and_false])
   | (rw [tbb (.inr (.inl qb)),h81,h86];rfl)
   | (rw [tbb (.inr (.inl qb)),h81];simp only [Bool.true_and,Bool.false_and,Bool.and_true,Bool.and_false])
   | (rw [tbb (.inr (.inl qb)),h81];rfl)
   | (rw [tbb (.inr (.inr (.inl qb))),h81,h86];simp only [Bool.true_and,Bool.false_and,Bool.and_true,Bool.and_false])
   | (rw [tbb (.inr (.inr (.inl qb))),h81,h86];rfl)
   | (rw [tbb (.inr (.inr (.inl qb))),h81];simp only [Bool.true_and,Bool.false_and,Bool.and_true,Bool.and_false])
   | (rw [tbb (.inr (.inr (.inl qb))),h81];rfl)
   | (rw [tbb (.inr (.inr (.inr (.inl qb)))),h81,h86];simp only [Bool.true_and,Bool.false_and,Bool.and_true,Bool.and_false])
   | (rw [tbb (.inr (.inr (.inr (.inl qb)))),h81,h86];rfl)
   | (rw [tbb (.inr (.inr (.inr (.inl qb)))),h81];simp only [Bool.true_and,Bool.false_and,Bool.and_true,Bool.and_false])
   | (rw [tbb (.inr (.inr (.inr (.inl qb)))),h81];rfl)
   | (rw [tbb (.inr (.inr (.inr (.inr qb)))),h81,h86];simp only [Bool.true_and,Bool.false_and,Bool.and_true,Bool.and_false])
   | (rw [tbb (.inr (.inr (.inr (.inr qb)))),h81,h86];rfl)
   | (rw [tbb (.inr (.inr (.inr (.inr qb)))),h81];simp only [Bool.true_and,Bool.false_and,Bool.and_true,Bool.and_false])
   | (rw [tbb (.inr (.inr (.inr (.inr qb)))),h81];rfl)
   | (rw [tbn q1 q4 q585 q588 q6 q9 qb11 qb12 qb13 qb14 qb15])
 have q585 : ¬ op = 5 := fun e => of_decide_eq_false h37 (by rw [e];rfl);refine .rg<|.yv (.eql Z Z) Z<|.a Z Z<|.nt<|.cr Z (fun h37 => ?_) (fun h37 => ?_)
 ·have q58 : op = 8 := UInt8.toNat_inj.1 (by have := of_decide_eq_true h37;show op.toNat = 8;omega);refine .sr<|.yv (.fieldAddr Z Fx.field76_2) Z<|.yv (.load Z Fx.agg2 (.head _) Z) Z<|.yv (.cast (.eql Z Z) (congrArg Value.bool i0)) Z<|.m Z Z<|.b2 (fun h43 => ?_) (fun h43 => ?_)
  ·skip
   refine .gd Z Z<|.yv (.fieldAddr Z Fx.field76_3) Z<|.gd Z Z<|.yv (.load Z Fx.agg32 (.head _) Z) Z<|.gd Z Z<|.yv (.lenSl Fx.sl32 Z) Z<|.gd Z Z<|.yv (.cast (.eql Z Z) (congrArg Value.bool er0)) Z<|.yv (.pickT Z Z) Z<|.a Z Z<|.nt<|.rt<|.bR<|.tR<|?_
   refine Sx.ret1 (.inl rfl) rfl (.tmp rfl) fun W s => ⟨?_,s.ext⟩
   first
    | (rw [tb1 q1,h10,h15];simp only [Bool.true_and,Bool.false_and,Bool.and_true,Bool.and_false])
    | (rw [tb1 q1,h10,h15];rfl)
    | (rw [tb1 q1,h10];simp only [Bool.true_and,Bool.false_and,Bool.and_true,Bool.and_false])
    | (rw [tb1 q1,h10];rfl)
    | (rw [tb4 q4,h26,h31];simp only [Bool.true_and,Bool.false_and,Bool.and_true,Bool.and_false])
    | (rw [tb4 q4,h26,h31];rfl)
    | (rw [tb4 q4,h26];simp only [Bool.true_and,Bool.false_and,Bool.and_true,Bool.and_false])
    | (rw [tb4 q4,h26];rfl)
    | (rw [tb5 (.inl q58),h43];simp only [Bool.true_and,Bool.false_and,Bool.and_true,Bool.and_false])
    | (rw [tb5 (.inl q58),h43];rfl)
    | (rw [tb5 (.inr q58),h43];simp only [Bool.true_and,Bool.false_and,Bool.and_true,Bool.and_false])
    | (rw [tb5 (.inr q58),h43];rfl)
    | (rw [tb6 q6,h54];simp only [Bool.true_and,Bool.false_and,Bool.and_true,Bool.and_false])
    | (rw [tb6 q6,h54];rfl)
    | (rw [tb9 q9,h63,h68];simp only [Bool.true_and,Bool.false_and,Bool.and_true,Bool.and_false])
    | (rw [tb9 q9,h63,h68];rfl)
    | (rw [tb9 q9,h63];simp only [Bool.true_and,Bool.false_and,Bool.and_true,Bool.and_false])
    | (rw [tb9 q9,h63];rfl)
    | (rw [tbb (.inl qb),h81,h86];simp only [Bool.true_and,Bool.false_and,Bool.and_true,Bool.and_false])
    | (rw [tbb (.inl qb),h81,h86];rfl)
    | (rw [tbb (.inl qb),h81];simp only [Bool.true_and,Bool.false_and,Bool.and_true,Bool.and_false])
    | (rw [tbb (.inl qb),h81];rfl)
    | (rw [tbb (.inr (.inl qb)),h81,h86];simp only [Bool.true_and,Bool.false_and,Bool.and_true,Bool.and_false])
    | (rw [tbb (.inr (.inl qb)),h81,h86];rfl)
    | (rw [tbb (.inr (.inl qb)),h81];simp only [Bool.true_and,Bool.false_and,Bool.and_true,Bool.and_false])
    | (rw [tbb (.inr (.inl qb)),h81];rfl)
    | (rw [tbb (.inr (.inr (.inl qb))),h81,h86];simp only [Bool.true_and,Bool.false_and,Bool.and_true,Bool.and_false])
    | (rw [tbb (.inr (.inr (.inl qb))),h81,h86];rfl)
    | (rw [tbb (.inr (.inr (.inl qb))),h81];simp only [Bool.true_and,Bool.false_and,Bool.and_true,Bool.and_false])
    | (rw [tbb (.inr (.inr (.inl qb))),h81];rfl)
    | (rw [tbb (.inr (.inr (.inr (.inl qb)))),h81,h86];simp only [Bool.true_and,Bool.false_and,Bool.and_true,Bool.and_false])
    | (rw [tbb (.inr (.inr (.inr (.inl qb)))),h81,h86];rfl)
    | (rw [tbb (.inr (.inr (.inr (.inl qb)))),h81];simp only [Bool.true_and,Bool.false_and,Bool.and_true,Bool.and_false])
    | (rw [tbb (.inr (.inr (.inr (.inl qb)))),h81];rfl)
    | (rw [tbb (.inr (.inr (.inr (.inr qb)))),h81,h86];simp only [Bool.true_and,Bool.false_and,Bool.and_true,Bool.and_false])
    | (rw [tbb (.inr (.inr (.inr (.inr qb)))),h81,h86];rfl)
    | (rw [tbb (.inr (.inr (.inr (.inr qb)))),h81];simp only [Bool.true_and,Bool.false_and,Bool.and_true,Bool.and_false])
    | (rw [tbb (.inr (.inr (.inr (.inr qb)))),h81];rfl)
    | (rw [tbn q1 q4 q585 q588 q6 q9 qb11 qb12 qb13 qb14 qb15])
  skip
  refine .gF Z Z Z Z<|.gF Z Z Z Z<|.gF Z Z Z Z<|.gF Z Z Z Z<|.yv (.pickF Z Z) Z<|.a Z Z<|.nt<|.rt<|.bR<|.tR<|?_
  refine Sx.ret1 (.inl rfl) rfl (.tmp rfl) fun W s => ⟨?_,s.ext⟩
  first
   | (rw [tb1 q1,h10,h15];simp only [Bool.true_and,Bool.false_and,Bool.and_true,Bool.and_false])
   | (rw [tb1 q1,h10,h15];rfl)
   | (rw [tb1 q1,h10];simp only [Bool.true_and,Bool.false_and,Bool.and_true,Bool.and_false])
   | (rw [tb1 q1,h10];rfl)
   | (rw [tb4 q4,h26,h31];simp only [Bool.true_and,Bool.false_and,Bool.and_true,Bool.and_false])
   | (rw [tb4 q4,h26,h31];rfl)
   | (rw [tb4 q4,h26];simp only [Bool.true_and,Bool.false_and,Bool.and_true,Bool.and_false])
   | (rw [tb4 q4,h26];rfl)
   | (rw [tb5 (.inl q58),h43];simp only [Bool.true_and,Bool.false_and,Bool.and_true,Bool.and_false])
   | (rw [tb5 (.inl q58),h43];rfl)
   | (rw [tb5 (.inr q58),h43];simp only [Bool.true_and,Bool.false_and,Bool.and_true,Bool.and_false])
   | (rw [tb5 (.inr q58),h43];rfl)
   | (rw [tb6 q6,h54];simp only [Bool.true_and,Bool.false_and,Bool.and_true,Bool.and_false])
   | (rw [tb6 q6,h54];rfl)
   | (rw [tb9 q9,h63,h68];simp only [Bool.true_and,Bool.false_and,Bool.and_true,Bool.and_false])
   | (rw [tb9 q9,h63,h68];rfl)
   | (rw [tb9 q9,h63];simp only [Bool.true_and,Bool.false_and,Bool.and_true,Bool.and_false])
   | (rw [tb9 q9,h63];rfl)
   | (rw [tbb (.inl qb),h81,h86];simp only [Bool.true_and,Bool.false_and,Bool.and_true,Bool.and_false])
   | (rw [tbb (.inl qb),h81,h86];rfl)
   | (rw [tbb (.inl qb),h81];simp only [Bool.true_and,Bool.false_and,Bool.and_true,Bool.and_false])
   | (rw [tbb (.inl qb),h81];rfl)
   | (rw [tbb (.inr (.inl qb)),h81,h86];simp only [Bool.true_and,Bool.false_and,Bool.and_true,Bool.and_false])
   | (rw [tbb (.inr (.inl qb)),h81,h86];rfl)
   | (rw [tbb (.inr (.inl qb)),h81];simp only [Bool.true_and,Bool.false_and,Bool.and_true,Bool.and_false])
   | (rw [tbb (.inr (.inl qb)),h81];rfl)
   | (rw [tbb (.inr (.inr (.inl qb))),h81,h86];simp only [Bool.true_and,Bool.false_and,Bool.and_true,Bool.and_false])
   | (rw [tbb (.inr (.inr (.inl qb))),h81,h86];rfl)
   | (rw [tbb (.inr (.inr (.inl qb))),h81];simp only [Bool.true_and,Bool.false_and,Bool.and_true,Bool.and_false])
   | (rw [tbb (.inr (.inr (.inl qb))),h81];rfl)
   | (rw [tbb (.inr (.inr (.inr (.inl qb)))),h81,h86];simp only [Bool.true_and,Bool.false_and,Bool.and_true,Bool.and_false])
   | (rw [tbb (.inr (.inr (.inr (.inl qb)))),h81,h86];rfl)
   | (rw [tbb (.inr (.inr (.inr (.inl qb)))),h81];simp only [Bool.true_and,Bool.false_and,Bool.and_true,Bool.and_false])
   | (rw [tbb (.inr (.inr (.inr (.inl qb)))),h81];rfl)
   | (rw [tbb (.inr (.inr (.inr (.inr qb)))),h81,h86];simp only [Bool.true_and,Bool.false_and,Bool.and_true,Bool.and_false])
   | (rw [tbb (.inr (.inr (.inr (.inr qb)))),h81,h86];rfl)
   | (rw [tbb (.inr (.inr (.inr (.inr qb)))),h81];simp only [Bool.true_and,Bool.false_and,Bool.and_true,Bool.and_false])
   | (rw [tbb (.inr (.inr (.inr (.inr qb)))),h81];rfl)
   | (rw [tbn q1 q4 q585 q588 q6 q9 qb11 qb12 qb13 qb14 qb15])
 have q588 : ¬ op = 8 := fun e => of_decide_eq_false h37 (by rw [e];rfl);refine .sr<|.yv (.eql Z Z) Z<|.a Z Z<|.nt<|.cd Z (fun h49 => ?_) (fun h49 => ?_)
 ·have q6 : op = 6 := UInt8.toNat_inj.1 (by have := of_decide_eq_true h49;show op.toNat = 6;omega);refine .sr<|.yv (.fieldAddr Z Fx.field76_2) Z<|.yv (.load Z Fx.agg2 (.head _) Z) Z<|.yv (.cast (.eql Z Z) (congrArg Value.bool i0)) Z<|.m Z Z<|.b2 (fun h54 => ?_) (fun h54 => ?_)
  ·skip
   refine .gd Z Z<|.yv (.loadW Z Fx.agg76 (.head _) Z) Z<|.gd Z Z<|.yv (.call Fx.call132 Z (fun W s => operands_any H op nm nn args 1 _ W h (fun a ha => ih a ha) s.agr)) Z<|.yv (.pickT Z Z) Z<|.a Z Z<|.nt<|.rt<|.bR<|.tR<|?_
   refine Sx.ret1 (.inl rfl) rfl (.tmp rfl) fun W s => ⟨?_,s.ext⟩
   first
    | (rw [tb1 q1,h10,h15];simp only [Bool.true_and,Bool.false_and,Bool.and_true,Bool.and_false])
    | (rw [tb1 q1,h10,h15];rfl)
    | (rw [tb1 q1,h10];simp only [Bool.true_and,Bool.false_and,Bool.and_true,Bool.and_false])
    | (rw [tb1 q1,h10];rfl)
    | (rw [tb4 q4,h26,h31];simp only [Bool.true_and,Bool.false_and,Bool.and_true,Bool.and_false])
    | (rw [tb4 q4,h26,h31];rfl)
    | (rw [tb4 q4,h26];simp only [Bool.true_and,Bool.false_and,Bool.and_true,Bool.and_false])
    | (rw [tb4 q4,h26];rfl)
    | (rw [tb5 (.inl q58),h43];simp only [Bool.true_and,Bool.false_and,Bool.and_true,Bool.and_false])
    | (rw [tb5 (.inl q58),h43];rfl)
    | (rw [tb5 (.inr q58),h43];simp only [Bool.true_and,Bool.false_and,Bool.and_true,Bool.and_false])
    | (rw [tb5 (.inr q58),h43];rfl)
    | (rw [tb6 q6,h54];simp only [Bool.true_and,Bool.false_and,Bool.and_true,Bool.and_false])
    | (rw [tb6 q6,h54];rfl)
    | (rw [tb9 q9,h63,h68];simp only [Bool.true_and,Bool.false_and,Bool.and_true,Bool.and_false])
    | (rw [tb9 q9,h63,h68];rfl)
    | (rw [tb9 q9,h63];simp only [Bool.true_and,Bool.false_and,Bool.and_true,Bool.and_false])
    | (rw [tb9 q9,h63];rfl)
    | (rw [tbb (.inl qb),h81,h86];simp only [Bool.true_and,Bool.false_and,Bool.and_true,Bool.and_false])
    | (rw [tbb (.inl qb),h81,h86];rfl)
    | (rw [tbb (.inl qb),h81];simp only [Bool.true_and,Bool.false_and,Bool.and_true,Bool.and_false])
    | (rw [tbb (.inl qb),h81];rfl)
    | (rw [tbb (.inr (.inl qb)),h81,h86];simp only [Bool.true_and,Bool.false_and,Bool.and_true,Bool.and_false])
    | (rw [tbb (.inr (.inl qb)),h81,h86];rfl)
    | (rw [tbb (.inr (.inl qb)),h81];simp only [Bool.true_and,Bool.false_and,Bool.and_true,Bool.and_false])
    | (rw [tbb (.inr (.inl qb)),h81];rfl)
    | (rw [tbb (.inr (.inr (.inl qb))),h81,h86];simp only [Bool.true_and,Bool.false_and,Bool.and_true,Bool.and_false])
    | (rw [tbb (.inr (.inr (.inl qb))),h81,h86];rfl)
    | (rw [tbb (.inr (.inr (.inl qb))),h81];simp only [Bool.true_and,Bool.false_and,Bool.and_true,Bool.and_false])
    | (rw [tbb (.inr (.inr (.inl qb))),h81];rfl)
    | (rw [tbb (.inr (.inr (.inr (.inl qb)))),h81,h86];simp only [Bool.true_and,Bool.false_and,Bool.and_true,Bool.and_false])
    | (rw [tbb (.inr (.inr (.inr (.inl qb)))),h81,h86];rfl)
    | (rw [tbb (.inr (.inr (.inr (.inl qb)))),h81];simp only [Bool.true_and,Bool.false_and,Bool.and_true,Bool.and_false])
    | (rw [tbb (.inr (.inr (.inr (.inl qb)))),h81];rfl)
    | (rw [tbb (.inr (.inr (.inr (.inr qb)))),h81,h86];simp only [Bool.true_and,Bool.false_and,Bool.and_true,Bool.and_false])
    | (rw [tbb (.inr (.inr (.inr (.inr qb)))),h81,h86];rfl)
    | (rw [tbb (.inr (.inr (.inr (.inr qb)))),h81];simp only [Bool.true_and,Bool.false_and,Bool.and_true,Bool.and_false])
    | (rw [tbb (.inr (.inr (.inr (.inr qb)))),h81];rfl)
    | (rw [tbn q1 q4 q585 q588 q6 q9 qb11 qb12 qb13 qb14 qb15])
  skip
  refine .gF Z Z Z Z<|.gF Z Z Z Z<|.yv (.pickF Z Z) Z<|.a Z Z<|.nt<|.rt<|.bR<|.tR<|?_
  refine Sx.ret1 (.inl rfl) rfl (.tmp rfl) fun W s => ⟨?_,s.ext⟩
  first
   | (rw [tb1 q1,h10,h15];simp only [Bool.true_and,Bool.false_and,Bool.and_true,Bool.and_false])
   | (rw [tb1 q1,h10,h15];rfl)
   | (rw [tb1 q1,h10];simp only [Bool.true_and,Bool.false_and,Bool.and_true,Bool.and_false])
   | (rw [tb1 q1,h10];rfl)
   | (rw [tb4 q4,h26,h31];simp only [Bool.true_and,Bool.false_and,Bool.and_true,Bool.and_false])
   | (rw [tb4 q4,h26,h31];rfl)
   | (rw [tb4 q4,h26];simp only [Bool.true_and,Bool.false_and,Bool.and_true,Bool.and_false])
   | (rw [tb4 q4,h26];rfl)
   | (rw [tb5 (.inl q58),h43];simp only [Bool.true_and,Bool.false_and,Bool.and_true,Bool.and_false])
   | (rw [tb5 (.inl q58),h43];rfl)
   | (rw [tb5 (.inr q58),h43];simp only [Bool.true_and,Bool.false_and,Bool.and_true,Bool.and_false])
   | (rw [tb5 (.inr q58),h43];rfl)
   | (rw [tb6 q6,h54];simp only [Bool.true_and,Bool.false_and,Bool.and_true,Bool.and_false])
   | (rw [tb6 q6,h54];rfl)
   | (rw [tb9 q9,h63,h68];simp only [Bool.true_and,Bool.false_and,Bool.and_true,Bool.and_false])
   | (rw [tb9 q9,h63,h68];rfl)
   | (rw [tb9 q9,h63];simp only [Bool.true_and,Bool.false_and,Bool.and_true,Bool.and_false])
   | (rw [tb9 q9,h63];rfl)
   | (rw [tbb (.inl qb),h81,h86];simp only [Bool.true_and,Bool.false_and,Bool.and_true,Bool.and_false])
   | (rw [tbb (.inl qb),h81,h86];rfl)
   | (rw [tbb (.inl qb),h81];simp only [Bool.true_and,Bool.false_and,Bool.and_true,Bool.and_false])
   | (rw [tbb (.inl qb),h81];rfl)
   | (rw [tbb (.inr (.inl qb)),h81,h86];simp only [Bool.true_and,Bool.false_and,Bool.and_true,Bool.and_false])
   | (rw [tbb (.inr (.inl qb)),h81,h86];rfl)
   | (rw [tbb (.inr (.inl qb)),h81];simp only [Bool.true_and,Bool.false_and,Bool.and_true,Bool.and_false])
   | (rw [tbb (.inr (.inl qb)),h81];rfl)
   | (rw [tbb (.inr (.inr (.inl qb))),h81,h86];simp only [Bool.true_and,Bool.false_and,Bool.and_true,Bool.and_false])
   | (rw [tbb (.inr (.inr (.inl qb))),h81,h86];rfl)
   | (rw [tbb (.inr (.inr (.inl qb))),h81];simp only [Bool.true_and,Bool.false_and,Bool.and_true,Bool.and_false])
   | (rw [tbb (.inr (.inr (.inl qb))),h81];rfl)
   | (rw [tbb (.inr (.inr (.inr (.inl qb)))),h81,h86];simp only [Bool.true_and,Bool.false_and,Bool.and_true,Bool.and_false])
   | (rw [tbb (.inr (.inr (.inr (.inl qb)))),h81,h86];rfl)
   | (rw [tbb (.inr (.inr (.inr (.inl qb)))),h81];simp only [Bool.true_and,Bool.false_and,Bool.and_true,Bool.and_false])
   | (rw [tbb (.inr (.inr (.inr (.inl qb)))),h81];rfl)
   | (rw [tbb (.inr (.inr (.inr (.inr qb)))),h81,h86];simp only [Bool.true_and,Bool.false_and,Bool.and_true,Bool.and_false])
   | (rw [tbb (.inr (.inr (.inr (.inr qb)))),h81,h86];rfl)
   | (rw [tbb (.inr (.inr (.inr (.inr qb)))),h81];simp only [Bool.true_and,Bool.false_and,Bool.and_true,Bool.and_false])
   | (rw [tbb (.inr (.inr (.inr (.inr qb)))),h81];rfl)
   | (rw [tbn q1 q4 q585 q588 q6 q9 qb11 qb12 qb13 qb14 qb15])
 have q6 : ¬ op = 6 := fun e => of_decide_eq_false h49 (by rw [e];rfl);refine .sr<|.yv (.eql Z Z) Z<|.a Z Z<|.nt<|.cd Z (fun h58 => ?_) (fun h58 => ?_)
 ·have q9 : op = 9 := UInt8.toNat_inj.1 (by have := of_decide_eq_true h58;show op.toNat = 9;omega);refine .sr<|.yv (.fieldAddr Z Fx.field76_1) Z<|.yv (.load Z Fx.agg9 (.head _) Z) Z<|.yv (.eqS Z Z) Z<|.m Z Z<|.b2 (fun h63 => ?_) (fun h63 => ?_)
  ·skip
   refine .gd Z Z<|.yv (.fieldAddr Z Fx.field76_2) Z<|.gd Z Z<|.yv (.load Z Fx.agg2 (.head _) Z) Z<|.gd Z Z<|.yv (.cast (.eql Z Z) (congrArg Value.bool i0)) Z<|.yv (.pickT Z Z) Z<|.m Z Z<|.b2 (fun h68 => ?_) (fun h68 => ?_)
   ·skip
    refine .gd Z Z<|.yv (.loadW Z Fx.agg76 (.head _) Z) Z<|.gd Z Z<|.yv (.call Fx.call132 Z (fun W s => operands_any H op nm nn args 1 _ W h (fun a ha => ih a ha) s.agr)) Z<|.yv (.pickT Z Z) Z<|.a Z Z<|.nt<|.rt<|.bR<|.tR<|?_
    refine Sx.ret1 (.inl rfl) rfl (.tmp rfl) fun W s => ⟨?_,s.ext⟩
    first
     | (rw [tb1 q1,h10,h15];simp only [Bool.true_and,Bool.false_and,Bool.and_true,Bool.and_false])
     | (rw [tb1 q1,h10,h15];rfl)
     | (rw [tb1 q1,h10];simp only [Bool.true_and,Bool.false_and,Bool.and_true,Bool.and_false])
     | (rw [tb1 q1,h10];rfl)
     | (rw [tb4 q4,h26,h31];simp only [Bool.true_and,Bool.false_and,Bool.and_true,Bool.and_false])
     | (rw [tb4 q4,h26,h31];rfl)
     | (rw [tb4 q4,h26];simp only [Bool.true_and,Bool.false_and,Bool.and_true,Bool.and_false])
     | (rw [tb4 q4,h26];rfl)
     | (rw [tb5 (.inl q58),h43];simp only [Bool.true_and,Bool.false_and,Bool.and_true,Bool.and_false])
     | (rw [tb5 (.inl q58),h43];rfl)
     | (rw [tb5 (.inr q58),h43];simp only [Bool.true_and,Bool.false_and,Bool.and_true,Bool.and_false])
     | (rw [tb5 (.inr q58),h43];rfl)
     | (rw [tb6 q6,h54];simp only [Bool.true_and,Bool.false_and,Bool.and_true,Bool.and_false])
     | (rw [tb6 q6,h54];rfl)
     | (rw [tb9 q9,h63,h68];simp only [Bool.true_and,Bool.false_and,Bool.and_true,Bool.and_false])
     | (rw [tb9 q9,h63,h68];rfl)
     | (rw [tb9 q9,h63];simp only [Bool.true_and,Bool.false_and,Bool.and_true,Bool.and_false])
     | (rw [tb9 q9,h63];rfl)
     | (rw [tbb (.inl qb),h81,h86];simp only [Bool.true_and,Bool.false_and,Bool.and_true,Bool.and_false])
     | (rw [tbb (.inl qb),h81,h86];rfl)
     | (rw [tbb (.inl qb),h81];simp only [Bool.true_and,Bool.false_and,Bool.and_true,Bool.and_false])
     | (rw [tbb (.inl qb),h81];rfl)
     | (rw [tbb (.inr (.inl qb)),h81,h86];simp only [Bool.true_and,Bool.false_and,Bool.and_true,Bool.and_false])
     | (rw [tbb (.inr (.inl qb)),h81,h86];rfl)
     | (rw [tbb (.inr (.inl qb)),h81];simp only [Bool.true_and,Bool.false_and,Bool.and_true,Bool.and_false])
     | (rw [tbb (.inr (.inl qb)),h81];rfl)
     | (rw [tbb (.inr (.inr (.inl qb))),h81,h86];simp only [Bool.true_and,Bool.false_and,Bool.and_true,Bool.and_false])
     | (rw [tbb (.inr (.inr (.inl qb))),h81,h86];rfl)
     | (rw [tbb (.inr (.inr (.inl qb))),h81];simp only [Bool.true_and,Bool.false_and,Bool.and_true,Bool.and_false])
     | (rw [tbb (.inr (.inr (.inl qb))),h81];rfl)
     | (rw [tbb (.inr (.inr (.inr (.inl qb)))),h81,h86];simp only [Bool.true_and,Bool.false_and,Bool.and_true,Bool.and_false])
     | (rw [tbb (.inr (.inr (.inr (.inl qb)))),h81,h86];rfl)
     | (rw [tbb (.inr (.inr (.inr (.inl qb)))),h81];simp only [Bool.true_and,Bool.false_and,Bool.and_true,Bool.and_false])
     | (rw [tbb (.inr (.inr (.inr (.inl qb)))),h81];rfl)
     | (rw [tbb (.inr (.inr (.inr (.inr qb)))),h81,h86];simp only [Bool.true_and,Bool.false_and,Bool.and_true,Bool.and_false])
     | (rw [tbb (.inr (.inr (.inr (.inr qb)))),h81,h86];rfl)
     | (rw [tbb (.inr (.inr (.inr (.inr qb)))),h81];simp only [Bool.true_and,Bool.false_and,Bool.and_true,Bool.and_false])
     | (rw [tbb (.inr (.inr (.inr (.inr qb)))),h81];rfl)
     | (rw [tbn q1 q4 q585 q588 q6 q9 qb11 qb12 qb13 qb14 qb15])
   skip
   refine .gF Z Z Z Z<|.gF Z Z Z Z<|.yv (.pickF Z Z) Z<|.a Z Z<|.nt<|.rt<|.bR<|.tR<|?_
   refine Sx.ret1 (.inl rfl) rfl (.tmp rfl) fun W s => ⟨?_,s.ext⟩
   first
    | (rw [tb1 q1,h10,h15];simp only [Bool.true_and,Bool.false_and,Bool.and_true,Bool.and_false])
    | (rw [tb1 q1,h10,h15];rfl)
    | (rw [tb1 q1,h10];simp only [Bool.true_and,Bool.false_and,Bool.and_true,Bool.and_false])
    | (rw [tb1 q1,h10];rfl)
    | (rw [tb4 q4,h26,h31];simp only [Bool.true_and,Bool.false_and,Bool.and_true,Bool.and_false])
    | (rw [tb4 q4,h26,h31];rfl)
    | (rw [tb4 q4,h26];simp only [Bool.true_and,Bool.false_and,Bool.and_true,Bool.and_false])
    | (rw [tb4 q4,h26];rfl)
    | (rw [tb5 (.inl q58),h43];simp only [Bool.true_and,Bool.false_and,Bool.and_true,Bool.and_false])
    | (rw [tb5 (.inl q58),h43];rfl)
    | (rw [tb5 (.inr q58),h43];simp only [Bool.true_and,Bool.false_and,Bool.and_true,Bool.and_false])
    | (rw [tb5 (.inr q58),h43];rfl)
    | (rw [tb6 q6,h54];simp only [Bool.true_and,Bool.false_and,Bool.and_true,Bool.and_false])
    | (rw [tb6 q6,h54];rfl)
    | (rw [tb9 q9,h63,h68];simp only [Bool.true_and,Bool.false_and,Bool.and_true,Bool.and_false])
    | (rw [tb9 q9,h63,h68];rfl)
    | (rw [tb9 q9,h63];simp only [Bool.true_and,Bool.false_and,Bool.and_true,Bool.and_false])
    | (rw [tb9 q9,h63];rfl)
    | (rw [tbb (.inl qb),h81,h86];simp only [Bool.true_and,Bool.false_and,Bool.and_true,Bool.and_false])
    | (rw [tbb (.inl qb),h81,h86];rfl)
    | (rw [tbb (.inl qb),h81];simp only [Bool.true_and,Bool.false_and,Bool.and_true,Bool.and_false])
    | (rw [tbb (.inl qb),h81];rfl)
    | (rw [tbb (.inr (.inl qb)),h81,h86];simp only [Bool.true_and,Bool.false_and,Bool.and_true,Bool.and_false])
    | (rw [tbb (.inr (.inl qb)),h81,h86];rfl)
    | (rw [tbb (.inr (.inl qb)),h81];simp only [Bool.true_and,Bool.false_and,Bool.and_true,Bool.and_false])
    | (rw [tbb (.inr (.inl qb)),h81];rfl)
    | (rw [tbb (.inr (.inr (.inl qb))),h81,h86];simp only [Bool.true_and,Bool.false_and,Bool.and_true,Bool.and_false])
    | (rw [tbb (.inr (.inr (.inl qb))),h81,h86];rfl)
    | (rw [tbb (.inr (.inr (.inl qb))),h81];simp only [Bool.true_and,Bool.false_and,Bool.and_true,Bool.and_false])
    | (rw [tbb (.inr (.inr (.inl qb))),h81];rfl)
    | (rw [tbb (.inr (.inr (.inr (.inl qb)))),h81,h86];simp only [Bool.true_and,Bool.false_and,Bool.and_true,Bool.and_false])
    | (rw [tbb (.inr (.inr (.inr (.inl qb)))),h81,h86];rfl)
    | (rw [tbb (.inr (.inr (.inr (.inl qb)))),h81];simp only [Bool.true_and,Bool.false_and,Bool.and_true,Bool.and_false])
    | (rw [tbb (.inr (.inr (.inr (.inl qb)))),h81];rfl)
    | (rw [tbb (.inr (.inr (.inr (.inr qb)))),h81,h86];simp only [Bool.true_and,Bool.false_and,Bool.and_true,Bool.and_false])
    | (rw [tbb (.inr (.inr (.inr (.inr qb)))),h81,h86];rfl)
    | (rw [tbb (.inr (.inr (.inr (.inr qb)))),h81];simp only [Bool.true_and,Bool.false_and,Bool.and_true,Bool.and_false])
    | (rw [tbb (.inr (.inr (.inr (.inr qb)))),h81];rfl)
    | (rw [tbn q1 q4 q585 q588 q6 q9 qb11 qb12 qb13 qb14 qb15])
  skip
  refine .gF Z Z Z Z<|.gF Z Z Z Z<|.gF Z Z Z Z<|.yv (.pickF Z Z) Z<|.m Z Z<|.gF Z Z Z Z<|.gF Z Z Z Z<|.yv (.pickF Z Z) Z<|.a Z Z<|.nt<|.rt<|.bR<|.tR<|?_
  refine Sx.ret1 (.inl rfl) rfl (.tmp rfl) fun W s => ⟨?_,s.ext⟩
  first
   | (rw [tb1 q1,h10,h15];simp only [Bool.true_and,Bool.false_and,Bool.and_true,Bool.and_false])
   | (rw [tb1 q1,h10,h15];rfl)
   | (rw [tb1 q1,h10];simp only [Bool.true_and,Bool.false_and,Bool.and_true,Bool.and_false])
   | (rw [tb1 q1,h10];rfl)
   | (rw [tb4 q4,h26,h31];simp only [Bool.true_and,Bool.false_and,Bool.and_true,Bool.and_false])
   | (rw [tb4 q4,h26,h31];rfl)
   | (rw [tb4 q4,h26];simp only [Bool.true_and,Bool.false_and,Bool.and_true,Bool.and_false])
   | (rw [tb4 q4,h26];rfl)
   | (rw [tb5 (.inl q58),h43];simp only [Bool.true_and,Bool.false_and,Bool.and_true,Bool.and_false])
   | (rw [tb5 (.inl q58),h43];rfl)
   | (rw [tb5 (.inr q58),h43];simp only [Bool.true_and,Bool.false_and,Bool.and_true,Bool.and_false])
   | (rw [tb5 (.inr q58),h43];rfl)
   | (rw [tb6 q6,h54];simp only [Bool.true_and,Bool.false_and,Bool.and_true,Bool.and_false])
   | (rw [tb6 q6,h54];rfl)
   | (rw [tb9 q9,h63,h68];simp only [Bool.true_and,Bool.false_and,Bool.and_true,Bool.and_false])
   | (rw [tb9 q9,h63,h68];rfl)
   | (rw [tb9 q9,h63];simp only [Bool.true_and,Bool.false_and,Bool.and_true,Bool.and_false])
   | (rw [tb9 q9,h63];rfl)
   | (rw [tbb (.inl qb),h81,h86];simp only [Bool.true_and,Bool.false_and,Bool.and_true,Bool.and_false])
   | (rw [tbb (.inl qb),h81,h86];rfl)
   | (rw [tbb (.inl qb),h81];simp only [Bool.true_and,Bool.false_and,Bool.and_true,Bool.and_false])
   | (rw [tbb (.inl qb),h81];rfl)
   | (rw [tbb (.inr (.inl qb)),h81,h86];simp only [Bool.true_and,Bool.false_and,Bool.and_true,Bool.and_false])
   | (rw [tbb (.inr (.inl qb)),h81,h86];rfl)
   | (rw [tbb (.inr (.inl qb)),h81];simp only [Bool.true_and,Bool.false_and,Bool.and_true,Bool.and_false])
   | (rw [tbb (.inr (.inl qb)),h81];rfl)
   | (rw [tbb (.inr (.inr (.inl qb))),h81,h86];simp only [Bool.true_and,Bool.false_and,Bool.and_true,Bool.and_false])
   | (rw [tbb (.inr (.inr (.inl qb))),h81,h86];rfl)
   | (rw [tbb (.inr (.inr (.inl qb))),h81];simp only [Bool.true_and,Bool.false_and,Bool.and_true,Bool.and_false])
   | (rw [tbb (.inr (.inr (.inl qb))),h81];rfl)
   | (rw [tbb (.inr (.inr (.inr (.inl qb)))),h81,h86];simp only [Bool.true_and,Bool.false_and,Bool.and_true,Bool.and_false])
   | (rw [tbb (.inr (.inr (.inr (.inl qb)))),h81,h86];rfl)
   | (rw [tbb (.inr (.inr (.inr (.inl qb)))),h81];simp only [Bool.true_and,Bool.false_and,Bool.and_true,Bool.and_false])
   | (rw [tbb (.inr (.inr (.inr (.inl qb)))),h81];rfl)
   | (rw [tbb (.inr (.inr (.inr (.inr qb)))),h81,h86];simp only [Bool.true_and,Bool.false_and,Bool.and_true,Bool.and_false])
   | (rw [tbb (.inr (.inr (.inr (.inr qb)))),h81,h86];rfl)
   | (rw [tbb (.inr (.inr (.inr (.inr qb)))),h81];simp only [Bool.true_and,Bool.false_and,Bool.and_true,Bool.and_false])
   | (rw [tbb (.inr (.inr (.inr (.inr qb)))),h81];rfl)
   | (rw [tbn q1 q4 q585 q588 q6 q9 qb11 qb12 qb13 qb14 qb15])
 have q9 : ¬ op = 9 := fun e => of_decide_eq_false h58 (by rw [e];rfl);refine .sq<|.sr<|.yv (.eql Z Z) Z<|.a Z Z<|.nt<|.cr Z (fun h72 => ?_) (fun h72 => ?_)
 ·have qb : op = 11 := UInt8.toNat_inj.1 (by have := of_decide_eq_true h72;show op.toNat = 11;omega);refine .sk<|.tN<|.cT Z<|.sr<|.yv (.fieldAddr Z Fx.field76_1) Z<|.yv (.load Z Fx.agg9 (.head _) Z) Z<|.yv (.eqS Z Z) Z<|.m Z Z<|.b2 (fun h81 => ?_) (fun h81 => ?_)
  ·skip
   refine .gd Z Z<|.yv (.fieldAddr Z Fx.field76_2) Z<|.gd Z Z<|.yv (.load Z Fx.agg2 (.head _) Z) Z<|.gd Z Z<|.yv (.cast (.eql Z Z) (congrArg Value.bool i0)) Z<|.yv (.pickT Z Z) Z<|.m Z Z<|.b2 (fun h86 => ?_) (fun h86 => ?_)
   ·skip
    refine .gd Z Z<|.yv (.loadW Z Fx.agg76 (.head _) Z) Z<|.gd Z Z<|.yv (.call Fx.call132 Z (fun W s => operands_any H op nm nn args 2 _ W h (fun a ha => ih a ha) s.agr)) Z<|.yv (.pickT Z Z) Z<|.a Z Z<|.nt<|.rt<|.bR<|.tR<|?_
    refine Sx.ret1 (.inl rfl) rfl (.tmp rfl) fun W s => ⟨?_,s.ext⟩
    first
     | (rw [tb1 q1,h10,h15];simp only [Bool.true_and,Bool.false_and,Bool.and_true,Bool.and_false])
     | (rw [tb1 q1,h10,h15];rfl)
     | (rw [tb1 q1,h10];simp only [Bool.true_and,Bool.false_and,Bool.and_true,Bool.and_false])
     | (rw [tb1 q1,h10];rfl)
     | (rw [tb4 q4,h26,h31];simp only [Bool.true_and,Bool.false_and,Bool.and_true,Bool.and_false])
     | (rw [tb4 q4,h26,h31];rfl)
     | (rw [tb4 q4,h26];simp only [Bool.true_and,Bool.false_and,Bool.and_true,Bool.and_false])
     | (rw [tb4 q4,h26];rfl)
     | (rw [tb5 (.inl q58),h43];simp only [Bool.true_and,Bool.false_and,Bool.and_true,Bool.and_false])
     | (rw [tb5 (.inl q58),h43];rfl)
     | (rw [tb5 (.inr q58),h43];simp only [Bool.true_and,Bool.false_and,Bool.and_true,Bool.and_false])
     | (rw [tb5 (.inr q58),h43];rfl)
     | (rw [tb6 q6,h54];simp only [Bool.true_and,Bool.false_and,Bool.and_true,Bool.and_false])
     | (rw [tb6 q6,h54];rfl)
     | (rw [tb9 q9,h63,h68];simp only [Bool.true_and,Bool.false_and,Bool.and_true,Bool.and_false])
     | (rw [tb9 q9,h63,h68];rfl)
     | (rw [tb9 q9,h63];simp only [Bool.true_and,Bool.false_and,Bool.and_true,Bool.and_false])
     | (rw [tb9 q9,h63];rfl)
     | (rw [tbb (.inl qb),h81,h86];simp only [Bool.true_and,Bool.false_and,Bool.and_true,Bool.and_false])
     | (rw [tbb (.inl qb),h81,h86];rfl)
     | (rw [tbb (.inl qb),h81];simp only [Bool.true_and,Bool.false_and,Bool.and_true,Bool.and_false])
     | (rw [tbb (.inl qb),h81];rfl)
     | (rw [tbb (.inr (.inl qb)),h81,h86];simp only [Bool.true_and,Bool.false_and,Bool.and_true,Bool.and_false])
     | (rw [tbb (.inr (.inl qb)),h81,h86];rfl)
     | (rw [tbb (.inr (.inl qb)),h81];simp only [Bool.true_and,Bool.false_and,Bool.and_true,Bool.and_false])
     | (rw [tbb (.inr (.inl qb)),h81];rfl)
     | (rw [tbb (.inr (.inr (.inl qb))),h81,h86];simp only [Bool.true_and,Bool.false_and,Bool.and_true,Bool.and_false])
     | (rw [tbb (.inr (.inr (.inl qb))),h81,h86];rfl)
     | (rw [tbb (.inr (.inr (.inl qb))),h81];simp only [Bool.true_and,Bool.false_and,Bool.and_true,Bool.and_false])
     | (rw [tbb (.inr (.inr (.inl qb))),h81];rfl)
     | (rw [tbb (.inr (.inr (.inr (.inl qb)))),h81,h86];simp only [Bool.true_and,Bool.false_and,Bool.and_true,Bool.and_false])
     | (rw [tbb (.inr (.inr (.inr (.inl qb)))),h81,h86];rfl)
     | (rw [tbb (.inr (.inr (.inr (.inl qb)))),h81];simp only [Bool.true_and,Bool.false_and,Bool.and_true,Bool.and_false])
     | (rw [tbb (.inr (.inr (.inr (.inl qb)))),h81];rfl)
     | (rw [tbb (.inr (.inr (.inr (.inr qb)))),h81,h86];simp only [Bool.true_and,Bool.false_and,Bool.and_true,Bool.and_false])
     | (rw [tbb (.inr (.inr (.inr (.inr qb)))),h81,h86];rfl)
     | (rw [tbb (.inr (.inr (.inr (.inr qb)))),h81];simp only [Bool.true_and,Bool.false_and,Bool.and_true,Bool.and_false])
     | (rw [tbb (.inr (.inr (.inr (.inr qb)))),h81];rfl)
     | (rw [tbn q1 q4 q585 q588 q6 q9 qb11 qb12 qb13 qb14 qb15])
   skip
   refine .gF Z Z Z Z<|.gF Z Z Z Z<|.yv (.pickF Z Z) Z<|.a Z Z<|.nt<|.rt<|.bR<|.tR<|?_
   refine Sx.ret1 (.inl rfl) rfl (.tmp rfl) fun W s => ⟨?_,s.ext⟩
   first
    | (rw [tb1 q1,h10,h15];simp only [Bool.true_and,Bool.false_and,Bool.and_true,Bool.and_false])
    | (rw [tb1 q1,h10,h15];rfl)
    | (rw [tb1 q1,h10];simp only [Bool.true_and,Bool.false_and,Bool.and_true,Bool.and_false])
    | (rw [tb1 q1,h10];rfl)
    | (rw [tb4 q4,h26,h31];simp only [Bool.true_and,Bool.false_and,Bool.and_true,Bool.and_false])
    | (rw [tb4 q4,h26,h31];rfl)
    | (rw [tb4 q4,h26];simp only [Bool.true_and,Bool.false_and,Bool.and_true,Bool.and_false])
    | (rw [tb4 q4,h26];rfl)
    | (rw [tb5 (.inl q58),h43];simp only [Bool.true_and,Bool.false_and,Bool.and_true,Bool.and_false])
    | (rw [tb5 (.inl q58),h43];rfl)
    | (rw [tb5 (.inr q58),h43];simp only [Bool.true_and,Bool.false_and,Bool.and_true,Bool.and_false])
    | (rw [tb5 (.inr q58),h43];rfl)
    | (rw [tb6 q6,h54];simp only [Bool.true_and,Bool.false_and,Bool.and_true,Bool.and_false])
    | (rw [tb6 q6,h54];rfl)
    | (rw [tb9 q9,h63,h68];simp only [Bool.true_and,Bool.false_and,Bool.and_true,Bool.and_false])
    | (rw [tb9 q9,h63,h68];rfl)
    | (rw [tb9 q9,h63];simp only [Bool.true_and,Bool.false_and,Bool.and_true,Bool.and_false])
    | (rw [tb9 q9,h63];rfl)
    | (rw [tbb (.inl qb),h81,h86];simp only [Bool.true_and,Bool.false_and,Bool.and_true,Bool.and_false])
    | (rw [tbb (.inl qb),h81,h86];rfl)
    | (rw [tbb (.inl qb),h81];simp only [Bool.true_and,Bool.false_and,Bool.and_true,Bool.and_false])
    | (rw [tbb (.inl qb),h81];rfl)
    | (rw [tbb (.inr (.inl qb)),h81,h86];simp only [Bool.true_and,Bool.false_and,Bool.and_true,Bool.and_false])
    | (rw [tbb (.inr (.inl qb)),h81,h86];rfl)
    | (rw [tbb (.inr (.inl qb)),h81];simp only [Bool.true_and,Bool.false_and,Bool.and_true,Bool.and_false])
    | (rw [tbb (.inr (.inl qb)),h81];rfl)
    | (rw [tbb (.inr (.inr (.inl qb))),h81,h86];simp only [Bool.true_and,Bool.false_and,Bool.and_true,Bool.and_false])
    | (rw [tbb (.inr (.inr (.inl qb))),h81,h86];rfl)
    | (rw [tbb (.inr (.inr (.inl qb))),h81];simp only [Bool.true_and,Bool.false_and,Bool.and_true,Bool.and_false])
    | (rw [tbb (.inr (.inr (.inl qb))),h81];rfl)
    | (rw [tbb (.inr (.inr (.inr (.inl qb)))),h81,h86];simp only [Bool.true_and,Bool.false_and,Bool.and_true,Bool.and_false])
    | (rw [tbb (.inr (.inr (.inr (.inl qb)))),h81,h86];rfl)
    | (rw [tbb (.inr (.inr (.inr (.inl qb)))),h81];simp only [Bool.true_and,Bool.false_and,Bool.and_true,Bool.and_false])
    | (rw [tbb (.inr (.inr (.inr (.inl qb)))),h81];rfl)
    | (rw [tbb (.inr (.inr (.inr (.inr qb)))),h81,h86];simp only [Bool.true_and,Bool.false_and,Bool.and_true,Bool.and_false])
    | (rw [tbb (.inr (.inr (.inr (.inr qb)))),h81,h86];rfl)
    | (rw [tbb (.inr (.inr (.inr (.inr qb)))),h81];simp only [Bool.true_and,Bool.false_and,Bool.and_true,Bool.and_false])
    | (rw [tbb (.inr (.inr (.inr (.inr qb)))),h81];rfl)
    | (rw [tbn q1 q4 q585 q588 q6 q9 qb11 qb12 qb13 qb14 qb15])
  skip
  refine .gF Z Z Z Z<|.gF Z Z Z Z<|.gF Z Z Z Z<|.yv (.pickF Z Z) Z<|.m Z Z<|.gF Z Z Z Z<|.gF Z Z Z Z<|.yv (.pickF Z Z) Z<|.a Z Z<|.nt<|.rt<|.bR<|.tR<|?_
  refine Sx.ret1 (.inl rfl) rfl (.tmp rfl) fun W s => ⟨?_,s.ext⟩
  first
   | (rw [tb1 q1,h10,h15];simp only [Bool.true_and,Bool.false_and,Bool.and_true,Bool.and_false])
   | (rw [tb1 q1,h10,h15];rfl)
   | (rw [tb1 q1,h10];simp only [Bool.true_and,Bool.false_and,Bool.and_true,Bool.and_false])
   | (rw [tb1 q1,h10];rfl)
   | (rw [tb4 q4,h26,h31];simp only [Bool.true_and,Bool.false_and,Bool.and_true,Bool.and_false])
   | (rw [tb4 q4,h26,h31];rfl)
   | (rw [tb4 q4,h26];simp only [Bool.true_and,Bool.false_and,Bool.and_true,Bool.and_false])
   | (rw [tb4 q4,h26];rfl)
   | (rw [tb5 (.inl q58),h43];simp only [Bool.true_and,Bool.false_and,Bool.and_true,Bool.and_false])
   | (rw [tb5 (.inl q58),h43];rfl)
   | (rw [tb5 (.inr q58),h43];simp only [Bool.true_and,Bool.false_and,Bool.and_true,Bool.and_false])
   | (rw [tb5 (.inr q58),h43];rfl)
   | (rw [tb6 q6,h54];simp only [Bool.true_and,Bool.false_and,Bool.and_true,Bool.and_false])
   | (rw [tb6 q6,h54];rfl)
   | (rw [tb9 q9,h63,h68];simp only [Bool.true_and,Bool.false_and,Bool.and_true,Bool.and_false])
   | (rw [tb9 q9,h63,h68];rfl)
   | (rw [tb9 q9,h63];simp only [Bool.true_and,Bool.false_and,Bool.and_true,Bool.and_false])
   | (rw [tb9 q9,h63];rfl)
   | (rw [tbb (.inl qb),h81,h86];simp only [Bool.true_and,Bool.false_and,Bool.and_true,Bool.and_false])
   | (rw [tbb (.inl qb),h81,h86];rfl)
   | (rw [tbb (.inl qb),h81];simp only [Bool.true_and,Bool.false_and,Bool.and_true,Bool.and_false])
   | (rw [tbb (.inl qb),h81];rfl)
   | (rw [tbb (.inr (.inl qb)),h81,h86];simp only [Bool.true_and,Bool.false_and,Bool.and_true,Bool.and_false])
   | (rw [tbb (.inr (.inl qb)),h81,h86];rfl)
   | (rw [tbb (.inr (.inl qb)),h81];simp only [Bool.true_and,Bool.false_and,Bool.and_true,Bool.and_false])
   | (rw [tbb (.inr (.inl qb)),h81];rfl)
   | (rw [tbb (.inr (.inr (.inl qb))),h81,h86];simp only [Bool.true_and,Bool.false_and,Bool.and_true,Bool.and_false])
   | (rw [tbb (.inr (.inr (.inl qb))),h81,h86];rfl)
   | (rw [tbb (.inr (.inr (.inl qb))),h81];simp only [Bool.true_and,Bool.false_and,Bool.and_true,Bool.and_false])
   | (rw [tbb (.inr (.inr (.inl qb))),h81];rfl)
   | (rw [tbb (.inr (.inr (.inr (.inl qb)))),h81,h86];simp only [Bool.true_and,Bool.false_and,Bool.and_true,Bool.and_false])
   | (rw [tbb (.inr (.inr (.inr (.inl qb)))),h81,h86];rfl)
   | (rw [tbb (.inr (.inr (.inr (.inl qb)))),h81];simp only [Bool.true_and,Bool.false_and,Bool.and_true,Bool.and_false])
   | (rw [tbb (.inr (.inr (.inr (.inl qb)))),h81];rfl)
   | (rw [tbb (.inr (.inr (.inr (.inr qb)))),h81,h86];simp only [Bool.true_and,Bool.false_and,Bool.and_true,Bool.and_false])
   | (rw [tbb (.inr (.inr (.inr (.inr qb)))),h81,h86];rfl)
   | (rw [tbb (.inr (.inr (.inr (.inr qb)))),h81];simp only [Bool.true_and,Bool.false_and,Bool.and_true,Bool.and_false])
   | (rw [tbb (.inr (.inr (.inr (.inr qb)))),h81];rfl)
   | (rw [tbn q1 q4 q585 q588 q6 q9 qb11 qb12 qb13 qb14 qb15])
 have qb11 : ¬ op = 11 := fun e => of_decide_eq_false h72 (by rw [e];rfl);refine .sr<|.yv (.eql Z Z) Z<|.a Z Z<|.nt<|.cr Z (fun h72 => ?_) (fun h72 => ?_)
 ·have qb : op = 12 := UInt8.toNat_inj.1 (by have := of_decide_eq_true h72;show op.toNat = 12;omega);refine .sk<|.tN<|.cT Z<|.sr<|.yv (.fieldAddr Z Fx.field76_1) Z<|.yv (.load Z Fx.agg9 (.head _) Z) Z<|.yv (.eqS Z Z) Z<|.m Z Z<|.b2 (fun h81 => ?_) (fun h81 => ?_)
  ·skip
   refine .gd Z Z<|.yv (.fieldAddr Z Fx.field76_2) Z<|.gd Z Z<|.yv (.load Z Fx.agg2 (.head _) Z) Z<|.gd Z Z<|.yv (.cast (.eql Z Z) (congrArg Value.bool i0)) Z<|.yv (.pickT Z Z) Z<|.m Z Z<|.b2 (fun h86 => ?_) (fun h86 => ?_)
   ·skip
    refine .gd Z Z<|.yv (.loadW Z Fx.agg76 (.head _) Z) Z<|.gd Z Z<|.yv (.call Fx.call132 Z (fun W s => operands_any H op nm nn args 2 _ W h (fun a ha => ih a ha) s.agr)) Z<|.yv (.pickT Z Z) Z<|.a Z Z<|.nt<|.rt<|.bR<|.tR<|?_
    refine Sx.ret1 (.inl rfl) rfl (.tmp rfl) fun W s => ⟨?_,s.ext⟩
    first
     | (rw [tb1 q1,h10,h15];simp only [Bool.true_and,Bool.false_and,Bool.and_true,Bool.and_false])
     | (rw [tb1 q1,h10,h15];rfl)
     | (rw [tb1 q1,h10];simp only [Bool.true_and,Bool.false_and,Bool.and_true,Bool.and_false])
     | (rw [tb1 q1,h10];rfl)
     | (rw [tb4 q4,h26,h31];simp only [Bool.true_and,Bool.false_and,Bool.and_true,Bool.and_false])
     | (rw [tb4 q4,h26,h31];rfl)
     | (rw [tb4 q4,h26];simp only [Bool.true_and,Bool.false_and,Bool.and_true,Bool.and_false])
     | (rw [tb4 q4,h26];rfl)
     | (rw [tb5 (.inl q58),h43];simp only [Bool.true_and,Bool.false_and,Bool.and_true,Bool.and_false])
     | (rw [tb5 (.inl q58),h43];rfl)
     | (rw [tb5 (.inr q58),h43];simp only [Bool.true_and,Bool.false_and,Bool.and_true,Bool.and_false])
     | (rw [tb5 (.inr q58),h43];rfl)
     | (rw [tb6 q6,h54];simp only [Bool.true_and,Bool.false_and,Bool.and_true,Bool.and_false])
     | (rw [tb6 q6,h54];rfl)
     | (rw [tb9 q9,h63,h68];simp only [Bool.true_and,Bool.false_and,Bool.and_true,Bool.and_false])
     | (rw [tb9 q9,h63,h68];rfl)
     | (rw [tb9 q9,h63];simp only [Bool.true_and,Bool.false_and,Bool.and_true,Bool.and_false])
     | (rw [tb9 q9,h63];rfl)
     | (rw [tbb (.inl qb),h81,h86];simp only [Bool.true_and,Bool.false_and,Bool.and_true,Bool.and_false])
     | (rw [tbb (.inl qb),h81,h86];rfl)
     | (rw [tbb (.inl qb),h81];simp only [Bool.true_and,Bool.false_and,Bool.and_true,Bool.and_false])
     | (rw [tbb (.inl qb),h81];rfl)
     | (rw [tbb (.inr (.inl qb)),h81,h86];simp only [Bool.true_and,Bool.false_and,Bool.and_true,Bool.and_false])
     | (rw [tbb (.inr (.inl qb)),h81,h86];rfl)
     | (rw [tbb (.inr (.inl qb)),h81];simp only [Bool.true_and,Bool.false_and,Bool.and_true,Bool.and_false])
     | (rw [tbb (.inr (.inl qb)),h81];rfl)
     | (rw [tbb (.inr (.inr (.inl qb))),h81,h86];simp only [Bool.true_and,Bool.false_and,Bool.and_true,Bool.and_false])
     | (rw [tbb (.inr (.inr (.inl qb))),h81,h86];rfl)
     | (rw [tbb (.inr (.inr (.inl qb))),h81];simp only [Bool.true_and,Bool.false_and,Bool.and_true,Bool.and_false])
     | (rw [tbb (.inr (.inr (.inl qb))),h81];rfl)
     | (rw [tbb (.inr (.inr (.inr (.inl qb)))),h81,h86];simp only [Bool.true_and,Bool.false_and,Bool.and_true,Bool.and_false])
     | (rw [tbb (.inr (.inr (.inr (.inl qb)))),h81,h86];rfl)
     | (rw [tbb (.inr (.inr (.inr (.inl qb)))),h81];simp only [Bool.true_and,Bool.false_and,Bool.and_true,Bool.and_false])
     | (rw [tbb (.inr (.inr (.inr (.inl qb)))),h81];rfl)
     | (rw [tbb (.inr (.inr (.inr (.inr qb)))),h81,h86];simp only [Bool.true_and,Bool.false_and,Bool.and_true,Bool.and_false])
     | (rw [tbb (.inr (.inr (.inr (.inr qb)))),h81,h86];rfl)
     | (rw [tbb (.inr (.inr (.inr (.inr qb)))),h81];simp only [Bool.true_and,Bool.false_and,Bool.and_true,Bool.and_false])
     | (rw [tbb (.inr (.inr (.inr (.inr qb)))),h81];rfl)
     | (rw [tbn q1 q4 q585 q588 q6 q9 qb11 qb12 qb13 qb14 qb15])
   skip
   refine .gF Z Z Z Z<|.gF Z Z Z Z<|.yv (.pickF Z Z) Z<|.a Z Z<|.nt<|.rt<|.bR<|.tR<|?_
   refine Sx.ret1 (.inl rfl) rfl (.tmp rfl) fun W s => ⟨?_,s.ext⟩
   first
    | (rw [tb1 q1,h10,h15];simp only [Bool.true_and,Bool.false_and,Bool.and_true,Bool.and_false])
    | (rw [tb1 q1,h10,h15];rfl)
    | (rw [tb1 q1,h10];simp only [Bool.true_and,Bool.false_and,Bool.and_true,Bool.and_false])
    | (rw [tb1 q1,h10];rfl)
    | (rw [tb4 q4,h26,h31];simp only [Bool.true_and,Bool.false_and,Bool.and_true,Bool.and_false])
    | (rw [tb4 q4,h26,h31];rfl)
    | (rw [tb4 q4,h26];simp only [Bool.true_and,Bool.false_and,Bool.and_true,Bool.and_false])
    | (rw [tb4 q4,h26];rfl)
    | (rw [tb5 (.inl q58),h43];simp only [Bool.true_and,Bool.false_and,Bool.and_true,Bool.and_false])
    | (rw [tb5 (.inl q58),h43];rfl)
    | (rw [tb5 (.inr q58),h43];simp only [Bool.true_and,Bool.false_and,Bool.and_true,Bool.and_false])
    | (rw [tb5 (.inr q58),h43];rfl)
    | (rw [tb6 q6,h54];simp only [Bool.true_and,Bool.false_and,Bool.and_true,Bool.and_false])
    | (rw [tb6 q6,h54];rfl)
    | (rw [tb9 q9,h63,h68];simp only [Bool.true_and,Bool.false_and,Bool.and_true,Bool.and_false])
    | (rw [tb9 q9,h63,h68];rfl)
    | (rw [tb9 q9,h63];simp only [Bool.true_and,Bool.false_and,Bool.and_true,Bool.and_false])
    | (rw [tb9 q9,h63];rfl)
    | (rw [tbb (.inl qb),h81,h86];simp only [Bool.true_and,Bool.false_and,Bool.and_true,Bool.and_false])
    | (rw [tbb (.inl qb),h81,h86];rfl)
    | (rw [tbb (.inl qb),h81];simp only [Bool.true_and,Bool.false_and,Bool.and_true,Bool.and_false])
    | (rw [tbb (.inl qb),h81];rfl)
    | (rw [tbb (.inr (.inl qb)),h81,h86];simp only [Bool.true_and,Bool.false_and,Bool.and_true,Bool.and_false])
    | (rw [tbb (.inr (.inl qb)),h81,h86];rfl)
    | (rw [tbb (.inr (.inl qb)),h81];simp only [Bool.true_and,Bool.false_and,Bool.and_true,Bool.and_false])
    | (rw [tbb (.inr (.inl qb)),h81];rfl)
    | (rw [tbb (.inr (.inr (.inl qb))),h81,h86];simp only [Bool.true_and,Bool.false_and,Bool.and_true,Bool.and_false])
    | (rw [tbb (.inr (.inr (.inl qb))),h81,h86];rfl)
    | (rw [tbb (.inr (.inr (.inl qb))),h81];simp only [Bool.true_and,Bool.false_and,Bool.and_true,Bool.and_false])
    | (rw [tbb (.inr (.inr (.inl qb))),h81];rfl)
    | (rw [tbb (.inr (.inr (.inr (.inl qb)))),h81,h86];simp only [Bool.true_and,Bool.false_and,Bool.and_true,Bool.and_false])
    | (rw [tbb (.inr (.inr (.inr (.inl qb)))),h81,h86];rfl)
    | (rw [tbb (.inr (.inr (.inr (.inl qb)))),h81];simp only [Bool.true_and,Bool.false_and,Bool.and_true,Bool.and_false])
    | (rw [tbb (.inr (.inr (.inr (.inl qb)))),h81];rfl)
    | (rw [tbb (.inr (.inr (.inr (.inr qb)))),h81,h86];simp only [Bool.true_and,Bool.false_and,Bool.and_true,Bool.and_false])
    | (rw [tbb (.inr (.inr (.inr (.inr qb)))),h81,h86];rfl)
    | (rw [tbb (.inr (.inr (.inr (.inr qb)))),h81];simp only [Bool.true_and,Bool.false_and,Bool.and_true,Bool.and_false])
    | (rw [tbb (.inr (.inr (.inr (.inr qb)))),h81];rfl)
    | (rw [tbn q1 q4 q585 q588 q6 q9 qb11 qb12 qb13 qb14 qb15])
  skip
  refine .gF Z Z Z Z<|.gF Z Z Z Z<|.gF Z Z Z Z<|.yv (.pickF Z Z) Z<|.m Z Z<|.gF Z Z Z Z<|.gF Z Z Z Z<|.yv (.pickF Z Z) Z<|.a Z Z<|.nt<|.rt<|.bR<|.tR<|?_
  refine Sx.ret1 (.inl rfl) rfl (.tmp rfl) fun W s => ⟨?_,s.ext⟩
  first
   | (rw [tb1 q1,h10,h15];simp only [Bool.true_and,Bool.false_and,Bool.and_true,Bool.and_false])
   | (rw [tb1 q1,h10,h15];rfl)
   | (rw [tb1 q1,h10];simp only [Bool.true_and,Bool.false_and,Bool.and_true,Bool.and_false])
   | (rw [tb1 q1,h10];rfl)
   | (rw [tb4 q4,h26,h31];simp only [Bool.true_and,Bool.false_and,Bool.and_true,Bool.and_false])
   | (rw [tb4 q4,h26,h31];rfl)
   | (rw [tb4 q4,h26];simp only [Bool.true_and,Bool.false_and,Bool.and_true,Bool.and_false])
   | (rw [tb4 q4,h26];rfl)
   | (rw [tb5 (.inl q58),h43];simp only [Bool.true_and,Bool.false_and,Bool.and_true,Bool.and_false])
   | (rw [tb5 (.inl q58),h43];rfl)
   | (rw [tb5 (.inr q58),h43];simp only [Bool.true_and,Bool.false_and,Bool.and_true,Bool.and_false])
   | (rw [tb5 (.inr q58),h43];rfl)
   | (rw [tb6 q6,h54];simp only [Bool.true_and,Bool.false_and,Bool.and_true,Bool.and_false])
   | (rw [tb6 q6,h54];rfl)
   | (rw [tb9 q9,h63,h68];simp only [Bool.true_and,Bool.false_and,Bool.and_true,Bool.and_false])
   | (rw [tb9 q9,h63,h68];rfl)
   | (rw [tb9 q9,h63];simp only [Bool.true_and,Bool.false_and,Bool.and_true,Bool.and_false])
   | (rw [tb9 q9,h63];rfl)
   | (rw [tbb (.inl qb),h81,h86];simp only [Bool.true_and,Bool.false_and,Bool.and_true,Bool.and_false])
   | (rw [tbb (.inl qb),h81,h86];rfl)
   | (rw [tbb (.inl qb),h81];simp only [Bool.true_and,Bool.false_and,Bool.and_true,Bool.and_false])
   | (rw [tbb (.inl qb),h81];rfl)
   | (rw [tbb (.inr (.inl qb)),h81,h86];simp only [Bool.true_and,Bool.false_and,Bool.and_true,Bool.and_false])
   | (rw [tbb (.inr (.inl qb)),h81,h86];rfl)
   | (rw [tbb (.inr (.inl qb)),h81];simp only [Bool.true_and,Bool.false_and,Bool.and_true,Bool.and_false])
   | (rw [tbb (.inr (.inl qb)),h81];rfl)
   | (rw [tbb (.inr (.inr (.inl qb))),h81,h86];simp only [Bool.true_and,Bool.false_and,Bool.and_true,Bool.and_false])
   | (rw [tbb (.inr (.inr (.inl qb))),h81,h86];rfl)
   | (rw [tbb (.inr (.inr (.inl qb))),h81];simp only [Bool.true_and,Bool.false_and,Bool.and_true,Bool.and_false])
   | (rw [tbb (.inr (.inr (.inl qb))),h81];rfl)
   | (rw [tbb (.inr (.inr (.inr (.inl qb)))),h81,h86];simp only [Bool.true_and,Bool.false_and,Bool.and_true,Bool.and_false])
   | (rw [tbb (.inr (.inr (.inr (.inl qb)))),h81,h86];rfl)
   | (rw [tbb (.inr (.inr (.inr (.inl qb)))),h81];simp only [Bool.true_and,Bool.false_and,Bool.and_true,Bool.and_false])
   | (rw [tbb (.inr (.inr (.inr (.inl qb)))),h81];rfl)
   | (rw [tbb (.inr (.inr (.inr (.inr qb)))),h81,h86];simp only [Bool.true_and,Bool.false_and,Bool.and_true,Bool.and_false])
   | (rw [tbb (.inr (.inr (.inr (.inr qb)))),h81,h86];rfl)
   | (rw [tbb (.inr (.inr (.inr (.inr qb)))),h81];simp only [Bool.true_and,Bool.false_and,Bool.and_true,Bool.and_false])
   | (rw [tbb (.inr (.inr (.inr (.inr qb)))),h81];rfl)
   | (rw [tbn q1 q4 q585 q588 q6 q9 qb11 qb12 qb13 qb14 qb15])
 have qb12 : ¬ op = 12 := fun e => of_decide_eq_false h72 (by rw [e];rfl);refine .sr<|.yv (.eql Z Z) Z<|.a Z Z<|.nt<|.cr Z (fun h72 => ?_) (fun h72 => ?_)
 ·have qb : op = 13 := UInt8.toNat_inj.1 (by have := of_decide_eq_true h72;show op.toNat = 13;omega);refine .sk<|.tN<|.cT Z<|.sr<|.yv (.fieldAddr Z Fx.field76_1) Z<|.yv (.load Z Fx.agg9 (.head _) Z) Z<|.yv (.eqS Z Z) Z<|.m Z Z<|.b2 (fun h81 => ?_) (fun h81 => ?_)
  ·skip
   refine .gd Z Z<|.yv (.fieldAddr Z Fx.field76_2) Z<|.gd Z Z<|.yv (.load Z Fx.agg2 (.head _) Z) Z<|.gd Z Z<|.yv (.cast (.eql Z Z) (congrArg Value.bool i0)) Z<|.yv (.pickT Z Z) Z<|.m Z Z<|.b2 (fun h86 => ?_) (fun h86 => ?_)
   ·skip
    refine .gd Z Z<|.yv (.loadW Z Fx.agg76 (.head _) Z) Z<|.gd Z Z<|.yv (.call Fx.call132 Z (fun W s => operands_any H op nm nn args 2 _ W h (fun a ha => ih a ha) s.agr)) Z<|.yv (.pickT Z Z) Z<|.a Z Z<|.nt<|.rt<|.bR<|.tR<|?_
    refine Sx.ret1 (.inl rfl) rfl (.tmp rfl) fun W s => ⟨?_,s.ext⟩
    first
     | (rw [tb1 q1,h10,h15];simp only [Bool.true_and,Bool.false_and,Bool.and_true,Bool.and_false])
     | (rw [tb1 q1,h10,h15];rfl)
     | (rw [tb1 q1,h10];simp only [Bool.true_and,Bool.false_and,Bool.and_true,Bool.and_false])
     | (rw [tb1 q1,h10];rfl)
     | (rw [tb4 q4,h26,h31];simp only [Bool.true_and,Bool.false_and,Bool.and_true,Bool.and_false])
     | (rw [tb4 q4,h26,h31];rfl)
     | (rw [tb4 q4,h26];simp only [Bool.true_and,Bool.false_and,Bool.and_true,Bool.and_false])
     | (rw [tb4 q4,h26];rfl)
     | (rw [tb5 (.inl q58),h43];simp only [Bool.true_and,Bool.false_and,Bool.and_true,Bool.and_false])
     | (rw [tb5 (.inl q58),h43];rfl)
     | (rw [tb5 (.inr q58),h43];simp only [Bool.true_and,Bool.false_and,Bool.and_true,Bool.and_false])
     | (rw [tb5 (.inr q58),h43];rfl)
     | (rw [tb6 q6,h54];simp only [Bool.true_and,Bool.false_and,Bool.and_true,Bool.and_false])
     | (rw [tb6 q6,h54];rfl)
     | (rw [tb9 q9,h63,h68];simp only [Bool.true_and,Bool.false_and,Bool.and_true,Bool.and_false])
     | (rw [tb9 q9,h63,h68];rfl)
     | (rw [tb9 q9,h63];simp only [Bool.true_and,Bool.false_and,Bool.and_true,Bool.and_false])
     | (rw [tb9 q9,h63];rfl)
     | (rw [tbb (.inl qb),h81,h86];simp only [Bool.true_and,Bool.false_and,Bool.and_true,Bool.and_false])
     | (rw [tbb (.inl qb),h81,h86];rfl)
     | (rw [tbb (.inl qb),h81];simp only [Bool.true_and,Bool.false_and,Bool.and_true,Bool.and_false])
     | (rw [tbb (.inl qb),h81];rfl)
     | (rw [tbb (.inr (.inl qb)),h81,h86];simp only [Bool.true_and,Bool.false_and,Bool.and_true,Bool.and_false])
     | (rw [tbb (.inr (.inl qb)),h81,h86];rfl)
     | (rw [tbb (.inr (.inl qb)),h81];simp only [Bool.true_and,Bool.false_and,Bool.and_true,Bool.and_false])
     | (rw [tbb (.inr (.inl qb)),h81];rfl)
     | (rw [tbb (.inr (.inr (.inl qb))),h81,h86];simp only [Bool.true_and,Bool.false_and,Bool.and_true,Bool.and_false])
     | (rw [tbb (.inr (.inr (.inl qb))),h81,h86];rfl)
     | (rw [tbb (.inr (.inr (.inl qb))),h81];simp only [Bool.true_and,Bool.false_and,Bool.and_true,Bool.and_false])
     | (rw [tbb (.inr (.inr (.inl qb))),h81];rfl)
     | (rw [tbb (.inr (.inr (.inr (.inl qb)))),h81,h86];simp only [Bool.true_and,Bool.false_and,Bool.and_true,Bool.and_false])
     | (rw [tbb (.inr (.inr (.inr (.inl qb)))),h81,h86];rfl)
     | (rw [tbb (.inr (.inr (.inr (.inl qb)))),h81];simp only [Bool.true_and,Bool.false_and,Bool.and_true,Bool.and_false])
     | (rw [tbb (.inr (.inr (.inr (.inl qb)))),h81];rfl)
     | (rw [tbb (.inr (.inr (.inr (.inr qb)))),h81,h86];simp only [Bool.true_and,Bool.false_and,Bool.and_true,Bool.and_false])
     | (rw [tbb (.inr (.inr (.inr (.inr qb)))),h81,h86];rfl)
     | (rw [tbb (.inr (.inr (.inr (.inr qb)))),h81];simp only [Bool.true_and,Bool.false_and,Bool.and_true,Bool.and_false])
     | (rw [tbb (.inr (.inr (.inr (.inr qb)))),h81];rfl)
     | (rw [tbn q1 q4 q585 q588 q6 q9 qb11 qb12 qb13 qb14 qb15])
   skip
   refine .gF Z Z Z Z<|.gF Z Z Z Z<|.yv (.pickF Z Z) Z<|.a Z Z<|.nt<|.rt<|.bR<|.tR<|?_
   refine Sx.ret1 (.inl rfl) rfl (.tmp rfl) fun W s => ⟨?_,s.ext⟩
   first
    | (rw [tb1 q1,h10,h15];simp only [Bool.true_and,Bool.false_and,Bool.and_true,Bool.and_false])
    | (rw [tb1 q1,h10,h15];rfl)
    | (rw [tb1 q1,h10];simp only [Bool.true_and,Bool.false_and,Bool.and_true,Bool.and_false])
    | (rw [tb1 q1,h10];rfl)
    | (rw [tb4 q4,h26,h31];simp only [Bool.true_and,Bool.false_and,Bool.and_true,Bool.and_false])
    | (rw [tb4 q4,h26,h31];rfl)
    | (rw [tb4 q4,h26];simp only [Bool.true_and,Bool.false_and,Bool.and_true,Bool.and_false])
    | (rw [tb4 q4,h26];rfl)
    | (rw [tb5 (.inl q58),h43];simp only [Bool.true_and,Bool.false_and,Bool.and_true,Bool.and_false])
    | (rw [tb5 (.inl q58),h43];rfl)
    | (rw [tb5 (.inr q58),h43];simp only [Bool.true_and,Bool.false_and,Bool.and_true,Bool.and_false])
    | (rw [tb5 (.inr q58),h43];rfl)
    | (rw [tb6 q6,h54];simp only [Bool.true_and,Bool.false_and,Bool.and_true,Bool.and_false])
    | (rw [tb6 q6,h54];rfl)
    | (rw [tb9 q9,h63,h68];simp only [Bool.true_and,Bool.false_and,Bool.and_true,Bool.and_false])
    | (rw [tb9 q9,h63,h68];rfl)
    | (rw [tb9 q9,h63];simp only [Bool.true_and,Bool.false_and,Bool.and_true,Bool.and_false])
    | (rw [tb9 q9,h63];rfl)
    | (rw [tbb (.inl qb),h81,h86];simp only [Bool.true_and,Bool.false_and,Bool.and_true,Bool.and_false])
    | (rw [tbb (.inl qb),h81,h86];rfl)
    | (rw [tbb (.inl qb),h81];simp only [Bool.true_and,Bool.false_and,Bool.and_true,Bool.and_false])
    | (rw [tbb (.inl qb),h81];rfl)
    | (rw [tbb (.inr (.inl qb)),h81,h86];simp only [Bool.true_and,Bool.false_and,Bool.and_true,Bool.and_false])
    | (rw [tbb (.inr (.inl qb)),h81,h86];rfl)
    | (rw [tbb (.inr (.inl qb)),h81];simp only [Bool.true_and,Bool.false_and,Bool.and_true,Bool.and_false])
    | (rw [tbb (.inr (.inl qb)),h81];rfl)
    | (rw [tbb (.inr (.inr (.inl qb))),h81,h86];simp only [Bool.true_and,Bool.false_and,Bool.and_true,Bool.and_false])
    | (rw [tbb (.inr (.inr (.inl qb))),h81,h86];rfl)
    | (rw [tbb (.inr (.inr (.inl qb))),h81];simp only [Bool.true_and,Bool.false_and,Bool.and_true,Bool.and_false])
    | (rw [tbb (.inr (.inr (.inl qb))),h81];rfl)
    | (rw [tbb (.inr (.inr (.inr (.inl qb)))),h81,h86];simp only [Bool.true_and,Bool.false_and,Bool.and_true,Bool.and_false])
    | (rw [tbb (.inr (.inr (.inr (.inl qb)))),h81,h86];rfl)
    | (rw [tbb (.inr (.inr (.inr (.inl qb)))),h81];simp only [Bool.true_and,Bool.false_and,Bool.and_true,Bool.and_false])
    | (rw [tbb (.inr (.inr (.inr (.inl qb)))),h81];rfl)
    | (rw [tbb (.inr (.inr (.inr (.inr qb)))),h81,h86];simp only [Bool.true_and,Bool.false_and,Bool.and_true,Bool.and_false])
    | (rw [tbb (.inr (.inr (.inr (.inr qb)))),h81,h86];rfl)
    | (rw [tbb (.inr (.inr (.inr (.inr qb)))),h81];simp only [Bool.true_and,Bool.false_and,Bool.and_true,Bool.and_false])
    | (rw [tbb (.inr (.inr (.inr (.inr qb)))),h81];rfl)
    | (rw [tbn q1 q4 q585 q588 q6 q9 qb11 qb12 qb13 qb14 qb15])
  skip
  refine .gF Z Z Z Z<|.gF Z Z Z Z<|.gF Z Z Z Z<|.yv (.pickF Z Z) Z<|.m Z Z<|.gF Z Z Z Z<|.gF Z Z Z Z<|.yv (.pickF Z Z) Z<|.a Z Z<|.nt<|.rt<|.bR<|.tR<|?_
  refine Sx.ret1 (.inl rfl) rfl (.tmp rfl) fun W s => ⟨?_,s.ext⟩
  first
   | (rw [tb1 q1,h10,h15];simp only [Bool.true_and,Bool.false_and,Bool.and_true,Bool.and_false])
   | (rw [tb1 q1,h10,h15];rfl)
   | (rw [tb1 q1,h10];simp only [Bool.true_and,Bool.false_and,Bool.and_true,Bool.and_false])
   | (rw [tb1 q1,h10];rfl)
   | (rw [tb4 q4,h26,h31];simp only [Bool.true_and,Bool.false_and,Bool.and_true,Bool.and_false])
   | (rw [tb4 q4,h26,h31];rfl)
   | (rw [tb4 q4,h26];simp only [Bool.true_and,Bool.false_and,Bool.and_true,Bool.and_false])
   | (rw [tb4 q4,h26];rfl)
   | (rw [tb5 (.inl q58),h43];simp only [Bool.true_and,Bool.false_and,Bool.and_true,Bool.and_false])
   | (rw [tb5 (.inl q58),h43];rfl)
   | (rw [tb5 (.inr q58),h43];simp only [Bool.true_and,Bool.false_and,Bool.and_true,Bool.and_false])
   | (rw [tb5 (.inr q58),h43];rfl)
   | (rw [tb6 q6,h54];simp only [Bool.true_and,Bool.false_and,Bool.and_true,Bool.and_false])
   | (rw [tb6 q6,h54];rfl)
   | (rw [tb9 q9,h63,h68];simp only [Bool.true_and,Bool.false_and,Bool.and_true,Bool.and_false])
   | (rw [tb9 q9,h63,h68];rfl)
   | (rw [tb9 q9,h63];simp only [Bool.true_and,Bool.false_and,Bool.and_true,Bool.and_false])
   | (rw [tb9 q9,h63];rfl)
   | (rw [tbb (.inl qb),h81,h86];simp only [Bool.true_and,Bool.false_and,Bool.and_true,Bool.and_false])
   | (rw [tbb (.inl qb),h81,h86];rfl)
   | (rw [tbb (.inl qb),h81];simp only [Bool.true_and,Bool.false_and,Bool.and_true,Bool.and_false])
   | (rw [tbb (.inl qb),h81];rfl)
   | (rw [tbb (.inr (.inl qb)),h81,h86];simp only [Bool.true_and,Bool.false_and,Bool.and_true,Bool.and_false])
   | (rw [tbb (.inr (.inl qb)),h81,h86];rfl)
   | (rw [tbb (.inr (.inl qb)),h81];simp only [Bool.true_and,Bool.false_and,Bool.and_true,Bool.and_false])
   | (rw [tbb (.inr (.inl qb)),h81];rfl)
   | (rw [tbb (.inr (.inr (.inl qb))),h81,h86];simp only [Bool.true_and,Bool.false_and,Bool.and_true,Bool.and_false])
   | (rw [tbb (.inr (.inr (.inl qb))),h81,h86];rfl)
   | (rw [tbb (.inr (.inr (.inl qb))),h81];simp only [Bool.true_and,Bool.false_and,Bool.and_true,Bool.and_false])
   | (rw [tbb (.inr (.inr (.inl qb))),h81];rfl)
   | (rw [tbb (.inr (.inr (.inr (.inl qb)))),h81,h86];simp only [Bool.true_and,Bool.false_and,Bool.and_true,Bool.and_false])
   | (rw [tbb (.inr (.inr (.inr (.inl qb)))),h81,h86];rfl)
   | (rw [tbb (.inr (.inr (.inr (.inl qb)))),h81];simp only [Bool.true_and,Bool.false_and,Bool.and_true,Bool.and_false])
   | (rw [tbb (.inr (.inr (.inr (.inl qb)))),h81];rfl)
   | (rw [tbb (.inr (.inr (.inr (.inr qb)))),h81,h86];simp only [Bool.true_and,Bool.false_and,Bool.and_true,Bool.and_false])
   | (rw [tbb (.inr (.inr (.inr (.inr qb)))),h81,h86];rfl)
   | (rw [tbb (.inr (.inr (.inr (.inr qb)))),h81];simp only [Bool.true_and,Bool.false_and,Bool.and_true,Bool.and_false])
   | (rw [tbb (.inr (.inr (.inr (.inr qb)))),h81];rfl)
   | (rw [tbn q1 q4 q585 q588 q6 q9 qb11 qb12 qb13 qb14 qb15])
 have qb13 : ¬ op = 13 := fun e => of_decide_eq_false h72 (by rw [e];rfl);refine .sr<|.yv (.eql Z Z) Z<|.a Z Z<|.nt<|.cr Z (fun h72 => ?_) (fun h72 => ?_)
 ·have qb : op = 14 := UInt8.toNat_inj.1 (by have := of_decide_eq_true h72;show op.toNat = 14;omega);refine .sk<|.tN<|.cT Z<|.sr<|.yv (.fieldAddr Z Fx.field76_1) Z<|.yv (.load Z Fx.agg9 (.head _) Z) Z<|.yv (.eqS Z Z) Z<|.m Z Z<|.b2 (fun h81 => ?_) (fun h81 => ?_)
  ·skip
   refine .gd Z Z<|.yv (.fieldAddr Z Fx.field76_2) Z<|.gd Z Z<|.yv (.load Z Fx.agg2 (.head _) Z) Z<|.gd Z Z<|.yv (.cast (.eql Z Z) (congrArg Value.bool i0)) Z<|.yv (.pickT Z Z) Z<|.m Z Z<|.b2 (fun h86 => ?_) (fun h86 => ?_)
   ·skip
    refine .gd Z Z<|.yv (.loadW Z Fx.agg76 (.head _) Z) Z<|.gd Z Z<|.yv (.call Fx.call132 Z (fun W s => operands_any H op nm nn args 2 _ W h (fun a ha => ih a ha) s.agr)) Z<|.yv (.pickT Z Z) Z<|.a Z Z<|.nt<|.rt<|.bR<|.tR<|?_
    refine Sx.ret1 (.inl rfl) rfl (.tmp rfl) fun W s => ⟨?_,s.ext⟩
    first
     | (rw [tb1 q1,h10,h15];simp only [Bool.true_and,Bool.false_and,Bool.and_true,Bool.and_false])
     | (rw [tb1 q1,h10,h15];rfl)
     | (rw [tb1 q1,h10];simp only [Bool.true_and,Bool.false_and,Bool.and_true,Bool.and_false])
     | (rw [tb1 q1,h10];rfl)
     | (rw [tb4 q4,h26,h31];simp only [Bool.true_and,Bool.false_and,Bool.and_true,Bool.and_false])
     | (rw [tb4 q4,h26,h31];rfl)
     | (rw [tb4 q4,h26];simp only [Bool.true_and,Bool.false_and,Bool.and_true,Bool.and_false])
     | (rw [tb4 q4,h26];rfl)
     | (rw [tb5 (.inl q58),h43];simp only [Bool.true_and,Bool.false_and,Bool.and_true,Bool.and_false])
     | (rw [tb5 (.inl q58),h43];rfl)
     | (rw [tb5 (.inr q58),h43];simp only [Bool.true_and,Bool.false_and,Bool.and_true,Bool.and_false])
     | (rw [tb5 (.inr q58),h43];rfl)
     | (rw [tb6 q6,h54];simp only [Bool.true_and,Bool.false_and,Bool.and_true,Bool.and_false])
     | (rw [tb6 q6,h54];rfl)
     | (rw [tb9 q9,h63,h68];simp only [Bool.true_and,Bool.false_and,Bool.and_true,Bool.and_false])
     | (rw [tb9 q9,h63,h68];rfl)
     | (rw [tb9 q9,h63];simp only [Bool.true_and,Bool.false_and,Bool.and_true,Bool.and_false])
     | (rw [tb9 q9,h63];rfl)
     | (rw [tbb (.inl qb),h81,h86];simp only [Bool.true_and,Bool.false_and,Bool.and_true,Bool.and_false])
     | (rw [tbb (.inl qb),h81,h86];rfl)
     | (rw [tbb (.inl qb),h81];simp only [Bool.true_and,Bool.false_and,Bool.and_true,Bool.and_false])
     | (rw [tbb (.inl qb),h81];rfl)
     | (rw [tbb (.inr (.inl qb)),h81,h86];simp only [Bool.true_and,Bool.false_and,Bool.and_true,Bool.and_false])
     | (rw [tbb (.inr (.inl qb)),h81,h86];rfl)
     | (rw [tbb (.inr (.inl qb)),h81];simp only [Bool.true_and,Bool.false_and,Bool.and_true,Bool.and_false])
     | (rw [tbb (.inr (.inl qb)),h81];rfl)
     | (rw [tbb (.inr (.inr (.inl qb))),h81,h86];simp only [Bool.true_and,Bool.false_and,Bool.and_true,Bool.and_false])
     | (rw [tbb (.inr (.inr (.inl qb))),h81,h86];rfl)
     | (rw [tbb (.inr (.inr (.inl qb))),h81];simp only [Bool.true_and,Bool.false_and,Bool.and_true,Bool.and_false])
     | (rw [tbb (.inr (.inr (.inl qb))),h81];rfl)
     | (rw [tbb (.inr (.inr (.inr (.inl qb)))),h81,h86];simp only [Bool.true_and,Bool.false_and,Bool.and_true,Bool.and_false])
     | (rw [tbb (.inr (.inr (.inr (.inl qb)))),h81,h86];rfl)
     | (rw [tbb (.inr (.inr (.inr (.inl qb)))),h81];simp only [Bool.true_and,Bool.false_and,Bool.and_true,Bool.and_false])
     | (rw [tbb (.inr (.inr (.inr (.inl qb)))),h81];rfl)
     | (rw [tbb (.inr (.inr (.inr (.inr qb)))),h81,h86];simp only [Bool.true_and,Bool.false_and,Bool.and_true,Bool.and_false])
     | (rw [tbb (.inr (.inr (.inr (.inr qb)))),h81,h86];rfl)
     | (rw [tbb (.inr (.inr (.inr (.inr qb)))),h81];simp only [Bool.true_and,Bool.false_and,Bool.and_true,Bool.and_false])
     | (rw [tbb (.inr (.inr (.inr (.inr qb)))),h81];rfl)
     | (rw [tbn q1 q4 q585 q588 q6 q9 qb11 qb12 qb13 qb14 qb15])
   skip
   refine .gF Z Z Z Z<|.gF Z Z Z Z<|.yv (.pickF Z Z) Z<|.a Z Z<|.nt<|.rt<|.bR<|.tR<|?_
   refine Sx.ret1 (.inl rfl) rfl (.tmp rfl) fun W s => ⟨?_,s.ext⟩
   first
    | (rw [tb1 q1,h10,h15];simp only [Bool.true_and,Bool.false_and,Bool.and_true,Bool.and_false])
    | (rw [tb1 q1,h10,h15];rfl)
    | (rw [tb1 q1,h10];simp only [Bool.true_and,Bool.false_and,Bool.and_true,Bool.and_false])
    | (rw [tb1 q1,h10];rfl)
    | (rw [tb4 q4,h26,h31];simp only [Bool.true_and,Bool.false_and,Bool.and_true,Bool.and_false])
    | (rw [tb4 q4,h26,h31];rfl)
    | (rw [tb4 q4,h26];simp only [Bool.true_and,Bool.false_and,Bool.and_true,Bool.and_false])
    | (rw [tb4 q4,h26];rfl)
    | (rw [tb5 (.inl q58),h43];simp only [Bool.true_and,Bool.false_and,Bool.and_true,Bool.and_false])
    | (rw [tb5 (.inl q58),h43];rfl)
    | (rw [tb5 (.inr q58),h43];simp only [Bool.true_and,Bool.false_and,Bool.and_true,Bool.and_false])
    | (rw [tb5 (.inr q58),h43];rfl)
    | (rw [tb6 q6,h54];simp only [Bool.true_and,Bool.false_and,Bool.and_true,Bool.and_false])
    | (rw [tb6 q6,h54];rfl)
    | (rw [tb9 q9,h63,h68];simp only [Bool.true_and,Bool.false_and,Bool.and_true,Bool.and_false])
    | (rw [tb9 q9,h63,h68];rfl)
    | (rw [tb9 q9,h63];simp only [Bool.true_and,Bool.false_and,Bool.and_true,Bool.and_false])
    | (rw [tb9 q9,h63];rfl)
    | (rw [tbb (.inl qb),h81,h86];simp only [Bool.true_and,Bool.false_and,Bool.and_true,Bool.and_false])
    | (rw [tbb (.inl qb),h81,h86];rfl)
    | (rw [tbb (.inl qb),h81];simp only [Bool.true_and,Bool.false_and,Bool.and_true,Bool.and_false])
    | (rw [tbb (.inl qb),h81];rfl)
    | (rw [tbb (.inr (.inl qb)),h81,h86];simp only [Bool.true_and,Bool.false_and,Bool.and_true,Bool.and_false])
    | (rw [tbb (.inr (.inl qb)),h81,h86];rfl)
    | (rw [tbb (.inr (.inl qb)),h81];simp only [Bool.true_and,Bool.false_and,Bool.and_true,Bool.and_false])
    | (rw [tbb (.inr (.inl qb)),h81];rfl)
    | (rw [tbb (.inr (.inr (.inl qb))),h81,h86];simp only [Bool.true_and,Bool.false_and,Bool.and_true,Bool.and_false])
    | (rw [tbb (.inr (.inr (.inl qb))),h81,h86];rfl)
    | (rw [tbb (.inr (.inr (.inl qb))),h81];simp only [Bool.true_and,Bool.false_and,Bool.and_true,Bool.and_false])
    | (rw [tbb (.inr (.inr (.inl qb))),h81];rfl)
    | (rw [tbb (.inr (.inr (.inr (.inl qb)))),h81,h86];simp only [Bool.true_and,Bool.false_and,Bool.and_true,Bool.and_false])
    | (rw [tbb (.inr (.inr (.inr (.inl qb)))),h81,h86];rfl)
    | (rw [tbb (.inr (.inr (.inr (.inl qb)))),h81];simp only [Bool.true_and,Bool.false_and,Bool.and_true,Bool.and_false])
    | (rw [tbb (.inr (.inr (.inr (.inl qb)))),h81];rfl)
    | (rw [tbb (.inr (.inr (.inr (.inr qb)))),h81,h86];simp only [Bool.true_and,Bool.false_and,Bool.and_true,Bool.and_false])
    | (rw [tbb (.inr (.inr (.inr (.inr qb)))),h81,h86];rfl)
    | (rw [tbb (.inr (.inr (.inr (.inr qb)))),h81];simp only [Bool.true_and,Bool.false_and,Bool.and_true,Bool.and_false])
    | (rw [tbb (.inr (.inr (.inr (.inr qb)))),h81];rfl)
    | (rw [tbn q1 q4 q585 q588 q6 q9 qb11 qb12 qb13 qb14 qb15])
  skip
  refine .gF Z Z Z Z<|.gF Z Z Z Z<|.gF Z Z Z Z<|.yv (.pickF Z Z) Z<|.m Z Z<|.gF Z Z Z Z<|.gF Z Z Z Z<|.yv (.pickF Z Z) Z<|.a Z Z<|.nt<|.rt<|.bR<|.tR<|?_
  refine Sx.ret1 (.inl rfl) rfl (.tmp rfl) fun W s => ⟨?_,s.ext⟩
  first
   | (rw [tb1 q1,h10,h15];simp only [Bool.true_and,Bool.false_and,Bool.and_true,Bool.and_false])
   | (rw [tb1 q1,h10,h15];rfl)
   | (rw [tb1 q1,h10];simp only [Bool.true_and,Bool.false_and,Bool.and_true,Bool.and_false])
   | (rw [tb1 q1,h10];rfl)
   | (rw [tb4 q4,h26,h31];simp only [Bool.true_and,Bool.false_and,Bool.and_true,Bool.and_false])
   | (rw [tb4 q4,h26,h31];rfl)
   | (rw [tb4 q4,h26];simp only [Bool.true_and,Bool.false_and,Bool.and_true,Bool.and_false])
   | (rw [tb4 q4,h26];rfl)
   | (rw [tb5 (.inl q58),h43];simp only [Bool.true_and,Bool.false_and,Bool.and_true,Bool.and_false])
   | (rw [tb5 (.inl q58),h43];rfl)
   | (rw [tb5 (.inr q58),h43];simp only [Bool.true_and,Bool.false_and,Bool.and_true,Bool.and_false])
   | (rw [tb5 (.inr q58),h43];rfl)
   | (rw [tb6 q6,h54];simp only [Bool.true_and,Bool.false_and,Bool.and_true,Bool.and_false])
   | (rw [tb6 q6,h54];rfl)
   | (rw [tb9 q9,h63,h68];simp only [Bool.true_and,Bool.false_and,Bool.and_true,Bool.and_false])
   | (rw [tb9 q9,h63,h68];rfl)
   | (rw [tb9 q9,h63];simp only [Bool.true_and,Bool.false_and,Bool.and_true,Bool.and_false])
   | (rw [tb9 q9,h63];rfl)
   | (rw [tbb (.inl qb),h81,h86];simp only [Bool.true_and,Bool.false_and,Bool.and_true,Bool.and_false])
   | (rw [tbb (.inl qb),h81,h86];rfl)
   | (rw [tbb (.inl qb),h81];simp only [Bool.true_and,Bool.false_and,Bool.and_true,Bool.and_false])
   | (rw [tbb (.inl qb),h81];rfl)
   | (rw [tbb (.inr (.inl qb)),h81,h86];simp only [Bool.true_and,Bool.false_and,Bool.and_true,Bool.and_false])
   | (rw [tbb (.inr (.inl qb)),h81,h86];rfl)
   | (rw [tbb (.inr (.inl qb)),h81];simp only [Bool.true_and,Bool.false_and,Bool.and_true,Bool.and_false])
   | (rw [tbb (.inr (.inl qb)),h81];rfl)
   | (rw [tbb (.inr (.inr (.inl qb))),h81,h86];simp only [Bool.true_and,Bool.false_and,Bool.and_true,Bool.and_false])
   | (rw [tbb (.inr (.inr (.inl qb))),h81,h86];rfl)
   | (rw [tbb (.inr (.inr (.inl qb))),h81];simp only [Bool.true_and,Bool.false_and,Bool.and_true,Bool.and_false])
   | (rw [tbb (.inr (.inr (.inl qb))),h81];rfl)
   | (rw [tbb (.inr (.inr (.inr (.inl qb)))),h81,h86];simp only [Bool.true_and,Bool.false_and,Bool.and_true,Bool.and_false])
   | (rw [tbb (.inr (.inr (.inr (.inl qb)))),h81,h86];rfl)
   | (rw [tbb (.inr (.inr (.inr (.inl qb)))),h81];simp only [Bool.true_and,Bool.false_and,Bool.and_true,Bool.and_false])
   | (rw [tbb (.inr (.inr (.inr (.inl qb)))),h81];rfl)
   | (rw [tbb (.inr (.inr (.inr (.inr qb)))),h81,h86];simp only [Bool.true_and,Bool.false_and,Bool.and_true,Bool.and_false])
   | (rw [tbb (.inr (.inr (.inr (.inr qb)))),h81,h86];rfl)
   | (rw [tbb (.inr (.inr (.inr (.inr qb)))),h81];simp only [Bool.true_and,Bool.false_and,Bool.and_true,Bool.and_false])
   | (rw [tbb (.inr (.inr (.inr (.inr qb)))),h81];rfl)
   | (rw [tbn q1 q4 q585 q588 q6 q9 qb11 qb12 qb13 qb14 qb15])
 have qb14 : ¬ op = 14 := fun e => of_decide_eq_false h72 (by rw [e];rfl);refine .rg<|.yv (.eql Z Z) Z<|.a Z Z<|.nt<|.cr Z (fun h72 => ?_) (fun h72 => ?_)
 ·have qb : op = 15 := UInt8.toNat_inj.1 (by have := of_decide_eq_true h72;show op.toNat = 15;omega);refine .sr<|.yv (.fieldAddr Z Fx.field76_1) Z<|.yv (.load Z Fx.agg9 (.head _) Z) Z<|.yv (.eqS Z Z) Z<|.m Z Z<|.b2 (fun h81 => ?_) (fun h81 => ?_)
  ·skip
   refine .gd Z Z<|.yv (.fieldAddr Z Fx.field76_2) Z<|.gd Z Z<|.yv (.load Z Fx.agg2 (.head _) Z) Z<|.gd Z Z<|.yv (.cast (.eql Z Z) (congrArg Value.bool i0)) Z<|.yv (.pickT Z Z) Z<|.m Z Z<|.b2 (fun h86 => ?_) (fun h86 => ?_)
   ·skip
    refine .gd Z Z<|.yv (.loadW Z Fx.agg76 (.head _) Z) Z<|.gd Z Z<|.yv (.call Fx.call132 Z (fun W s => operands_any H op nm nn args 2 _ W h (fun a ha => ih a ha) s.agr)) Z<|.yv (.pickT Z Z) Z<|.a Z Z<|.nt<|.rt<|.bR<|.tR<|?_
    refine Sx.ret1 (.inl rfl) rfl (.tmp rfl) fun W s => ⟨?_,s.ext⟩
    first
     | (rw [tb1 q1,h10,h15];simp only [Bool.true_and,Bool.false_and,Bool.and_true,Bool.and_false])
     | (rw [tb1 q1,h10,h15];rfl)
     | (rw [tb1 q1,h10];simp only [Bool.true_and,Bool.false_and,Bool.and_true,Bool.and_false])
     | (rw [tb1 q1,h10];rfl)
     | (rw [tb4 q4,h26,h31];simp only [Bool.true_and,Bool.false_and,Bool.and_true,Bool.and_false])
     | (rw [tb4 q4,h26,h31];rfl)
     | (rw [tb4 q4,h26];simp only [Bool.true_and,Bool.false_and,Bool.and_true,Bool.and_false])
     | (rw [tb4 q4,h26];rfl)
     | (rw [tb5 (.inl q58),h43];simp only [Bool.true_and,Bool.false_and,Bool.and_true,Bool.and_false])
     | (rw [tb5 (.inl q58),h43];rfl)
     | (rw [tb5 (.inr q58),h43];simp only [Bool.true_and,Bool.false_and,Bool.and_true,Bool.and_false])
     | (rw [tb5 (.inr q58),h43];rfl)
     | (rw [tb6 q6,h54];simp only [Bool.true_and,Bool.false_and,Bool.and_true,Bool.and_false])
     | (rw [tb6 q6,h54];rfl)
     | (rw [tb9 q9,h63,h68];simp only [Bool.true_and,Bool.false_and,Bool.and_true,Bool.and_false])
     | (rw [tb9 q9,h63,h68];rfl)
     | (rw [tb9 q9,h63];simp only [Bool.true_and,Bool.false_and,Bool.and_true,Bool.and_false])
     | (rw [tb9 q9,h63];rfl)
     | (rw [tbb (.inl qb),h81,h86];simp only [Bool.true_and,Bool.false_and,Bool.and_true,Bool.and_false])
     | (rw [tbb (.inl qb),h81,h86];rfl)
     | (rw [tbb (.inl qb),h81];simp only [Bool.true_and,Bool.false_and,Bool.and_true,Bool.and_false])
     | (rw [tbb (.inl qb),h81];rfl)
     | (rw [tbb (.inr (.inl qb)),h81,h86];simp only [Bool.true_and,Bool.false_and,Bool.and_true,Bool.and_false])
     | (rw [tbb (.inr (.inl qb)),h81,h86];rfl)
     | (rw [tbb (.inr (.inl qb)),h81];simp only [Bool.true_and,Bool.false_and,Bool.and_true,Bool.and_false])
     | (rw [tbb (.inr (.inl qb)),h81];rfl)
     | (rw [tbb (.inr (.inr (.inl qb))),h81,h86];simp only [Bool.true_and,Bool.false_and,Bool.and_true,Bool.and_false])
     | (rw [tbb (.inr (.inr (.inl qb))),h81,h86];rfl)
     | (rw [tbb (.inr (.inr (.inl qb))),h81];simp only [Bool.true_and,Bool.false_and,Bool.and_true,Bool.and_false])
     | (rw [tbb (.inr (.inr (.inl qb))),h81];rfl)
     | (rw [tbb (.inr (.inr (.inr (.inl qb)))),h81,h86];simp only [Bool.true_and,Bool.false_and,Bool.and_true,Bool.and_false])
     | (rw [tbb (.inr (.inr (.inr (.inl qb)))),h81,h86];rfl)
     | (rw [tbb (.inr (.inr (.inr (.inl qb)))),h81];simp only [Bool.true_and,Bool.false_and,Bool.and_true,Bool.and_false])
     | (rw [tbb (.inr (.inr (.inr (.inl qb)))),h81];rfl)
     | (rw [tbb (.inr (.inr (.inr (.inr qb)))),h81,h86];simp only [Bool.true_and,Bool.false_and,Bool.and_true,Bool.and_false])
     | (rw [tbb (.inr (.inr (.inr (.inr qb)))),h81,h86];rfl)
     | (rw [tbb (.inr (.inr (.inr (.inr qb)))),h81];simp only [Bool.true_and,Bool.false_and,Bool.and_true,Bool.and_false])
     | (rw [tbb (.inr (.inr (.inr (.inr qb)))),h81];rfl)
     | (rw [tbn q1 q4 q585 q588 q6 q9 qb11 qb12 qb13 qb14 qb15])
   skip
   refine .gF Z Z Z Z<|.gF Z Z Z Z<|.yv (.pickF Z Z) Z<|.a Z Z<|.nt<|.rt<|.bR<|.tR<|?_
   refine Sx.ret1 (.inl rfl) rfl (.tmp rfl) fun W s => ⟨?_,s.ext⟩
   first
    | (rw [tb1 q1,h10,h15];simp only [Bool.true_and,Bool.false_and,Bool.and_true,Bool.and_false])
    | (rw [tb1 q1,h10,h15];rfl)
    | (rw [tb1 q1,h10];simp only [Bool.true_and,Bool.false_and,Bool.and_true,Bool.and_false])
    | (rw [tb1 q1,h10];rfl)
    | (rw [tb4 q4,h26,h31];simp only [Bool.true_and,Bool.false_and,Bool.and_true,Bool.and_false])
    | (rw [tb4 q4,h26,h31];rfl)
    | (rw [tb4 q4,h26];simp only [Bool.true_and,Bool.false_and,Bool.and_true,Bool.and_false])
    | (rw [tb4 q4,h26];rfl)
    | (rw [tb5 (.inl q58),h43];simp only [Bool.true_and,Bool.false_and,Bool.and_true,Bool.and_false])
    | (rw [tb5 (.inl q58),h43];rfl)
    | (rw [tb5 (.inr q58),h43];simp only [Bool.true_and,Bool.false_and,Bool.and_true,Bool.and_false])
    | (rw [tb5 (.inr q58),h43];rfl)
    | (rw [tb6 q6,h54];simp only [Bool.true_and,Bool.false_and,Bool.and_true,Bool.and_false])
    | (rw [tb6 q6,h54];rfl)
    | (rw [tb9 q9,h63,h68];simp only [Bool.true_and,Bool.false_and,Bool.and_true,Bool.and_false])
    | (rw [tb9 q9,h63,h68];rfl)
    | (rw [tb9 q9,h63];simp only [Bool.true_and,Bool.false_and,Bool.and_true,Bool.and_false])
    | (rw [tb9 q9,h63];rfl)
    | (rw [tbb (.inl qb),h81,h86];simp only [Bool.true_and,Bool.false_and,Bool.and_true,Bool.and_false])
    | (rw [tbb (.inl qb),h81,h86];rfl)
    | (rw [tbb (.inl qb),h81];simp only [Bool.true_and,Bool.false_and,Bool.and_true,Bool.and_false])
    | (rw [tbb (.inl qb),h81];rfl)
    | (rw [tbb (.inr (.inl qb)),h81,h86];simp only [Bool.true_and,Bool.false_and,Bool.and_true,Bool.and_false])
    | (rw [tbb (.inr (.inl qb)),h81,h86];rfl)
    | (rw [tbb (.inr (.inl qb)),h81];simp only [Bool.true_and,Bool.false_and,Bool.and_true,Bool.and_false])
    | (rw [tbb (.inr (.inl qb)),h81];rfl)
    | (rw [tbb (.inr (.inr (.inl qb))),h81,h86];simp only [Bool.true_and,Bool.false_and,Bool.and_true,Bool.and_false])
    | (rw [tbb (.inr (.inr (.inl qb))),h81,h86];rfl)
    | (rw [tbb (.inr (.inr (.inl qb))),h81];simp only [Bool.true_and,Bool.false_and,Bool.and_true,Bool.and_false])
    | (rw [tbb (.inr (.inr (.inl qb))),h81];rfl)
    | (rw [tbb (.inr (.inr (.inr (.inl qb)))),h81,h86];simp only [Bool.true_and,Bool.false_and,Bool.and_true,Bool.and_false])
    | (rw [tbb (.inr (.inr (.inr (.inl qb)))),h81,h86];rfl)
    | (rw [tbb (.inr (.inr (.inr (.inl qb)))),h81];simp only [Bool.true_and,Bool.false_and,Bool.and_true,Bool.and_false])
    | (rw [tbb (.inr (.inr (.inr (.inl qb)))),h81];rfl)
    | (rw [tbb (.inr (.inr (.inr (.inr qb)))),h81,h86];simp only [Bool.true_and,Bool.false_and,Bool.and_true,Bool.and_false])
    | (rw [tbb (.inr (.inr (.inr (.inr qb)))),h81,h86];rfl)
    | (rw [tbb (.inr (.inr (.inr (.inr qb)))),h81];simp only [Bool.true_and,Bool.false_and,Bool.and_true,Bool.and_false])
    | (rw [tbb (.inr (.inr (.inr (.inr qb)))),h81];rfl)
    | (rw [tbn q1 q4 q585 q588 q6 q9 qb11 qb12 qb13 qb14 qb15])
  skip
  refine .gF Z Z Z Z<|.gF Z Z Z Z<|.gF Z Z Z Z<|.yv (.pickF Z Z) Z<|.m Z Z<|.gF Z Z Z Z<|.gF Z Z Z Z<|.yv (.pickF Z Z) Z<|.a Z Z<|.nt<|.rt<|.bR<|.tR<|?_
  refine Sx.ret1 (.inl rfl) rfl (.tmp rfl) fun W s => ⟨?_,s.ext⟩
  first
   | (rw [tb1 q1,h10,h15];simp only [Bool.true_and,Bool.false_and,Bool.and_true,Bool.and_false])
   | (rw [tb1 q1,h10,h15];rfl)
   | (rw [tb1 q1,h10];simp only [Bool.true_and,Bool.false_and,Bool.and_true,Bool.and_false])
   | (rw [tb1 q1,h10];rfl)
   | (rw [tb4 q4,h26,h31];simp only [Bool.true_and,Bool.false_and,Bool.and_true,Bool.and_false])
   | (rw [tb4 q4,h26,h31];rfl)
   | (rw [tb4 q4,h26];simp only [Bool.true_and,Bool.false_and,Bool.and_true,Bool.and_false])
   | (rw [tb4 q4,h26];rfl)
   | (rw [tb5 (.inl q58),h43];simp only [Bool.true_and,Bool.false_and,Bool.and_true,Bool.and_false])
   | (rw [tb5 (.inl q58),h43];rfl)
   | (rw [tb5 (.inr q58),h43];simp only [Bool.true_and,Bool.false_and,Bool.and_true,Bool.and_false])
   | (rw [tb5 (.inr q58),h43];rfl)
   | (rw [tb6 q6,h54];simp only [Bool.true_and,Bool.false_and,Bool.and_true,Bool.and_false])
   | (rw [tb6 q6,h54];rfl)
   | (rw [tb9 q9,h63,h68];simp only [Bool.true_and,Bool.false_and,Bool.and_true,Bool.and_false])
   | (rw [tb9 q9,h63,h68];rfl)
   | (rw [tb9 q9,h63];simp only [Bool.true_and,Bool.false_and,Bool.and_true,Bool.and_false])
   | (rw [tb9 q9,h63];rfl)
   | (rw [tbb (.inl qb),h81,h86];simp only [Bool.true_and,Bool.false_and,Bool.and_true,Bool.and_false])
   | (rw [tbb (.inl qb),h81,h86];rfl)
   | (rw [tbb (.inl qb),h81];simp only [Bool.true_and,Bool.false_and,Bool.and_true,Bool.and_false])
   | (rw [tbb (.inl qb),h81];rfl)
   | (rw [tbb (.inr (.inl qb)),h81,h86];simp only [Bool.true_and,Bool.false_and,Bool.and_true,Bool.and_false])
   | (rw [tbb (.inr (.inl qb)),h81,h86];rfl)
   | (rw [tbb (.inr (.inl qb)),h81];simp only [Bool.true_and,Bool.false_and,Bool.and_true,Bool.and_false])
   | (rw [tbb (.inr (.inl qb)),h81];rfl)
   | (rw [tbb (.inr (.inr (.inl qb))),h81,h86];simp only [Bool.true_and,Bool.false_and,Bool.and_true,Bool.and_false])
   | (rw [tbb (.inr (.inr (.inl qb))),h81,h86];rfl)
   | (rw [tbb (.inr (.inr (.inl qb))),h81];simp only [Bool.true_and,Bool.false_and,Bool.and_true,Bool.and_false])
   | (rw [tbb (.inr (.inr (.inl qb))),h81];rfl)
   | (rw [tbb (.inr (.inr (.inr (.inl qb)))),h81,h86];simp only [Bool.true_and,Bool.false_and,Bool.and_true,Bool.and_false])
   | (rw [tbb (.inr (.inr (.inr (.inl qb)))),h81,h86];rfl)
   | (rw [tbb (.inr (.inr (.inr (.inl qb)))),h81];simp only [Bool.true_and,Bool.false_and,Bool.and_true,Bool.and_false])
   | (rw [tbb (.inr (.inr (.inr (.inl qb)))),h81];rfl)
   | (rw [tbb (.inr (.inr (.inr (.inr qb)))),h81,h86];simp only [Bool.true_and,Bool.false_and,Bool.and_true,Bool.and_false])
   | (rw [tbb (.inr (.inr (.inr (.inr qb)))),h81,h86];rfl)
   | (rw [tbb (.inr (.inr (.inr (.inr qb)))),h81];simp only [Bool.true_and,Bool.false_and,Bool.and_true,Bool.and_false])
   | (rw [tbb (.inr (.inr (.inr (.inr qb)))),h81];rfl)
   | (rw [tbn q1 q4 q585 q588 q6 q9 qb11 qb12 qb13 qb14 qb15])
 have qb15 : ¬ op = 15 := fun e => of_decide_eq_false h72 (by rw [e];rfl);refine .sk<|.bN<|.tN<|.sr<|.a Z Z<|.nt<|.rt<|?_
 refine Sx.ret1 (.inl rfl) rfl (.tmp rfl) fun W s => ⟨?_,s.ext⟩
 first
  | (rw [tb1 q1,h10,h15];simp only [Bool.true_and,Bool.false_and,Bool.and_true,Bool.and_false])
  | (rw [tb1 q1,h10,h15];rfl)
  | (rw [tb1 q1,h10];simp only [Bool.true_and,Bool.false_and,Bool.and_true,Bool.and_false])
  | (rw [tb1 q1,h10];rfl)
  | (rw [tb4 q4,h26,h31];simp only [Bool.true_and,Bool.false_and,Bool.and_true,Bool.and_false])
  | (rw [tb4 q4,h26,h31];rfl)
  | (rw [tb4 q4,h26];simp only [Bool.true_and,Bool.false_and,Bool.and_true,Bool.and_false])
  | (rw [tb4 q4,h26];rfl)
  | (rw [tb5 (.inl q58),h43];simp only [Bool.true_and,Bool.false_and,Bool.and_true,Bool.and_false])
  | (rw [tb5 (.inl q58),h43];rfl)
  | (rw [tb5 (.inr q58),h43];simp only [Bool.true_and,Bool.false_and,Bool.and_true,Bool.and_false])
  | (rw [tb5 (.inr q58),h43];rfl)
  | (rw [tb6 q6,h54];simp only [Bool.true_and,Bool.false_and,Bool.and_true,Bool.and_false])
  | (rw [tb6 q6,h54];rfl)
  | (rw [tb9 q9,h63,h68];simp only [Bool.true_and,Bool.false_and,Bool.and_true,Bool.and_false])
  | (rw [tb9 q9,h63,h68];rfl)
  | (rw [tb9 q9,h63];simp only [Bool.true_and,Bool.false_and,Bool.and_true,Bool.and_false])
  | (rw [tb9 q9,h63];rfl)
  | (rw [tbb (.inl qb),h81,h86];simp only [Bool.true_and,Bool.false_and,Bool.and_true,Bool.and_false])
  | (rw [tbb (.inl qb),h81,h86];rfl)
  | (rw [tbb (.inl qb),h81];simp only [Bool.true_and,Bool.false_and,Bool.and_true,Bool.and_false])
  | (rw [tbb (.inl qb),h81];rfl)
  | (rw [tbb (.inr (.inl qb)),h81,h86];simp only [Bool.true_and,Bool.false_and,Bool.and_true,Bool.and_false])
  | (rw [tbb (.inr (.inl qb)),h81,h86];rfl)
  | (rw [tbb (.inr (.inl qb)),h81];simp only [Bool.true_and,Bool.false_and,Bool.and_true,Bool.and_false])
  | (rw [tbb (.inr (.inl qb)),h81];rfl)
  | (rw [tbb (.inr (.inr (.inl qb))),h81,h86];simp only [Bool.true_and,Bool.false_and,Bool.and_true,Bool.and_false])
  | (rw [tbb (.inr (.inr (.inl qb))),h81,h86];rfl)
  | (rw [tbb (.inr (.inr (.inl qb))),h81];simp only [Bool.true_and,Bool.false_and,Bool.and_true,Bool.and_false])
  | (rw [tbb (.inr (.inr (.inl qb))),h81];rfl)
  | (rw [tbb (.inr (.inr (.inr (.inl qb)))),h81,h86];simp only [Bool.true_and,Bool.false_and,Bool.and_true,Bool.and_false])
  | (rw [tbb (.inr (.inr (.inr (.inl qb)))),h81,h86];rfl)
  | (rw [tbb (.inr (.inr (.inr (.inl qb)))),h81];simp only [Bool.true_and,Bool.false_and,Bool.and_true,Bool.and_false])
  | (rw [tbb (.inr (.inr (.inr (.inl qb)))),h81];rfl)
  | (rw [tbb (.inr (.inr (.inr (.inr qb)))),h81,h86];simp only [Bool.true_and,Bool.false_and,Bool.and_true,Bool.and_false])
  | (rw [tbb (.inr (.inr (.inr (.inr qb)))),h81,h86];rfl)
  | (rw [tbb (.inr (.inr (.inr (.inr qb)))),h81];simp only [Bool.true_and,Bool.false_and,Bool.and_true,Bool.and_false])
  | (rw [tbb (.inr (.inr (.inr (.inr qb)))),h81];rfl)
  | (rw [tbn q1 q4 q585 q588 q6 q9 qb11 qb12 qb13 qb14 qb15])
theorem ge16 {op : UInt8} : decide ((16 : Int) ≤ ((op.toNat : Nat) : Int)) = decide (16 ≤ op.toNat) := by rw [Bool.eq_iff_iff,decide_eq_true_eq,decide_eq_true_eq];omega
theorem le21 {op : UInt8} : decide (((op.toNat : Nat) : Int) ≤ 21) = decide (op.toNat ≤ 21) := by rw [Bool.eq_iff_iff,decide_eq_true_eq,decide_eq_true_eq];omega
theorem cmp_mk {op : UInt8} {nm : Str} {n : Int64} {args : List Ex} : cmpB (.mk op nm n args) = (decide (16 ≤ op.toNat) && decide (op.toNat ≤ 21) && decide (nm = []) && decide (n = 0) && (args.all termB && decide (args.length = 2))) := by rw [← termBs_allF];rfl
set_option maxRecDepth 100000 in
theorem isCmp_any (H : Hp) (e : Ex) (cs : List Value) (w : World) (h : Rep H (dEx .u8 e) cs) (hA : Agr H w) : Calls Tryz.prog 80 #[.agg cs.toArray] w fun r w' => r = .returned (.bool (cmpB e)) ∧ Ext w w' := by
 obtain ⟨op,nm,nn,args⟩ := e;obtain ⟨pp,c,rfl,hs,hnm⟩ := ex_open h;refine Sx.enter (H := H) Tryz.func80 rfl Tryz.ntmps80 rfl hA ?_;refine .sr<|.bx Z Z Z fun b1 => .a Z Z<|.ns<|.yv (.fieldAddr Z Fx.field76_0) Z<|.yv (.load Z Fx.agg74 (.head _) Z) Z<|.yv (.cast (.geq Z Z) (congrArg Value.bool (ge16))) Z<|.m Z Z<|.b2 (fun h6 => ?_) (fun h6 => ?_)
 ·skip
  refine .gd Z Z<|.yv (.fieldAddr Z Fx.field76_0) Z<|.gd Z Z<|.yv (.load Z Fx.agg74 (.head _) Z) Z<|.gd Z Z<|.yv (.cast (.leq Z Z) (congrArg Value.bool (le21))) Z<|.yv (.pickT Z Z) Z<|.m Z Z<|.b2 (fun h11 => ?_) (fun h11 => ?_)
  ·skip
   refine .gd Z Z<|.yv (.fieldAddr Z Fx.field76_1) Z<|.gd Z Z<|.yv (.load Z Fx.agg9 (.head _) Z) Z<|.gd Z Z<|.yv (.eqS Z Z) Z<|.yv (.pickT Z Z) Z<|.m Z Z<|.b2 (fun h16 => ?_) (fun h16 => ?_)
   ·skip
    refine .gd Z Z<|.yv (.fieldAddr Z Fx.field76_2) Z<|.gd Z Z<|.yv (.load Z Fx.agg2 (.head _) Z) Z<|.gd Z Z<|.yv (.cast (.eql Z Z) (congrArg Value.bool i0)) Z<|.yv (.pickT Z Z) Z<|.m Z Z<|.b2 (fun h21 => ?_) (fun h21 => ?_)
    ·skip
     refine .gd Z Z<|.yv (.loadW Z Fx.agg76 (.head _) Z) Z<|.gd Z Z<|.yv (.call Fx.call132 Z (fun W s => operands_any H op nm nn args 2 _ W h (fun a _ => isTerm_any H a) s.agr)) Z<|.yv (.pickT Z Z) Z<|.a Z Z<|.nt<|.rt<|?_
     refine Sx.ret1 (.inl rfl) rfl (.tmp rfl) fun W s => ⟨?_,s.ext⟩
     first
      | (rw [cmp_mk,h6,h11,h16,h21];simp only [Bool.true_and,Bool.false_and,Bool.and_true,Bool.and_false])
      | (rw [cmp_mk,h6,h11,h16,h21];rfl)
      | (rw [cmp_mk,h6,h11,h16];simp only [Bool.true_and,Bool.false_and,Bool.and_true,Bool.and_false])
      | (rw [cmp_mk,h6,h11,h16];rfl)
      | (rw [cmp_mk,h6,h11];simp only [Bool.true_and,Bool.false_and,Bool.and_true,Bool.and_false])
      | (rw [cmp_mk,h6,h11];rfl)
      | (rw [cmp_mk,h6];simp only [Bool.true_and,Bool.false_and,Bool.and_true,Bool.and_false])
      | (rw [cmp_mk,h6];rfl)
    skip
    refine .gF Z Z Z Z<|.gF Z Z Z Z<|.yv (.pickF Z Z) Z<|.a Z Z<|.nt<|.rt<|?_
    refine Sx.ret1 (.inl rfl) rfl (.tmp rfl) fun W s => ⟨?_,s.ext⟩
    first
     | (rw [cmp_mk,h6,h11,h16,h21];simp only [Bool.true_and,Bool.false_and,Bool.and_true,Bool.and_false])
     | (rw [cmp_mk,h6,h11,h16,h21];rfl)
     | (rw [cmp_mk,h6,h11,h16];simp only [Bool.true_and,Bool.false_and,Bool.and_true,Bool.and_false])
     | (rw [cmp_mk,h6,h11,h16];rfl)
     | (rw [cmp_mk,h6,h11];simp only [Bool.true_and,Bool.false_and,Bool.and_true,Bool.and_false])
     | (rw [cmp_mk,h6,h11];rfl)
     | (rw [cmp_mk,h6];simp only [Bool.true_and,Bool.false_and,Bool.and_true,Bool.and_false])
     | (rw [cmp_mk,h6];rfl)
   skip
   refine .gF Z Z Z Z<|.gF Z Z Z Z<|.gF Z Z Z Z<|.yv (.pickF Z Z) Z<|.m Z Z<|.gF Z Z Z Z<|.gF Z Z Z Z<|.yv (.pickF Z Z) Z<|.a Z Z<|.nt<|.rt<|?_
   refine Sx.ret1 (.inl rfl) rfl (.tmp rfl) fun W s => ⟨?_,s.ext⟩
   first
    | (rw [cmp_mk,h6,h11,h16,h21];simp only [Bool.true_and,Bool.false_and,Bool.and_true,Bool.and_false])
    | (rw [cmp_mk,h6,h11,h16,h21];rfl)
    | (rw [cmp_mk,h6,h11,h16];simp only [Bool.true_and,Bool.false_and,Bool.and_true,Bool.and_false])
    | (rw [cmp_mk,h6,h11,h16];rfl)
    | (rw [cmp_mk,h6,h11];simp only [Bool.true_and,Bool.false_and,Bool.and_true,Bool.and_false])
    | (rw [cmp_mk,h6,h11];rfl)
    | (rw [cmp_mk,h6];simp only [Bool.true_and,Bool.false_and,Bool.and_true,Bool.and_false])
    | (rw [cmp_mk,h6];rfl)
  skip
  refine .gF Z Z Z Z<|.gF Z Z Z Z<|.gF Z Z Z Z<|.yv (.pickF Z Z) Z<|.m Z Z<|.gF Z Z Z Z<|.gF Z Z Z Z<|.gF Z Z Z Z<|.yv (.pickF Z Z) Z<|.m Z Z<|.gF Z Z Z Z<|.gF Z Z Z Z<|.yv (.pickF Z Z) Z<|.a Z Z<|.nt<|.rt<|?_
  refine Sx.ret1 (.inl rfl) rfl (.tmp rfl) fun W s => ⟨?_,s.ext⟩
  first
   | (rw [cmp_mk,h6,h11,h16,h21];simp only [Bool.true_and,Bool.false_and,Bool.and_true,Bool.and_false])
   | (rw [cmp_mk,h6,h11,h16,h21];rfl)
   | (rw [cmp_mk,h6,h11,h16];simp only [Bool.true_and,Bool.false_and,Bool.and_true,Bool.and_false])
   | (rw [cmp_mk,h6,h11,h16];rfl)
   | (rw [cmp_mk,h6,h11];simp only [Bool.true_and,Bool.false_and,Bool.and_true,Bool.and_false])
   | (rw [cmp_mk,h6,h11];rfl)
   | (rw [cmp_mk,h6];simp only [Bool.true_and,Bool.false_and,Bool.and_true,Bool.and_false])
   | (rw [cmp_mk,h6];rfl)
 skip
 refine .gF Z Z Z Z<|.gF Z Z Z Z<|.gF Z Z Z Z<|.yv (.pickF Z Z) Z<|.m Z Z<|.gF Z Z Z Z<|.gF Z Z Z Z<|.gF Z Z Z Z<|.yv (.pickF Z Z) Z<|.m Z Z<|.gF Z Z Z Z<|.gF Z Z Z Z<|.gF Z Z Z Z<|.yv (.pickF Z Z) Z<|.m Z Z<|.gF Z Z Z Z<|.gF Z Z Z Z<|.yv (.pickF Z Z) Z<|.a Z Z<|.nt<|.rt<|?_
 refine Sx.ret1 (.inl rfl) rfl (.tmp rfl) fun W s => ⟨?_,s.ext⟩
 first
  | (rw [cmp_mk,h6,h11,h16,h21];simp only [Bool.true_and,Bool.false_and,Bool.and_true,Bool.and_false])
  | (rw [cmp_mk,h6,h11,h16,h21];rfl)
  | (rw [cmp_mk,h6,h11,h16];simp only [Bool.true_and,Bool.false_and,Bool.and_true,Bool.and_false])
  | (rw [cmp_mk,h6,h11,h16];rfl)
  | (rw [cmp_mk,h6,h11];simp only [Bool.true_and,Bool.false_and,Bool.and_true,Bool.and_false])
  | (rw [cmp_mk,h6,h11];rfl)
  | (rw [cmp_mk,h6];simp only [Bool.true_and,Bool.false_and,Bool.and_true,Bool.and_false])
  | (rw [cmp_mk,h6];rfl)
def frm1B (e : Ex) : Bool := !anyB e && !termB e
theorem frm1 {e : Ex} : frm1B e = (!anyB e && !termB e) := rfl
set_option maxRecDepth 100000 in
theorem formed1_any (H : Hp) (e : Ex) : EFn H 77 [] frm1B e := by
 intro cs w h hA;obtain ⟨op,nm,nn,args⟩ := e;obtain ⟨pp,c,rfl,hs,hnm⟩ := ex_open h;refine Sx.enter (H := H) Tryz.func77 rfl Tryz.ntmps77 rfl hA ?_;refine .sr<|.bx Z Z Z fun b1 => .a Z Z<|.ns<|.yv (.loadW Z Fx.agg76 (.head _) Z) Z<|.yv (.call Fx.call78 Z (fun W s => isAny_any H _ _ W h s.agr)) Z<|.yv (.not Z) Z<|.m Z Z<|.b2 (fun h6 => ?_) (fun h6 => ?_)
 ·skip
  refine .gd Z Z<|.yv (.loadW Z Fx.agg76 (.head _) Z) Z<|.gd Z Z<|.yv (.call Fx.call79 Z (fun W s => isTerm_any H _ _ W h s.agr)) Z<|.gd Z Z<|.yv (.not Z) Z<|.yv (.pickT Z Z) Z<|.a Z Z<|.nt<|.rt<|?_
  refine Sx.ret1 (.inl rfl) rfl (.tmp rfl) fun W s => ⟨?_,s.ext⟩
  first
   | (rw [frm1,h6,Bool.true_and])
   | (rw [frm1,h6];rfl)
 skip
 refine .gF Z Z Z Z<|.gF Z Z Z Z<|.gF Z Z Z Z<|.yv (.pickF Z Z) Z<|.a Z Z<|.nt<|.rt<|?_
 refine Sx.ret1 (.inl rfl) rfl (.tmp rfl) fun W s => ⟨?_,s.ext⟩
 first
  | (rw [frm1,h6,Bool.true_and])
  | (rw [frm1,h6];rfl)
theorem gtn {n k : Nat} : decide (((k : Nat) : Int) < ((n : Nat) : Int)) = decide (k < n) := by rw [Bool.eq_iff_iff,decide_eq_true_eq,decide_eq_true_eq];omega
set_option maxRecDepth 100000 in
theorem shallow1_any (H : Hp) (e : Ex) (n b : Nat) (hd : e.depth ≤ 1000000) (hm : MemAt H b 0 [.int .i64 (n : Nat)]) : EFn H 72 [.pointer (some ⟨b,0,none⟩)] (fun e => decide (n < e.depth)) e := by
 intro cs w h hA;obtain ⟨op,nm,nn,args⟩ := e;obtain ⟨pp,c,rfl,hs,hnm⟩ := ex_open h;refine Sx.enter (H := H) Tryz.func72 rfl Tryz.ntmps72 rfl hA ?_;refine .sr<|.bx Z Z Z fun b2 => .a Z Z<|.nt<|.sq<|.fl (trip := [(_,_,_),(_,_,_),(_,_,_),(_,_,_)]) 4 [(0,0),(1,0),(2,0),(3,0)] (by kernel_rfl) (by kernel_rfl) Z<|.yv (.loadW Z Fx.agg76 (.head _) Z) Z<|.yv (.call Fx.call73 Z (fun W s => exprDepth_any _ H _ W h hd s.agr)) Z<|.yv (.loadM Z Fx.agg3 hm (k := 0) Z Z) Z<|.yv (.cast (.gtr Z Z) (congrArg Value.bool gtn)) Z<|.fn (tl := [_]) Z<|.a Z Z<|.nt<|.rt<|?_
 exact Sx.ret1 (.inl rfl) rfl (.tmp rfl) fun W s => ⟨rfl,s.ext⟩
theorem both_t {n : Str} (h : (splitF n).isSome = true) : bothB n = (nameB (spA n) && nameB (spB n)) := by
 unfold bothB spA spB;cases hs : splitF n with
 | some x => rfl
 | none => rw [hs] at h;cases h
theorem both_f {n : Str} (h : (splitF n).isSome = false) : bothB n = false := by
 unfold bothB;cases hs : splitF n with
 | none => rfl
 | some x => rw [hs] at h;cases h
theorem spA_len (n : Str) : (spA n).length ≤ n.length := by
 unfold spA;rcases split_ix n with ⟨i,_,hi,e⟩ | ⟨_,e⟩
 ·rw [e];show (n.take i).length ≤ _;rw [List.length_take];omega
 ·rw [e];exact Nat.zero_le _
theorem spB_len (n : Str) : (spB n).length ≤ n.length := by
 unfold spB;rcases split_ix n with ⟨i,_,hi,e⟩ | ⟨_,e⟩
 ·rw [e];show (n.drop (i + 1)).length ≤ _;rw [List.length_drop];omega
 ·rw [e];exact Nat.zero_le _
theorem misBs_anyF : ∀ l,misBs l = l.any misB
 | [] => rfl
 | e :: r => by rw [misBs,List.any_cons,misBs_anyF r]
theorem mis5 {op : UInt8} {nm : Str} {n : Int64} {args : List Ex} (h : op = 5) : misB (.mk op nm n args) = ((!bothB nm && !nameB nm) || args.any misB) := by subst h;rw [misB,misBs_anyF];simp
theorem mis6 {op : UInt8} {nm : Str} {n : Int64} {args : List Ex} (h : op = 6 ∨ op = 8) : misB (.mk op nm n args) = (!bothB nm || args.any misB) := by rcases h with rfl | rfl <;> (rw [misB,misBs_anyF];simp)
theorem misN {op : UInt8} {nm : Str} {n : Int64} {args : List Ex} (h : ¬ op = 5) (h6 : ¬ op = 6) (h8 : ¬ op = 8) : misB (.mk op nm n args) = args.any misB := by rw [misB,misBs_anyF,decide_eq_false h,decide_eq_false h6,decide_eq_false h8];rfl
set_option maxRecDepth 100000 in
theorem misnamed_any (H : Hp) (G : Gl H) (e : Ex) : EFn H 76 [] misB e := by
 induction e using Ex.ind with | _ op nm nn args ih
 intro cs w h hA;obtain ⟨pp,c,rfl,hs,hnm⟩ := ex_open h;have hA' : Agr H w := hA;refine Sx.enter (H := H) Tryz.func76 rfl Tryz.ntmps76 rfl hA ?_;refine .sr<|.bx Z Z Z fun b1 => .a Z Z<|.ns<|.yv (.fieldAddr Z Fx.field76_1) Z<|.yv (.load Z Fx.agg9 (.head _) Z) Z<|.yv (.call Fx.call20 Z (fun W s => split_any nm (by omega) W)) Z<|.m Z Z<|.yv (.extract Z Z) Z<|.yv (.extract Z Z) Z<|.yv (.extract Z Z) Z<|.a Z Z<|.a Z Z<|.a Z Z<|.nt<|.cu (X := Bool) [(1,_)] ⟨rfl,trivial⟩ (fun z => [(6,.bool z)]) (fun z => H) (fun z => [.box b1 [.int .u8 op.toNat,strV nm,.int .i64 nn.toInt,.slice pp args.length c] 76]) (fun z => z = bothB nm) ?_ fun z hC => ?_
 ·
  refine .rg<|.m Z Z<|.m Z Z<|.b2 (fun h15 => ?_) (fun h15 => ?_)
  ·skip
   refine .gd Z Z<|.yv (.move Z) Z<|.gd Z Z<|.yv (.call Fx.call75 Z (fun W s => isName_any H G (spA nm) (by have := spA_len nm;have := spB_len nm;omega) W s.agr)) Z<|.yv (.pickT Z Z) Z<|.m Z Z<|.b2 (fun h19 => ?_) (fun h19 => ?_)
   ·skip
    exact .gd Z Z<|.yv (.move Z) Z<|.gd Z Z<|.yv (.call Fx.call75 Z (fun W s => isName_any H G (spB nm) (by have := spA_len nm;have := spB_len nm;omega) W s.agr)) Z<|.yv (.pickT Z Z) Z<|.a Z Z<|.nt<|.me _ ⟨rfl,trivial⟩ ⟨rfl,trivial⟩ (fun _ s => s) (by first | (rw [both_t h15,h19,Bool.true_and]) | (rw [both_t h15,h19];rfl) | (rw [both_f h15]))
   skip
   exact .gF Z Z Z Z<|.gF Z Z Z Z<|.yv (.pickF Z Z) Z<|.a Z Z<|.nt<|.me _ ⟨rfl,trivial⟩ ⟨rfl,trivial⟩ (fun _ s => s) (by first | (rw [both_t h15,h19,Bool.true_and]) | (rw [both_t h15,h19];rfl) | (rw [both_f h15]))
  skip
  exact .gF Z Z Z Z<|.gF Z Z Z Z<|.yv (.pickF Z Z) Z<|.m Z Z<|.gF Z Z Z Z<|.gF Z Z Z Z<|.yv (.pickF Z Z) Z<|.a Z Z<|.nt<|.me _ ⟨rfl,trivial⟩ ⟨rfl,trivial⟩ (fun _ s => s) (by first | (rw [both_t h15,h19,Bool.true_and]) | (rw [both_t h15,h19];rfl) | (rw [both_f h15]))
 have eb := hC;refine .sq<|.sr<|.yv (.fieldAddr Z Fx.field76_0) Z<|.yv (.load Z Fx.agg74 (.head _) Z) Z<|.nt<|.bk<|.sr<|.yv (.eql Z Z) Z<|.a Z Z<|.nt<|.cd Z (fun h25 => ?_) (fun h25 => ?_)
 ·have q5 : op = 5 := UInt8.toNat_inj.1 (by have := of_decide_eq_true h25;show op.toNat = 5;omega);refine .sr<|.m Z Z<|.yv (.not Z) Z<|.m Z Z<|.b2 (fun h29 => ?_) (fun h29 => ?_)
  ·skip
   refine .gd Z Z<|.yv (.fieldAddr Z Fx.field76_1) Z<|.gd Z Z<|.yv (.load Z Fx.agg9 (.head _) Z) Z<|.gd Z Z<|.yv (.call Fx.call75 Z (fun W s => isName_any H G nm (by have := spA_len nm;have := spB_len nm;omega) W s.agr)) Z<|.gd Z Z<|.yv (.not Z) Z<|.yv (.pickT Z Z) Z<|.nt<|.cd Z (fun h34 => ?_) (fun h34 => ?_)
   ·skip
    refine .sr<|.a Z Z<|.nt<|.rt<|.bR<|.tR<|?_
    refine Sx.ret1 (.inl rfl) rfl (.tmp rfl) fun W s => ⟨?_,s.ext⟩
    first
     | (rw [mis5 q5,← eb,h29,h34];rfl)
     | (rw [mis5 q5,← eb,h29,h34,Bool.false_or])
     | (rw [mis5 q5,← eb,h29];rfl)
     | (rw [mis5 q5,← eb,h29,Bool.false_and,Bool.false_or])
     | (rw [mis6 (.inl q68),← eb,h39];rfl)
     | (rw [mis6 (.inl q68),← eb,h39,Bool.false_or])
     | (rw [mis6 (.inr q68),← eb,h39];rfl)
     | (rw [mis6 (.inr q68),← eb,h39,Bool.false_or])
     | (rw [misN q5 q686 q688])
   skip
   refine .sk<|.bN<|.tN<|.sr<|.yv (.fieldAddr Z Fx.field76_3) Z<|.yv (.load Z Fx.agg32 (.head _) Z) Z<|.yv (.call Fx.call71 Z (fun W s => contains_any H 76 [] misB args hs Fx.call76 (fun a ha => ih a ha) W s.agr)) Z<|.a Z Z<|.nt<|.rt<|?_
   refine Sx.ret1 (.inl rfl) rfl (.tmp rfl) fun W s => ⟨?_,s.ext⟩
   first
    | (rw [mis5 q5,← eb,h29,h34];rfl)
    | (rw [mis5 q5,← eb,h29,h34,Bool.false_or])
    | (rw [mis5 q5,← eb,h29];rfl)
    | (rw [mis5 q5,← eb,h29,Bool.false_and,Bool.false_or])
    | (rw [mis6 (.inl q68),← eb,h39];rfl)
    | (rw [mis6 (.inl q68),← eb,h39,Bool.false_or])
    | (rw [mis6 (.inr q68),← eb,h39];rfl)
    | (rw [mis6 (.inr q68),← eb,h39,Bool.false_or])
    | (rw [misN q5 q686 q688])
  skip
  refine .gF Z Z Z Z<|.gF Z Z Z Z<|.gF Z Z Z Z<|.gF Z Z Z Z<|.yv (.pickF Z Z) Z<|.nt<|.cF Z<|.sk<|.bN<|.tN<|.sr<|.yv (.fieldAddr Z Fx.field76_3) Z<|.yv (.load Z Fx.agg32 (.head _) Z) Z<|.yv (.call Fx.call71 Z (fun W s => contains_any H 76 [] misB args hs Fx.call76 (fun a ha => ih a ha) W s.agr)) Z<|.a Z Z<|.nt<|.rt<|?_
  refine Sx.ret1 (.inl rfl) rfl (.tmp rfl) fun W s => ⟨?_,s.ext⟩
  first
   | (rw [mis5 q5,← eb,h29,h34];rfl)
   | (rw [mis5 q5,← eb,h29,h34,Bool.false_or])
   | (rw [mis5 q5,← eb,h29];rfl)
   | (rw [mis5 q5,← eb,h29,Bool.false_and,Bool.false_or])
   | (rw [mis6 (.inl q68),← eb,h39];rfl)
   | (rw [mis6 (.inl q68),← eb,h39,Bool.false_or])
   | (rw [mis6 (.inr q68),← eb,h39];rfl)
   | (rw [mis6 (.inr q68),← eb,h39,Bool.false_or])
   | (rw [misN q5 q686 q688])
 have q5 : ¬ op = 5 := fun e => of_decide_eq_false h25 (by rw [e];rfl);refine .sq<|.sr<|.yv (.eql Z Z) Z<|.a Z Z<|.nt<|.cr Z (fun h35 => ?_) (fun h35 => ?_)
 ·have q68 : op = 6 := UInt8.toNat_inj.1 (by have := of_decide_eq_true h35;show op.toNat = 6;omega);refine .sk<|.tN<|.cT Z<|.sr<|.m Z Z<|.yv (.not Z) Z<|.nt<|.cd Z (fun h39 => ?_) (fun h39 => ?_)
  ·skip
   refine .sr<|.a Z Z<|.nt<|.rt<|.bR<|.tR<|?_
   refine Sx.ret1 (.inl rfl) rfl (.tmp rfl) fun W s => ⟨?_,s.ext⟩
   first
    | (rw [mis5 q5,← eb,h29,h34];rfl)
    | (rw [mis5 q5,← eb,h29,h34,Bool.false_or])
    | (rw [mis5 q5,← eb,h29];rfl)
    | (rw [mis5 q5,← eb,h29,Bool.false_and,Bool.false_or])
    | (rw [mis6 (.inl q68),← eb,h39];rfl)
    | (rw [mis6 (.inl q68),← eb,h39,Bool.false_or])
    | (rw [mis6 (.inr q68),← eb,h39];rfl)
    | (rw [mis6 (.inr q68),← eb,h39,Bool.false_or])
    | (rw [misN q5 q686 q688])
  skip
  refine .sk<|.bN<|.tN<|.sr<|.yv (.fieldAddr Z Fx.field76_3) Z<|.yv (.load Z Fx.agg32 (.head _) Z) Z<|.yv (.call Fx.call71 Z (fun W s => contains_any H 76 [] misB args hs Fx.call76 (fun a ha => ih a ha) W s.agr)) Z<|.a Z Z<|.nt<|.rt<|?_
  refine Sx.ret1 (.inl rfl) rfl (.tmp rfl) fun W s => ⟨?_,s.ext⟩
  first
   | (rw [mis5 q5,← eb,h29,h34];rfl)
   | (rw [mis5 q5,← eb,h29,h34,Bool.false_or])
   | (rw [mis5 q5,← eb,h29];rfl)
   | (rw [mis5 q5,← eb,h29,Bool.false_and,Bool.false_or])
   | (rw [mis6 (.inl q68),← eb,h39];rfl)
   | (rw [mis6 (.inl q68),← eb,h39,Bool.false_or])
   | (rw [mis6 (.inr q68),← eb,h39];rfl)
   | (rw [mis6 (.inr q68),← eb,h39,Bool.false_or])
   | (rw [misN q5 q686 q688])
 have q686 : ¬ op = 6 := fun e => of_decide_eq_false h35 (by rw [e];rfl);refine .rg<|.yv (.eql Z Z) Z<|.a Z Z<|.nt<|.cr Z (fun h35 => ?_) (fun h35 => ?_)
 ·have q68 : op = 8 := UInt8.toNat_inj.1 (by have := of_decide_eq_true h35;show op.toNat = 8;omega);refine .sr<|.m Z Z<|.yv (.not Z) Z<|.nt<|.cd Z (fun h39 => ?_) (fun h39 => ?_)
  ·skip
   refine .sr<|.a Z Z<|.nt<|.rt<|.bR<|.tR<|?_
   refine Sx.ret1 (.inl rfl) rfl (.tmp rfl) fun W s => ⟨?_,s.ext⟩
   first
    | (rw [mis5 q5,← eb,h29,h34];rfl)
    | (rw [mis5 q5,← eb,h29,h34,Bool.false_or])
    | (rw [mis5 q5,← eb,h29];rfl)
    | (rw [mis5 q5,← eb,h29,Bool.false_and,Bool.false_or])
    | (rw [mis6 (.inl q68),← eb,h39];rfl)
    | (rw [mis6 (.inl q68),← eb,h39,Bool.false_or])
    | (rw [mis6 (.inr q68),← eb,h39];rfl)
    | (rw [mis6 (.inr q68),← eb,h39,Bool.false_or])
    | (rw [misN q5 q686 q688])
  skip
  refine .sk<|.bN<|.tN<|.sr<|.yv (.fieldAddr Z Fx.field76_3) Z<|.yv (.load Z Fx.agg32 (.head _) Z) Z<|.yv (.call Fx.call71 Z (fun W s => contains_any H 76 [] misB args hs Fx.call76 (fun a ha => ih a ha) W s.agr)) Z<|.a Z Z<|.nt<|.rt<|?_
  refine Sx.ret1 (.inl rfl) rfl (.tmp rfl) fun W s => ⟨?_,s.ext⟩
  first
   | (rw [mis5 q5,← eb,h29,h34];rfl)
   | (rw [mis5 q5,← eb,h29,h34,Bool.false_or])
   | (rw [mis5 q5,← eb,h29];rfl)
   | (rw [mis5 q5,← eb,h29,Bool.false_and,Bool.false_or])
   | (rw [mis6 (.inl q68),← eb,h39];rfl)
   | (rw [mis6 (.inl q68),← eb,h39,Bool.false_or])
   | (rw [mis6 (.inr q68),← eb,h39];rfl)
   | (rw [mis6 (.inr q68),← eb,h39,Bool.false_or])
   | (rw [misN q5 q686 q688])
 have q688 : ¬ op = 8 := fun e => of_decide_eq_false h35 (by rw [e];rfl);refine .sk<|.bN<|.tN<|.sr<|.yv (.fieldAddr Z Fx.field76_3) Z<|.yv (.load Z Fx.agg32 (.head _) Z) Z<|.yv (.call Fx.call71 Z (fun W s => contains_any H 76 [] misB args hs Fx.call76 (fun a ha => ih a ha) W s.agr)) Z<|.a Z Z<|.nt<|.rt<|?_
 refine Sx.ret1 (.inl rfl) rfl (.tmp rfl) fun W s => ⟨?_,s.ext⟩
 first
  | (rw [mis5 q5,← eb,h29,h34];rfl)
  | (rw [mis5 q5,← eb,h29,h34,Bool.false_or])
  | (rw [mis5 q5,← eb,h29];rfl)
  | (rw [mis5 q5,← eb,h29,Bool.false_and,Bool.false_or])
  | (rw [mis6 (.inl q68),← eb,h39];rfl)
  | (rw [mis6 (.inl q68),← eb,h39,Bool.false_or])
  | (rw [mis6 (.inr q68),← eb,h39];rfl)
  | (rw [mis6 (.inr q68),← eb,h39,Bool.false_or])
  | (rw [misN q5 q686 q688])
def FFn (H : Hp) (gf : FuncId) (q : Fm → Bool) (f : Fm) : Prop := ∀ (cs : List Value) (W : World),Rep H (dFm .u8 f) cs → Agr H W → Calls Tryz.prog gf #[.agg cs.toArray] W fun r W' => r = .returned (.bool (q f)) ∧ Ext W W'
theorem fm_alls (q : Fm → Bool) : ∀ l,Fm.alls q l = l.all (Fm.all q)
 | [] => rfl
 | f :: r => by rw [Fm.alls,List.all_cons,fm_alls q r]
theorem fm_all (q : Fm → Bool) (op : UInt8) (nm fd : Str) (a b : Int64) (ex : List Ex) (args : List Fm) : Fm.all q (.mk op nm fd a b ex args) = (q (.mk op nm fd a b ex args) && args.all (Fm.all q)) := by rw [Fm.all,fm_alls]
theorem allF_take {l : List Fm} {p : Fm → Bool} {k : Nat} (hk : k < l.length) (h : (l.take k).all p = true) (hp : p l[k] = true) : (l.take (k + 1)).all p = true := by
 rw [List.take_succ,List.all_append,h,List.getElem?_eq_getElem hk];simp [hp]
theorem allF_at {l : List Fm} {p : Fm → Bool} {k : Nat} (hk : k < l.length) (hp : p l[k] = false) : l.all p = false := List.all_eq_false.2 ⟨_,List.getElem_mem hk,by rw [hp];decide⟩
set_option maxRecDepth 100000 in
theorem every_any (H : Hp) (gf : FuncId) (q p : Fm → Bool) (hf : callN Tryz.prog gf = true) (hg : ∀ f,p f = true → FFn H gf q f) (f : Fm) : f.all p = true → ∀ (cs : List Value) (w : World),Rep H (dFm .u8 f) cs → Agr H w →
 Calls Tryz.prog 35 #[.agg cs.toArray,.func (.func gf) #[] #[]] w fun r w' => r = .returned (.bool (f.all q)) ∧ Ext w w' := by
 induction f using Fm.ind with | _ op nm fd a b ex args ih
 intro hp cs w h hA;rw [fm_all,Bool.and_eq_true] at hp;obtain ⟨p1,c1,p2,c2,rfl,hs1,hs2,hnm,hfd⟩ := fm_open h;have hcap := hs2.cap;refine Sx.enter (H := H) Tryz.func35 rfl Tryz.ntmps35 rfl hA ?_;refine .sr<|.bx Z Z Z fun b2 => .a Z Z<|.nt<|.sq<|.sr<|.m Z Z<|.yv (.loadW Z Fx.agg35 (.head _) Z) Z<|.yv (.callV (fi := []) (ca := []) Z hf Z (fun W s => hg _ hp.1 _ W h s.agr)) Z<|.yv (.not Z) Z<|.nt<|.cd Z (fun h10 => ?_) (fun h10 => ?_)
 ·skip
  refine .sr<|.a Z Z<|.nt<|.rt<|.tR<|?_
  refine Sx.ret1 (.inl rfl) rfl (.tmp rfl) fun W s => ⟨?_,s.ext⟩
  first
   | (rw [fm_all,show q (.mk op nm fd a b ex args) = false by simpa using h10];rfl)
   | (rw [fm_all,allF_at hk (by simpa using h21)];simp)
   | (rw [fm_all,hal,show q (.mk op nm fd a b ex args) = true by simpa using h10];rfl)
 skip
 refine .sk<|.tN<|.sq<|.sr<|.yv (.fieldAddr Z Fx.field35_6) Z<|.yv (.load Z Fx.agg33 (.head _) Z) Z<|.yv (.lenSl Fx.sl33 Z) Z<|.m Z Z<|.nt<|.bk<|.lp (X := Nat) [(1,_),(12,_),(13,_)] ⟨rfl,rfl,rfl,trivial⟩ [_] (fun k => [(14,.int .i64 (k : Nat))]) (fun k => H) (fun k => []) (fun k => k ≤ args.length ∧ (args.take k).all (Fm.all q) = true) (fun k => args.length - k) 0 (fun _ s => s) ⟨rfl,trivial⟩ ⟨Nat.zero_le _,rfl⟩ fun k hC => ?_
 obtain ⟨hk0,hal⟩ := hC;refine .sr<|.yv (.lss Z Z) Z<|.nt<|.sq<|.cd Z (fun h15 => ?_) (fun h15 => ?_)
 ·try simp only [dt] at h15
  have hk : k < args.length := by omega
  obtain ⟨bE,oE,cE,hpE,rE,lE,mE⟩ := hs2.elem (map_at (f := dFm .u8) hk);cases hpE;have hpk := List.all_eq_true.1 hp.2 _ (List.getElem_mem hk);refine .sk<|.tN<|.sq<|.bk<|.sr<|.yv (.indexSl Fx.sl33 Z Z Z (by omega) (q := oE + k * 7) Z) Z<|.yv (.loadMW Z Fx.agg35 mE lE) Z<|.al Fx.zero35 Z fun b6 => .sV .head Z Z Fx.size35 lE rE.one Z<|.ns<|.yv (.loadW Z Fx.agg35 (.head _) lE) Z<|.m Z Z<|.yv (.call Fx.call35 Z (fun W s => ih _ (List.getElem_mem hk) hpk cE W rE s.agr)) Z<|.yv (.not Z) Z<|.nt<|.cd Z (fun h21 => ?_) (fun h21 => ?_)
  ·skip
   refine .sr<|.a Z Z<|.nt<|.rt<|.bR<|.tR<|.tR<|.bR<|.tR<|?_
   refine Sx.ret1 (.inl rfl) rfl (.tmp rfl) fun W s => ⟨?_,s.ext⟩
   first
    | (rw [fm_all,show q (.mk op nm fd a b ex args) = false by simpa using h10];rfl)
    | (rw [fm_all,allF_at hk (by simpa using h21)];simp)
    | (rw [fm_all,hal,show q (.mk op nm fd a b ex args) = true by simpa using h10];rfl)
  skip
  exact .sk<|.bN<|.tN<|.rg<|.yv (.add Z Z (w6 (by omega))) Z<|.m Z Z<|.nt<|.ag (k + 1) ⟨rfl,trivial⟩ ⟨rfl,rfl,rfl,trivial⟩ (fun _ s => s.pick [1] [_] Z Z) ⟨by omega,allF_take hk hal (by simpa using h21)⟩ (by omega)
 try simp only [df] at h15
 obtain rfl : k = args.length := by omega
 rw [List.take_length] at hal;refine .ex<|.tE<|.tE<|.bE<|.tN<|.sr<|.a Z Z<|.nt<|.rt<|?_
 refine Sx.ret1 (.inl rfl) rfl (.tmp rfl) fun W s => ⟨?_,s.ext⟩
 first
  | (rw [fm_all,show q (.mk op nm fd a b ex args) = false by simpa using h10];rfl)
  | (rw [fm_all,allF_at hk (by simpa using h21)];simp)
  | (rw [fm_all,hal,show q (.mk op nm fd a b ex args) = true by simpa using h10];rfl)
set_option maxRecDepth 100000 in
theorem shallow_any (H : Hp) (f : Fm) (hd : (fun f : Fm => f.ex.all fun e => decide (e.depth ≤ 1000000)) f = true) : FFn H 36 shalB f := by
 intro cs w h hA;obtain ⟨op,nm,fd,a,b,ex,args⟩ := f;obtain ⟨p1,c1,p2,c2,rfl,hs1,hs2,hnm,hfd⟩ := fm_open h;refine Sx.enter (H := H) Tryz.func36 rfl Tryz.ntmps36 rfl hA ?_;refine .sr<|.bx Z Z Z fun b1 => .a Z Z<|.ns<|.al Fx.zero3 Z fun b3 => .st .head Z Z Fx.size3 Z (nb Z) Z<|.nt<|.sq<|.sr<|.yv (.fieldAddr Z Fx.field35_0) Z<|.yv (.load Z Fx.agg31 (.tail _<|.head _) Z) Z<|.yv (.eql Z Z) Z<|.nt<|.cd Z (fun h6 => ?_) (fun h6 => ?_)
 ·have q3 : op = 3 := UInt8.toNat_inj.1 (by have := of_decide_eq_true h6;show op.toNat = 3;omega);refine .rg<|.yv (.load Z Fx.agg3 (.head _) Z) Z<|.yv (.add Z Z (c := ((9 : Nat) : Int)) (by decide)) Z<|.st .head Z Z Fx.size3 Z (nb Z) Z<|.nt<|.sq<|?_
  refine Sx.freezeBox fun H1 u1 m1 => ?_;refine .rg<|.yv (.fieldAddr Z Fx.field35_5) Z<|.yv (.load Z Fx.agg32 (.head _) Z) Z<|.yv (.mkF Z Z) Z<|.yv (.call Fx.call71 Z (fun W s => contains_any H1 72 [.pointer (some ⟨b3,0,none⟩)] (fun e => decide (9 < e.depth)) ex (hs1.up u1.up) Fx.call72 (fun a ha => shallow1_any H1 a 9 b3 (by have := List.all_eq_true.1 hd a ha;exact of_decide_eq_true this) m1) W s.agr)) Z<|.yv (.not Z) Z<|.a Z Z<|.nt<|.rt<|?_
  refine Sx.ret1 (.inl rfl) rfl (.tmp rfl) fun W s => ⟨?_,s.ext⟩
  first
   | (unfold shalB;rw [show (Fm.mk op nm fd a b ex args).op = 3 from q3];rfl)
   | (unfold shalB;simp only [show ¬ (Fm.mk op nm fd a b ex args).op = 3 from q3,if_false];rfl)
 have q3 : ¬ op = 3 := fun e => of_decide_eq_false h6 (by rw [e];rfl);refine .sk<|.tN<|.sq<|?_
 refine Sx.freezeBox fun H1 u1 m1 => ?_;refine .rg<|.yv (.fieldAddr Z Fx.field35_5) Z<|.yv (.load Z Fx.agg32 (.head _) Z) Z<|.yv (.mkF Z Z) Z<|.yv (.call Fx.call71 Z (fun W s => contains_any H1 72 [.pointer (some ⟨b3,0,none⟩)] (fun e => decide (8 < e.depth)) ex (hs1.up u1.up) Fx.call72 (fun a ha => shallow1_any H1 a 8 b3 (by have := List.all_eq_true.1 hd a ha;exact of_decide_eq_true this) m1) W s.agr)) Z<|.yv (.not Z) Z<|.a Z Z<|.nt<|.rt<|?_
 refine Sx.ret1 (.inl rfl) rfl (.tmp rfl) fun W s => ⟨?_,s.ext⟩
 first
  | (unfold shalB;rw [show (Fm.mk op nm fd a b ex args).op = 3 from q3];rfl)
  | (unfold shalB;simp only [show ¬ (Fm.mk op nm fd a b ex args).op = 3 from q3,if_false];rfl)
theorem nam_mk {op : UInt8} {nm fd : Str} {a b : Int64} {ex : List Ex} {args : List Fm} : namdB (.mk op nm fd a b ex args) = (!((fsOf op).nm && !nameB nm || (fsOf op).fd && !nameB fd) && !ex.any misB) := by rw [← misBs_anyF];rfl
set_option maxRecDepth 100000 in
theorem named_any (H : Hp) (G : Gl H) (Gt : Gf H) (f : Fm) : FFn H 37 namdB f := by
 intro cs w h hA;obtain ⟨op,nm,fd,a,b,ex,args⟩ := f;obtain ⟨p1,c1,p2,c2,rfl,hs1,hs2,hnm,hfd⟩ := fm_open h;refine Sx.enter (H := H) Tryz.func37 rfl Tryz.ntmps37 rfl hA ?_;refine .sr<|.bx Z Z Z fun b1 => .a Z Z<|.ns<|.yv (.fieldAddr Z Fx.field35_0) Z<|.yv (.load Z Fx.agg31 (.head _) Z) Z<|.yv (.call (v := .agg (fsC (fsOf op)).toArray) Fx.call74 Z (fun W s => fshape_any H Gt op W s.agr)) Z<|.al Fx.zero157 Z fun b3 => .sW .head Z Z Fx.size157 (by simp [fsC,Value.oneCell',strV]) Z<|.nt<|.sq<|.cu (X := Bool) [(1,_)] ⟨rfl,trivial⟩ (fun z => [(24,.bool z)]) (fun z => H) (fun z => [.box b3 (fsC (fsOf op)) 157,.box b1 [.int .u8 op.toNat,strV nm,strV fd,.int .i64 a.toInt,.int .i64 b.toInt,.slice p1 ex.length c1,.slice p2 args.length c2] 35]) (fun z => z = ((fsOf op).nm && !nameB nm || (fsOf op).fd && !nameB fd)) ?_ fun z hC => ?_
 ·
  refine .rg<|.yv (.fieldAddr Z Fx.field157_1) Z<|.yv (.load Z Fx.agg4 (.head _) Z) Z<|.m Z Z<|.b2 (fun h9 => ?_) (fun h9 => ?_)
  ·skip
   refine .gd Z Z<|.yv (.fieldAddr Z Fx.field35_1) Z<|.gd Z Z<|.yv (.load Z Fx.agg9 (.tail _<|.head _) Z) Z<|.gd Z Z<|.yv (.call Fx.call75 Z (fun W s => isName_any H G nm (by omega) W s.agr)) Z<|.gd Z Z<|.yv (.not Z) Z<|.yv (.pickT Z Z) Z<|.m Z Z<|.b2 (fun h15 => ?_) (fun h15 => ?_)
   ·skip
    exact .gF Z Z Z Z<|.gF Z Z Z Z<|.gF Z Z Z Z<|.gU Z Z Z<|.gU Z Z Z<|.gU Z Z Z<|.gU Z Z Z<|.gF Z Z Z Z<|.yv (.pickT Z Z) Z<|.nt<|.me _ ⟨rfl,trivial⟩ ⟨rfl,trivial⟩ (fun _ s => s) (by first | simp only [h9,h15,h18,Bool.true_and,Bool.false_and,Bool.true_or,Bool.false_or] | simp only [h9,h15,Bool.true_and,Bool.false_and,Bool.true_or,Bool.false_or] | simp only [h9,h18,Bool.true_and,Bool.false_and,Bool.true_or,Bool.false_or])
   skip
   refine .gd Z Z<|.yv (.fieldAddr Z Fx.field157_2) Z<|.gd Z Z<|.yv (.load Z Fx.agg4 (.head _) Z) Z<|.gd Z Z<|.yv (.move Z) Z<|.b2 (fun h18 => ?_) (fun h18 => ?_)
   ·skip
    exact .gd Z Z<|.yv (.fieldAddr Z Fx.field35_2) Z<|.gd Z Z<|.yv (.load Z Fx.agg9 (.tail _<|.head _) Z) Z<|.gd Z Z<|.yv (.call Fx.call75 Z (fun W s => isName_any H G fd (by omega) W s.agr)) Z<|.gd Z Z<|.yv (.not Z) Z<|.gd Z Z<|.yv (.pickT Z Z) Z<|.yv (.pickF Z Z) Z<|.nt<|.me _ ⟨rfl,trivial⟩ ⟨rfl,trivial⟩ (fun _ s => s) (by first | simp only [h9,h15,h18,Bool.true_and,Bool.false_and,Bool.true_or,Bool.false_or] | simp only [h9,h15,Bool.true_and,Bool.false_and,Bool.true_or,Bool.false_or] | simp only [h9,h18,Bool.true_and,Bool.false_and,Bool.true_or,Bool.false_or])
   skip
   exact .gF Z Z Z Z<|.gF Z Z Z Z<|.gF Z Z Z Z<|.gF Z Z Z Z<|.gd Z Z<|.yv (.pickF Z Z) Z<|.yv (.pickF Z Z) Z<|.nt<|.me _ ⟨rfl,trivial⟩ ⟨rfl,trivial⟩ (fun _ s => s) (by first | simp only [h9,h15,h18,Bool.true_and,Bool.false_and,Bool.true_or,Bool.false_or] | simp only [h9,h15,Bool.true_and,Bool.false_and,Bool.true_or,Bool.false_or] | simp only [h9,h18,Bool.true_and,Bool.false_and,Bool.true_or,Bool.false_or])
  skip
  refine .gF Z Z Z Z<|.gF Z Z Z Z<|.gF Z Z Z Z<|.gF Z Z Z Z<|.yv (.pickF Z Z) Z<|.m Z Z<|.gd Z Z<|.yv (.fieldAddr Z Fx.field157_2) Z<|.gd Z Z<|.yv (.load Z Fx.agg4 (.head _) Z) Z<|.gd Z Z<|.yv (.move Z) Z<|.b2 (fun h18 => ?_) (fun h18 => ?_)
  ·skip
   exact .gd Z Z<|.yv (.fieldAddr Z Fx.field35_2) Z<|.gd Z Z<|.yv (.load Z Fx.agg9 (.tail _<|.head _) Z) Z<|.gd Z Z<|.yv (.call Fx.call75 Z (fun W s => isName_any H G fd (by omega) W s.agr)) Z<|.gd Z Z<|.yv (.not Z) Z<|.gd Z Z<|.yv (.pickT Z Z) Z<|.yv (.pickF Z Z) Z<|.nt<|.me _ ⟨rfl,trivial⟩ ⟨rfl,trivial⟩ (fun _ s => s) (by first | simp only [h9,h15,h18,Bool.true_and,Bool.false_and,Bool.true_or,Bool.false_or] | simp only [h9,h15,Bool.true_and,Bool.false_and,Bool.true_or,Bool.false_or] | simp only [h9,h18,Bool.true_and,Bool.false_and,Bool.true_or,Bool.false_or])
  skip
  exact .gF Z Z Z Z<|.gF Z Z Z Z<|.gF Z Z Z Z<|.gF Z Z Z Z<|.gd Z Z<|.yv (.pickF Z Z) Z<|.yv (.pickF Z Z) Z<|.nt<|.me _ ⟨rfl,trivial⟩ ⟨rfl,trivial⟩ (fun _ s => s) (by first | simp only [h9,h15,h18,Bool.true_and,Bool.false_and,Bool.true_or,Bool.false_or] | simp only [h9,h15,Bool.true_and,Bool.false_and,Bool.true_or,Bool.false_or] | simp only [h9,h18,Bool.true_and,Bool.false_and,Bool.true_or,Bool.false_or])
 have en := hC;refine .cd Z (fun h24 => ?_) (fun h24 => ?_)
 ·skip
  refine .sr<|.a Z Z<|.nt<|.rt<|.tR<|?_
  refine Sx.ret1 (.inl rfl) rfl (.tmp rfl) fun W s => ⟨?_,s.ext⟩
  first
   | (rw [nam_mk,← en,h24];rfl)
   | (rw [nam_mk,← en,h24,Bool.not_false,Bool.true_and])
 skip
 refine .sk<|.tN<|.sr<|.yv (.fieldAddr Z Fx.field35_5) Z<|.yv (.load Z Fx.agg32 (.tail _<|.head _) Z) Z<|.yv (.call Fx.call71 Z (fun W s => contains_any H 76 [] misB ex hs1 Fx.call76 (fun a _ => misnamed_any H G a) W s.agr)) Z<|.yv (.not Z) Z<|.a Z Z<|.nt<|.rt<|?_
 refine Sx.ret1 (.inl rfl) rfl (.tmp rfl) fun W s => ⟨?_,s.ext⟩
 first
  | (rw [nam_mk,← en,h24];rfl)
  | (rw [nam_mk,← en,h24,Bool.not_false,Bool.true_and])
theorem fs_small (op : UInt8) : (fsOf op).ar ≤ 2 ∧ (fsOf op).ex ≤ 1 := op_cases (q := fun op => (fsOf op).ar ≤ 2 ∧ (fsOf op).ex ≤ 1) (by decide +kernel) op
theorem nn0 {n k : Nat} : decide (¬ ((n : Nat) : Int) = ((k : Nat) : Int)) = !decide (n = k) := by rw [← n0,decide_not]
theorem le4 {n : Nat} : decide (((n : Nat) : Int) ≤ 4) = decide (n ≤ 4) := by rw [Bool.eq_iff_iff,decide_eq_true_eq,decide_eq_true_eq];omega
theorem form_mk {op : UInt8} {nm fd : Str} {a b : Int64} {ex : List Ex} {args : List Fm} : formB (.mk op nm fd a b ex args) = (decide (¬ (fsOf op).lv = 0) && ((fsOf op).nm || decide (nm = [])) && ((fsOf op).fd || decide (fd = [])) && decide (args.length = (fsOf op).ar) && bndB (.mk op nm fd a b ex args) && exsB (.mk op nm fd a b ex args)) := rfl
theorem form_bad {op : UInt8} {nm fd : Str} {a b : Int64} {ex : List Ex} {args : List Fm} (h : (decide ((fsOf op).lv = 0) || (!(fsOf op).nm && !decide (nm = [])) || (!(fsOf op).fd && !decide (fd = [])) || !decide (args.length = (fsOf op).ar)) = true) : formB (.mk op nm fd a b ex args) = false := by
 rw [form_mk,decide_not];generalize decide ((fsOf op).lv = 0) = x1 at *;generalize (fsOf op).nm = x2 at *;generalize decide (nm = []) = x3 at *;generalize (fsOf op).fd = x4 at *;generalize decide (fd = []) = x5 at *;generalize decide (args.length = (fsOf op).ar) = x6 at *;generalize bndB (.mk op nm fd a b ex args) = x7;generalize exsB (.mk op nm fd a b ex args) = x8
 revert h
 cases x1 <;> cases x2 <;> cases x3 <;> cases x4 <;> cases x5 <;> cases x6 <;> simp
theorem form_bnd {op : UInt8} {nm fd : Str} {a b : Int64} {ex : List Ex} {args : List Fm} (h : bndB (.mk op nm fd a b ex args) = false) : formB (.mk op nm fd a b ex args) = false := by rw [form_mk,h,Bool.and_false,Bool.false_and]
theorem form_ok {op : UInt8} {nm fd : Str} {a b : Int64} {ex : List Ex} {args : List Fm} (h : (decide ((fsOf op).lv = 0) || (!(fsOf op).nm && !decide (nm = [])) || (!(fsOf op).fd && !decide (fd = [])) || !decide (args.length = (fsOf op).ar)) = false) (hb : bndB (.mk op nm fd a b ex args) = true) : formB (.mk op nm fd a b ex args) = exsB (.mk op nm fd a b ex args) := by
 rw [form_mk,decide_not,hb];generalize decide ((fsOf op).lv = 0) = x1 at *;generalize (fsOf op).nm = x2 at *;generalize decide (nm = []) = x3 at *;generalize (fsOf op).fd = x4 at *;generalize decide (fd = []) = x5 at *;generalize decide (args.length = (fsOf op).ar) = x6 at *
 revert h
 cases x1 <;> cases x2 <;> cases x3 <;> cases x4 <;> cases x5 <;> cases x6 <;> simp
theorem dec0 {n : Int64} : (n = 0) = (n.toInt = 0) := by have := @i0 n;rw [Bool.eq_iff_iff,decide_eq_true_eq,decide_eq_true_eq] at this;exact propext this.symm
theorem bnd_w {op : UInt8} {nm fd : Str} {a b : Int64} {ex : List Ex} {args : List Fm} (h : (fsOf op).wn = true) : bndB (.mk op nm fd a b ex args) = decide ((a.toInt = 0 ∧ b.toInt = -1) ∨ (0 ≤ a.toInt ∧ a.toInt ≤ b.toInt ∧ b.toInt ≤ 200)) := by
 unfold bndB;rw [if_pos (show (fsOf (Fm.mk op nm fd a b ex args).op).wn = true from h),Bool.eq_iff_iff];show ((decide (a = 0) && decide (b.toInt = -1)) || (decide (0 ≤ a.toInt) && decide (a.toInt ≤ b.toInt) && decide (b.toInt ≤ 200))) = true ↔ _;rw [Bool.or_eq_true,Bool.and_eq_true,Bool.and_eq_true,Bool.and_eq_true,decide_eq_true_eq,decide_eq_true_eq,decide_eq_true_eq,decide_eq_true_eq,decide_eq_true_eq,decide_eq_true_eq,dec0];omega
theorem bnd_a {op : UInt8} {nm fd : Str} {a b : Int64} {ex : List Ex} {args : List Fm} (h : (fsOf op).wn = false) (h2 : (fsOf op).am = true) : bndB (.mk op nm fd a b ex args) = decide (-1000000 ≤ a.toInt ∧ a.toInt ≤ b.toInt ∧ b.toInt ≤ 1000000 ∧ b.toInt - a.toInt < 32) := by
 unfold bndB;rw [if_neg (show ¬ (fsOf (Fm.mk op nm fd a b ex args).op).wn = true by show ¬ (fsOf op).wn = true;rw [h];decide),if_pos (show (fsOf (Fm.mk op nm fd a b ex args).op).am = true from h2),Bool.eq_iff_iff];show (decide (-1000000 ≤ a.toInt) && decide (a.toInt ≤ b.toInt) && decide (b.toInt ≤ 1000000) && decide (b.toInt - a.toInt < 32)) = true ↔ _;rw [Bool.and_eq_true,Bool.and_eq_true,Bool.and_eq_true,decide_eq_true_eq,decide_eq_true_eq,decide_eq_true_eq,decide_eq_true_eq,decide_eq_true_eq];omega
theorem bnd_n {op : UInt8} {nm fd : Str} {a b : Int64} {ex : List Ex} {args : List Fm} (h : (fsOf op).wn = false) (h2 : (fsOf op).am = false) : bndB (.mk op nm fd a b ex args) = decide (a.toInt = 0 ∧ b.toInt = 0) := by
 unfold bndB;rw [if_neg (show ¬ (fsOf (Fm.mk op nm fd a b ex args).op).wn = true by show ¬ (fsOf op).wn = true;rw [h];decide),if_neg (show ¬ (fsOf (Fm.mk op nm fd a b ex args).op).am = true by show ¬ (fsOf op).am = true;rw [h2];decide),Bool.eq_iff_iff];show (decide (a = 0) && decide (b = 0)) = true ↔ _;rw [Bool.and_eq_true,decide_eq_true_eq,decide_eq_true_eq,decide_eq_true_eq,dec0,dec0]
theorem all_frm {l : List Ex} : (!l.any frm1B) = l.all fun e => anyB e || termB e := by
 induction l with
 | nil => rfl
 | cons e r ih => rw [List.any_cons,List.all_cons,← ih,frm1];cases anyB e <;> cases termB e <;> simp
theorem exs7 {op : UInt8} {nm fd : Str} {a b : Int64} {ex : List Ex} {args : List Fm} (h : op = 7) : exsB (.mk op nm fd a b ex args) = (decide (ex.length ≤ 4) && ex.all fun e => anyB e || termB e) := by unfold exsB;rw [if_pos (show (Fm.mk op nm fd a b ex args).op = 7 from h)];rfl
theorem exsQ {op : UInt8} {nm fd : Str} {a b : Int64} {ex : List Ex} {args : List Fm} (h : ¬ op = 7) : exsB (.mk op nm fd a b ex args) = (decide (ex.length = (fsOf op).ex) && (if op = 3 then cmpB (ex.headD (.mk 0 [] 0 [])) else if op = 5 then termB (ex.headD (.mk 0 [] 0 [])) else if op = 18 then decide ((ex.headD (.mk 0 [] 0 [])).op = 1) && termB (ex.headD (.mk 0 [] 0 [])) && decide ((ex.headD (.mk 0 [] 0 [])).n.toInt ≤ 32) else true)) := by unfold exsB;rw [if_neg (show ¬ (Fm.mk op nm fd a b ex args).op = 7 from h)];rfl
theorem exsL {op : UInt8} {nm fd : Str} {a b : Int64} {ex : List Ex} {args : List Fm} (h : ¬ op = 7) (h2 : ¬ ex.length = (fsOf op).ex) : exsB (.mk op nm fd a b ex args) = false := by rw [exsQ h,decide_eq_false h2];rfl
theorem exsN {op : UInt8} {nm fd : Str} {a b : Int64} {ex : List Ex} {args : List Fm} (h : ¬ op = 7) (h2 : ex.length = (fsOf op).ex) (h3 : ¬ op = 3) (h5 : ¬ op = 5) (h18 : ¬ op = 18) : exsB (.mk op nm fd a b ex args) = true := by rw [exsQ h,decide_eq_true h2,if_neg h3,if_neg h5,if_neg h18];rfl
theorem exs3 {op : UInt8} {nm fd : Str} {a b : Int64} {args : List Fm} {e0 : Ex} (h : op = 3) : exsB (.mk op nm fd a b [e0] args) = cmpB e0 := by subst h;rw [exsQ (by decide),if_pos rfl];rfl
theorem exs5 {op : UInt8} {nm fd : Str} {a b : Int64} {args : List Fm} {e0 : Ex} (h : op = 5) : exsB (.mk op nm fd a b [e0] args) = termB e0 := by subst h;rw [exsQ (by decide),if_neg (by decide),if_pos rfl];rfl
theorem exs18 {op : UInt8} {nm fd : Str} {a b : Int64} {args : List Fm} {op0 : UInt8} {nm0 : Str} {m0 : Int64} {args0 : List Ex} (h : op = 18) : exsB (.mk op nm fd a b [.mk op0 nm0 m0 args0] args) = (decide (((op0.toNat : Nat) : Int) = 1) && termB (.mk op0 nm0 m0 args0) && decide (m0.toInt ≤ 32)) := by subst h;rw [exsQ (by decide),if_neg (by decide),if_neg (by decide),if_pos rfl,k81];rfl
set_option maxHeartbeats 2000000 in
set_option maxRecDepth 100000 in
theorem formed_any (H : Hp) (Gt : Gf H) (f : Fm) : FFn H 38 formB f := by
 intro cs w h hA;obtain ⟨op,nm,fd,a,b,ex,args⟩ := f;obtain ⟨p1,c1,p2,c2,rfl,hs1,hs2,hnm,hfd⟩ := fm_open h;have hcap := hs1.cap;have hcap2 := hs2.cap;refine Sx.enter (H := H) Tryz.func38 rfl Tryz.ntmps38 rfl hA ?_;refine .sr<|.bx Z Z Z fun b1 => .a Z Z<|.ns<|.yv (.fieldAddr Z Fx.field35_0) Z<|.yv (.load Z Fx.agg31 (.head _) Z) Z<|.yv (.call (v := .agg (fsC (fsOf op)).toArray) Fx.call74 Z (fun W s => fshape_any H Gt op W s.agr)) Z<|.al Fx.zero157 Z fun b3 => .sW .head Z Z Fx.size157 (by simp [fsC,Value.oneCell',strV]) Z<|.nt<|.sq<|.cu (X := Bool) [(1,_),(3,_)] ⟨rfl,rfl,trivial⟩ (fun z => [(38,.bool z)]) (fun z => H) (fun z => [.box b3 (fsC (fsOf op)) 157,.box b1 [.int .u8 op.toNat,strV nm,strV fd,.int .i64 a.toInt,.int .i64 b.toInt,.slice p1 ex.length c1,.slice p2 args.length c2] 35]) (fun z => z = (decide ((fsOf op).lv = 0) || (!(fsOf op).nm && !decide (nm = [])) || (!(fsOf op).fd && !decide (fd = [])) || !decide (args.length = (fsOf op).ar))) ?_ fun z hC => ?_
 ·
  refine .rg<|.yv (.fieldAddr Z Fx.field157_0) Z<|.yv (.load Z Fx.agg5 (.head _) Z) Z<|.yv (.cast (.eql Z Z) (congrArg Value.bool er0)) Z<|.m Z Z<|.b2 (fun h10 => ?_) (fun h10 => ?_)
  ·skip
   exact .gF Z Z Z Z<|.gF Z Z Z Z<|.gF Z Z Z Z<|.gF Z Z Z Z<|.gU Z Z Z<|.gU Z Z Z<|.gU Z Z Z<|.gF Z Z Z Z<|.yv (.pickT Z Z) Z<|.m Z Z<|.gF Z Z Z Z<|.gF Z Z Z Z<|.gF Z Z Z Z<|.gF Z Z Z Z<|.gU Z Z Z<|.gU Z Z Z<|.gU Z Z Z<|.gF Z Z Z Z<|.yv (.pickT Z Z) Z<|.m Z Z<|.gF Z Z Z Z<|.gF Z Z Z Z<|.gF Z Z Z Z<|.gF Z Z Z Z<|.gF Z Z Z Z<|.gF Z Z Z Z<|.gF Z Z Z Z<|.yv (.pickT Z Z) Z<|.nt<|.me _ ⟨rfl,trivial⟩ ⟨rfl,rfl,trivial⟩ (fun _ s => s) (by first | (simp only [h10,h14,h20,h24,h30,Bool.true_and,Bool.false_and,Bool.true_or,Bool.false_or,Bool.or_false,Bool.or_true];done) | (simp only [h10,h14,h20,h24,Bool.true_and,Bool.false_and,Bool.true_or,Bool.false_or,Bool.or_false,Bool.or_true];done) | (simp only [h10,h14,h24,h30,Bool.true_and,Bool.false_and,Bool.true_or,Bool.false_or,Bool.or_false,Bool.or_true];done) | (simp only [h10,h14,h24,Bool.true_and,Bool.false_and,Bool.true_or,Bool.false_or,Bool.or_false,Bool.or_true];done) | (simp only [h10,h14,h20,Bool.true_and,Bool.false_and,Bool.true_or,Bool.false_or,Bool.or_false,Bool.or_true];done) | (simp only [h10,Bool.true_and,Bool.false_and,Bool.true_or,Bool.false_or,Bool.or_false,Bool.or_true];done) )
  skip
  refine .gd Z Z<|.yv (.fieldAddr Z Fx.field157_1) Z<|.gd Z Z<|.yv (.load Z Fx.agg4 (.head _) Z) Z<|.gd Z Z<|.yv (.not Z) Z<|.gd Z Z<|.yv (.move Z) Z<|.b2 (fun h14 => ?_) (fun h14 => ?_)
  ·skip
   refine .gd Z Z<|.yv (.fieldAddr Z Fx.field35_1) Z<|.gd Z Z<|.yv (.load Z Fx.agg9 (.tail _<|.head _) Z) Z<|.gd Z Z<|.yv (.cast (.neS Z Z) (congrArg Value.bool decide_not)) Z<|.gd Z Z<|.yv (.pickT Z Z) Z<|.yv (.pickF Z Z) Z<|.m Z Z<|.b2 (fun h20 => ?_) (fun h20 => ?_)
   ·skip
    exact .gF Z Z Z Z<|.gF Z Z Z Z<|.gF Z Z Z Z<|.gF Z Z Z Z<|.gU Z Z Z<|.gU Z Z Z<|.gU Z Z Z<|.gF Z Z Z Z<|.yv (.pickT Z Z) Z<|.m Z Z<|.gF Z Z Z Z<|.gF Z Z Z Z<|.gF Z Z Z Z<|.gF Z Z Z Z<|.gF Z Z Z Z<|.gF Z Z Z Z<|.gF Z Z Z Z<|.yv (.pickT Z Z) Z<|.nt<|.me _ ⟨rfl,trivial⟩ ⟨rfl,rfl,trivial⟩ (fun _ s => s) (by first | (simp only [h10,h14,h20,h24,h30,Bool.true_and,Bool.false_and,Bool.true_or,Bool.false_or,Bool.or_false,Bool.or_true];done) | (simp only [h10,h14,h20,h24,Bool.true_and,Bool.false_and,Bool.true_or,Bool.false_or,Bool.or_false,Bool.or_true];done) | (simp only [h10,h14,h24,h30,Bool.true_and,Bool.false_and,Bool.true_or,Bool.false_or,Bool.or_false,Bool.or_true];done) | (simp only [h10,h14,h24,Bool.true_and,Bool.false_and,Bool.true_or,Bool.false_or,Bool.or_false,Bool.or_true];done) | (simp only [h10,h14,h20,Bool.true_and,Bool.false_and,Bool.true_or,Bool.false_or,Bool.or_false,Bool.or_true];done) | (simp only [h10,Bool.true_and,Bool.false_and,Bool.true_or,Bool.false_or,Bool.or_false,Bool.or_true];done) )
   skip
   refine .gd Z Z<|.yv (.fieldAddr Z Fx.field157_2) Z<|.gd Z Z<|.yv (.load Z Fx.agg4 (.head _) Z) Z<|.gd Z Z<|.yv (.not Z) Z<|.gd Z Z<|.yv (.move Z) Z<|.b2 (fun h24 => ?_) (fun h24 => ?_)
   ·skip
    refine .gd Z Z<|.yv (.fieldAddr Z Fx.field35_2) Z<|.gd Z Z<|.yv (.load Z Fx.agg9 (.tail _<|.head _) Z) Z<|.gd Z Z<|.yv (.cast (.neS Z Z) (congrArg Value.bool decide_not)) Z<|.gd Z Z<|.yv (.pickT Z Z) Z<|.yv (.pickF Z Z) Z<|.m Z Z<|.b2 (fun h30 => ?_) (fun h30 => ?_)
    ·skip
     exact .gF Z Z Z Z<|.gF Z Z Z Z<|.gF Z Z Z Z<|.gF Z Z Z Z<|.gF Z Z Z Z<|.gF Z Z Z Z<|.gF Z Z Z Z<|.yv (.pickT Z Z) Z<|.nt<|.me _ ⟨rfl,trivial⟩ ⟨rfl,rfl,trivial⟩ (fun _ s => s) (by first | (simp only [h10,h14,h20,h24,h30,Bool.true_and,Bool.false_and,Bool.true_or,Bool.false_or,Bool.or_false,Bool.or_true];done) | (simp only [h10,h14,h20,h24,Bool.true_and,Bool.false_and,Bool.true_or,Bool.false_or,Bool.or_false,Bool.or_true];done) | (simp only [h10,h14,h24,h30,Bool.true_and,Bool.false_and,Bool.true_or,Bool.false_or,Bool.or_false,Bool.or_true];done) | (simp only [h10,h14,h24,Bool.true_and,Bool.false_and,Bool.true_or,Bool.false_or,Bool.or_false,Bool.or_true];done) | (simp only [h10,h14,h20,Bool.true_and,Bool.false_and,Bool.true_or,Bool.false_or,Bool.or_false,Bool.or_true];done) | (simp only [h10,Bool.true_and,Bool.false_and,Bool.true_or,Bool.false_or,Bool.or_false,Bool.or_true];done) )
    skip
    exact .gd Z Z<|.yv (.fieldAddr Z Fx.field35_6) Z<|.gd Z Z<|.yv (.load Z Fx.agg33 (.tail _<|.head _) Z) Z<|.gd Z Z<|.yv (.lenSl Fx.sl33 Z) Z<|.gd Z Z<|.yv (.fieldAddr Z Fx.field157_6) Z<|.gd Z Z<|.yv (.load Z Fx.agg5 (.head _) Z) Z<|.gd Z Z<|.yv (.conv Z Fx.int5 Fx.int3 (c := (((fsOf op).ar : Nat) : Int)) (w64 (by omega) (by have := fs_small op;omega))) Z<|.gd Z Z<|.yv (.cast (.neq Z Z) (congrArg Value.bool nn0)) Z<|.yv (.pickF Z Z) Z<|.nt<|.me _ ⟨rfl,trivial⟩ ⟨rfl,rfl,trivial⟩ (fun _ s => s) (by first | (simp only [h10,h14,h20,h24,h30,Bool.true_and,Bool.false_and,Bool.true_or,Bool.false_or,Bool.or_false,Bool.or_true];done) | (simp only [h10,h14,h20,h24,Bool.true_and,Bool.false_and,Bool.true_or,Bool.false_or,Bool.or_false,Bool.or_true];done) | (simp only [h10,h14,h24,h30,Bool.true_and,Bool.false_and,Bool.true_or,Bool.false_or,Bool.or_false,Bool.or_true];done) | (simp only [h10,h14,h24,Bool.true_and,Bool.false_and,Bool.true_or,Bool.false_or,Bool.or_false,Bool.or_true];done) | (simp only [h10,h14,h20,Bool.true_and,Bool.false_and,Bool.true_or,Bool.false_or,Bool.or_false,Bool.or_true];done) | (simp only [h10,Bool.true_and,Bool.false_and,Bool.true_or,Bool.false_or,Bool.or_false,Bool.or_true];done) )
   skip
   exact .gF Z Z Z Z<|.gF Z Z Z Z<|.gF Z Z Z Z<|.gd Z Z<|.yv (.pickF Z Z) Z<|.yv (.pickF Z Z) Z<|.m Z Z<|.gd Z Z<|.yv (.fieldAddr Z Fx.field35_6) Z<|.gd Z Z<|.yv (.load Z Fx.agg33 (.tail _<|.head _) Z) Z<|.gd Z Z<|.yv (.lenSl Fx.sl33 Z) Z<|.gd Z Z<|.yv (.fieldAddr Z Fx.field157_6) Z<|.gd Z Z<|.yv (.load Z Fx.agg5 (.head _) Z) Z<|.gd Z Z<|.yv (.conv Z Fx.int5 Fx.int3 (c := (((fsOf op).ar : Nat) : Int)) (w64 (by omega) (by have := fs_small op;omega))) Z<|.gd Z Z<|.yv (.cast (.neq Z Z) (congrArg Value.bool nn0)) Z<|.yv (.pickF Z Z) Z<|.nt<|.me _ ⟨rfl,trivial⟩ ⟨rfl,rfl,trivial⟩ (fun _ s => s) (by first | (simp only [h10,h14,h20,h24,h30,Bool.true_and,Bool.false_and,Bool.true_or,Bool.false_or,Bool.or_false,Bool.or_true];done) | (simp only [h10,h14,h20,h24,Bool.true_and,Bool.false_and,Bool.true_or,Bool.false_or,Bool.or_false,Bool.or_true];done) | (simp only [h10,h14,h24,h30,Bool.true_and,Bool.false_and,Bool.true_or,Bool.false_or,Bool.or_false,Bool.or_true];done) | (simp only [h10,h14,h24,Bool.true_and,Bool.false_and,Bool.true_or,Bool.false_or,Bool.or_false,Bool.or_true];done) | (simp only [h10,h14,h20,Bool.true_and,Bool.false_and,Bool.true_or,Bool.false_or,Bool.or_false,Bool.or_true];done) | (simp only [h10,Bool.true_and,Bool.false_and,Bool.true_or,Bool.false_or,Bool.or_false,Bool.or_true];done) )
  skip
  refine .gF Z Z Z Z<|.gF Z Z Z Z<|.gF Z Z Z Z<|.gd Z Z<|.yv (.pickF Z Z) Z<|.yv (.pickF Z Z) Z<|.m Z Z<|.gd Z Z<|.yv (.fieldAddr Z Fx.field157_2) Z<|.gd Z Z<|.yv (.load Z Fx.agg4 (.head _) Z) Z<|.gd Z Z<|.yv (.not Z) Z<|.gd Z Z<|.yv (.move Z) Z<|.b2 (fun h24 => ?_) (fun h24 => ?_)
  ·skip
   refine .gd Z Z<|.yv (.fieldAddr Z Fx.field35_2) Z<|.gd Z Z<|.yv (.load Z Fx.agg9 (.tail _<|.head _) Z) Z<|.gd Z Z<|.yv (.cast (.neS Z Z) (congrArg Value.bool decide_not)) Z<|.gd Z Z<|.yv (.pickT Z Z) Z<|.yv (.pickF Z Z) Z<|.m Z Z<|.b2 (fun h30 => ?_) (fun h30 => ?_)
   ·skip
    exact .gF Z Z Z Z<|.gF Z Z Z Z<|.gF Z Z Z Z<|.gF Z Z Z Z<|.gF Z Z Z Z<|.gF Z Z Z Z<|.gF Z Z Z Z<|.yv (.pickT Z Z) Z<|.nt<|.me _ ⟨rfl,trivial⟩ ⟨rfl,rfl,trivial⟩ (fun _ s => s) (by first | (simp only [h10,h14,h20,h24,h30,Bool.true_and,Bool.false_and,Bool.true_or,Bool.false_or,Bool.or_false,Bool.or_true];done) | (simp only [h10,h14,h20,h24,Bool.true_and,Bool.false_and,Bool.true_or,Bool.false_or,Bool.or_false,Bool.or_true];done) | (simp only [h10,h14,h24,h30,Bool.true_and,Bool.false_and,Bool.true_or,Bool.false_or,Bool.or_false,Bool.or_true];done) | (simp only [h10,h14,h24,Bool.true_and,Bool.false_and,Bool.true_or,Bool.false_or,Bool.or_false,Bool.or_true];done) | (simp only [h10,h14,h20,Bool.true_and,Bool.false_and,Bool.true_or,Bool.false_or,Bool.or_false,Bool.or_true];done) | (simp only [h10,Bool.true_and,Bool.false_and,Bool.true_or,Bool.false_or,Bool.or_false,Bool.or_true];done) )
   skip
   exact .gd Z Z<|.yv (.fieldAddr Z Fx.field35_6) Z<|.gd Z Z<|.yv (.load Z Fx.agg33 (.tail _<|.head _) Z) Z<|.gd Z Z<|.yv (.lenSl Fx.sl33 Z) Z<|.gd Z Z<|.yv (.fieldAddr Z Fx.field157_6) Z<|.gd Z Z<|.yv (.load Z Fx.agg5 (.head _) Z) Z<|.gd Z Z<|.yv (.conv Z Fx.int5 Fx.int3 (c := (((fsOf op).ar : Nat) : Int)) (w64 (by omega) (by have := fs_small op;omega))) Z<|.gd Z Z<|.yv (.cast (.neq Z Z) (congrArg Value.bool nn0)) Z<|.yv (.pickF Z Z) Z<|.nt<|.me _ ⟨rfl,trivial⟩ ⟨rfl,rfl,trivial⟩ (fun _ s => s) (by first | (simp only [h10,h14,h20,h24,h30,Bool.true_and,Bool.false_and,Bool.true_or,Bool.false_or,Bool.or_false,Bool.or_true];done) | (simp only [h10,h14,h20,h24,Bool.true_and,Bool.false_and,Bool.true_or,Bool.false_or,Bool.or_false,Bool.or_true];done) | (simp only [h10,h14,h24,h30,Bool.true_and,Bool.false_and,Bool.true_or,Bool.false_or,Bool.or_false,Bool.or_true];done) | (simp only [h10,h14,h24,Bool.true_and,Bool.false_and,Bool.true_or,Bool.false_or,Bool.or_false,Bool.or_true];done) | (simp only [h10,h14,h20,Bool.true_and,Bool.false_and,Bool.true_or,Bool.false_or,Bool.or_false,Bool.or_true];done) | (simp only [h10,Bool.true_and,Bool.false_and,Bool.true_or,Bool.false_or,Bool.or_false,Bool.or_true];done) )
  skip
  exact .gF Z Z Z Z<|.gF Z Z Z Z<|.gF Z Z Z Z<|.gd Z Z<|.yv (.pickF Z Z) Z<|.yv (.pickF Z Z) Z<|.m Z Z<|.gd Z Z<|.yv (.fieldAddr Z Fx.field35_6) Z<|.gd Z Z<|.yv (.load Z Fx.agg33 (.tail _<|.head _) Z) Z<|.gd Z Z<|.yv (.lenSl Fx.sl33 Z) Z<|.gd Z Z<|.yv (.fieldAddr Z Fx.field157_6) Z<|.gd Z Z<|.yv (.load Z Fx.agg5 (.head _) Z) Z<|.gd Z Z<|.yv (.conv Z Fx.int5 Fx.int3 (c := (((fsOf op).ar : Nat) : Int)) (w64 (by omega) (by have := fs_small op;omega))) Z<|.gd Z Z<|.yv (.cast (.neq Z Z) (congrArg Value.bool nn0)) Z<|.yv (.pickF Z Z) Z<|.nt<|.me _ ⟨rfl,trivial⟩ ⟨rfl,rfl,trivial⟩ (fun _ s => s) (by first | (simp only [h10,h14,h20,h24,h30,Bool.true_and,Bool.false_and,Bool.true_or,Bool.false_or,Bool.or_false,Bool.or_true];done) | (simp only [h10,h14,h20,h24,Bool.true_and,Bool.false_and,Bool.true_or,Bool.false_or,Bool.or_false,Bool.or_true];done) | (simp only [h10,h14,h24,h30,Bool.true_and,Bool.false_and,Bool.true_or,Bool.false_or,Bool.or_false,Bool.or_true];done) | (simp only [h10,h14,h24,Bool.true_and,Bool.false_and,Bool.true_or,Bool.false_or,Bool.or_false,Bool.or_true];done) | (simp only [h10,h14,h20,Bool.true_and,Bool.false_and,Bool.true_or,Bool.false_or,Bool.or_false,Bool.or_true];done) | (simp only [h10,Bool.true_and,Bool.false_and,Bool.true_or,Bool.false_or,Bool.or_false,Bool.or_true];done) )
 have ez := hC;refine .cd Z (fun h38 => ?_) (fun h38 => ?_)
 ·skip
  refine .sr<|.a Z Z<|.nt<|.rt<|.tR<|?_
  refine Sx.ret1 (.inl rfl) rfl (.tmp rfl) fun W s => ⟨?_,s.ext⟩
  first
   | (rw [form_bad (ez.symm.trans h38)])
   | (rw [form_bnd (by rw [bnd_w h39,decide_eq_false (of_decide_eq_true (by rw [h66] at ew;exact ew.symm))])])
   | (rw [form_bnd (by rw [bnd_a h39 h67,decide_eq_false (of_decide_eq_true (by rw [h92] at ea;exact ea.symm))])])
   | (rw [form_bnd (by rw [bnd_n h39 h67,decide_eq_false (of_decide_eq_true (by rw [h93] at en;exact en.symm))])])
   | (rw [form_ok (ez.symm.trans h38) hb,exs7 q7,h109,Bool.true_and,all_frm])
   | (rw [form_ok (ez.symm.trans h38) hb,exs7 q7,h109];rfl)
   | (rw [form_ok (ez.symm.trans h38) hb,exsL q7 hlx])
   | (rw [form_ok (ez.symm.trans h38) hb,exs3 q3])
   | (rw [form_ok (ez.symm.trans h38) hb,exs5 q5])
   | (rw [form_ok (ez.symm.trans h38) hb,exs18 q18,h146,h153,Bool.true_and,Bool.true_and])
   | (rw [form_ok (ez.symm.trans h38) hb,exs18 q18,h146,h153];rfl)
   | (rw [form_ok (ez.symm.trans h38) hb,exs18 q18,h146];rfl)
   | (rw [form_ok (ez.symm.trans h38) hb,exsN q7 hlx q3 q5 q18])
 skip
 refine .sk<|.tN<|.cu (X := Unit) [(1,_),(3,_)] ⟨rfl,rfl,trivial⟩ (fun z => []) (fun z => H) (fun z => [.box b3 (fsC (fsOf op)) 157,.box b1 [.int .u8 op.toNat,strV nm,strV fd,.int .i64 a.toInt,.int .i64 b.toInt,.slice p1 ex.length c1,.slice p2 args.length c2] 35]) (fun z => bndB (.mk op nm fd a b ex args) = true) ?_ fun z hC => ?_
 ·
  refine .bk<|.sr<|.yv (.fieldAddr Z Fx.field157_3) Z<|.yv (.load Z Fx.agg4 (.head _) Z) Z<|.a Z Z<|.nt<|.cd Z (fun h39 => ?_) (fun h39 => ?_)
  ·skip
   refine .cu (X := Bool) [(1,_),(3,_)] ⟨rfl,rfl,trivial⟩ (fun z => [(66,.bool z)]) (fun z => H) (fun z => [.box b3 (fsC (fsOf op)) 157,.box b1 [.int .u8 op.toNat,strV nm,strV fd,.int .i64 a.toInt,.int .i64 b.toInt,.slice p1 ex.length c1,.slice p2 args.length c2] 35]) (fun z => z = decide (¬ ((a.toInt = 0 ∧ b.toInt = -1) ∨ (0 ≤ a.toInt ∧ a.toInt ≤ b.toInt ∧ b.toInt ≤ 200)))) ?_ fun z hC => ?_
   ·
    refine .rg<|.yv (.fieldAddr Z Fx.field35_3) Z<|.yv (.load Z Fx.agg3 (.tail _<|.head _) Z) Z<|.yv (.neq Z Z) Z<|.m Z Z<|.b2 (fun h45 => ?_) (fun h45 => ?_)
    ·try simp only [dt] at h45
     refine .gF Z Z Z Z<|.gF Z Z Z Z<|.gF Z Z Z Z<|.yv (.pickT Z Z) Z<|.m Z Z<|.gd Z Z<|.yv (.fieldAddr Z Fx.field35_3) Z<|.gd Z Z<|.yv (.load Z Fx.agg3 (.tail _<|.head _) Z) Z<|.gd Z Z<|.yv (.lss Z Z) Z<|.gd Z Z<|.yv (.move Z) Z<|.b2 (fun h54 => ?_) (fun h54 => ?_)
     ·try simp only [dt] at h54
      exact .gF Z Z Z Z<|.gF Z Z Z Z<|.gF Z Z Z Z<|.gF Z Z Z Z<|.gF Z Z Z Z<|.gd Z Z<|.yv (.pickT Z Z) Z<|.gd Z Z<|.yv (.move Z) Z<|.gF Z Z Z Z<|.gF Z Z Z Z<|.gF Z Z Z Z<|.gd Z Z<|.yv (.pickT Z Z) Z<|.yv (.pickT Z Z) Z<|.nt<|.me _ ⟨rfl,trivial⟩ ⟨rfl,rfl,trivial⟩ (fun _ s => s) (by rw [Bool.eq_iff_iff,decide_eq_true_eq];first | (rw [decide_eq_true_eq];omega) | exact ⟨fun _ => by omega,fun _ => rfl⟩ | exact ⟨fun h => (by cases h),fun h => by omega⟩)
     try simp only [df] at h54
     refine .gd Z Z<|.yv (.fieldAddr Z Fx.field35_3) Z<|.gd Z Z<|.yv (.load Z Fx.agg3 (.tail _<|.head _) Z) Z<|.gd Z Z<|.yv (.fieldAddr Z Fx.field35_4) Z<|.gd Z Z<|.yv (.load Z Fx.agg3 (.tail _<|.head _) Z) Z<|.gd Z Z<|.yv (.gtr Z Z) Z<|.gd Z Z<|.yv (.pickF Z Z) Z<|.gd Z Z<|.yv (.move Z) Z<|.b2 (fun h61 => ?_) (fun h61 => ?_)
     ·try simp only [dt] at h61
      exact .gF Z Z Z Z<|.gF Z Z Z Z<|.gF Z Z Z Z<|.gd Z Z<|.yv (.pickT Z Z) Z<|.yv (.pickT Z Z) Z<|.nt<|.me _ ⟨rfl,trivial⟩ ⟨rfl,rfl,trivial⟩ (fun _ s => s) (by rw [Bool.eq_iff_iff,decide_eq_true_eq];first | (rw [decide_eq_true_eq];omega) | exact ⟨fun _ => by omega,fun _ => rfl⟩ | exact ⟨fun h => (by cases h),fun h => by omega⟩)
     try simp only [df] at h61
     exact .gd Z Z<|.yv (.fieldAddr Z Fx.field35_4) Z<|.gd Z Z<|.yv (.load Z Fx.agg3 (.tail _<|.head _) Z) Z<|.gd Z Z<|.yv (.gtr Z Z) Z<|.gd Z Z<|.yv (.pickF Z Z) Z<|.yv (.pickT Z Z) Z<|.nt<|.me _ ⟨rfl,trivial⟩ ⟨rfl,rfl,trivial⟩ (fun _ s => s) (by rw [Bool.eq_iff_iff,decide_eq_true_eq];first | (rw [decide_eq_true_eq];omega) | exact ⟨fun _ => by omega,fun _ => rfl⟩ | exact ⟨fun h => (by cases h),fun h => by omega⟩)
    try simp only [df] at h45
    refine .gd Z Z<|.yv (.fieldAddr Z Fx.field35_4) Z<|.gd Z Z<|.yv (.load Z Fx.agg3 (.tail _<|.head _) Z) Z<|.gd Z Z<|.yv (.neq Z Z) Z<|.yv (.pickF Z Z) Z<|.m Z Z<|.b2 (fun h50 => ?_) (fun h50 => ?_)
    ·try simp only [dt] at h50
     refine .gd Z Z<|.yv (.fieldAddr Z Fx.field35_3) Z<|.gd Z Z<|.yv (.load Z Fx.agg3 (.tail _<|.head _) Z) Z<|.gd Z Z<|.yv (.lss Z Z) Z<|.gd Z Z<|.yv (.move Z) Z<|.b2 (fun h54 => ?_) (fun h54 => ?_)
     ·try simp only [dt] at h54
      exact .gF Z Z Z Z<|.gF Z Z Z Z<|.gF Z Z Z Z<|.gF Z Z Z Z<|.gF Z Z Z Z<|.gd Z Z<|.yv (.pickT Z Z) Z<|.gd Z Z<|.yv (.move Z) Z<|.gF Z Z Z Z<|.gF Z Z Z Z<|.gF Z Z Z Z<|.gd Z Z<|.yv (.pickT Z Z) Z<|.yv (.pickT Z Z) Z<|.nt<|.me _ ⟨rfl,trivial⟩ ⟨rfl,rfl,trivial⟩ (fun _ s => s) (by rw [Bool.eq_iff_iff,decide_eq_true_eq];first | (rw [decide_eq_true_eq];omega) | exact ⟨fun _ => by omega,fun _ => rfl⟩ | exact ⟨fun h => (by cases h),fun h => by omega⟩)
     try simp only [df] at h54
     refine .gd Z Z<|.yv (.fieldAddr Z Fx.field35_3) Z<|.gd Z Z<|.yv (.load Z Fx.agg3 (.tail _<|.head _) Z) Z<|.gd Z Z<|.yv (.fieldAddr Z Fx.field35_4) Z<|.gd Z Z<|.yv (.load Z Fx.agg3 (.tail _<|.head _) Z) Z<|.gd Z Z<|.yv (.gtr Z Z) Z<|.gd Z Z<|.yv (.pickF Z Z) Z<|.gd Z Z<|.yv (.move Z) Z<|.b2 (fun h61 => ?_) (fun h61 => ?_)
     ·try simp only [dt] at h61
      exact .gF Z Z Z Z<|.gF Z Z Z Z<|.gF Z Z Z Z<|.gd Z Z<|.yv (.pickT Z Z) Z<|.yv (.pickT Z Z) Z<|.nt<|.me _ ⟨rfl,trivial⟩ ⟨rfl,rfl,trivial⟩ (fun _ s => s) (by rw [Bool.eq_iff_iff,decide_eq_true_eq];first | (rw [decide_eq_true_eq];omega) | exact ⟨fun _ => by omega,fun _ => rfl⟩ | exact ⟨fun h => (by cases h),fun h => by omega⟩)
     try simp only [df] at h61
     exact .gd Z Z<|.yv (.fieldAddr Z Fx.field35_4) Z<|.gd Z Z<|.yv (.load Z Fx.agg3 (.tail _<|.head _) Z) Z<|.gd Z Z<|.yv (.gtr Z Z) Z<|.gd Z Z<|.yv (.pickF Z Z) Z<|.yv (.pickT Z Z) Z<|.nt<|.me _ ⟨rfl,trivial⟩ ⟨rfl,rfl,trivial⟩ (fun _ s => s) (by rw [Bool.eq_iff_iff,decide_eq_true_eq];first | (rw [decide_eq_true_eq];omega) | exact ⟨fun _ => by omega,fun _ => rfl⟩ | exact ⟨fun h => (by cases h),fun h => by omega⟩)
    try simp only [df] at h50
    exact .gF Z Z Z Z<|.gF Z Z Z Z<|.gF Z Z Z Z<|.gF Z Z Z Z<|.gU Z Z Z<|.gU Z Z Z<|.gU Z Z Z<|.gU Z Z Z<|.gU Z Z Z<|.gF Z Z Z Z<|.gF Z Z Z Z<|.gU Z Z Z<|.gU Z Z Z<|.gU Z Z Z<|.gF Z Z Z Z<|.yv (.pickF Z Z) Z<|.nt<|.me _ ⟨rfl,trivial⟩ ⟨rfl,rfl,trivial⟩ (fun _ s => s) (by rw [Bool.eq_iff_iff,decide_eq_true_eq];first | (rw [decide_eq_true_eq];omega) | exact ⟨fun _ => by omega,fun _ => rfl⟩ | exact ⟨fun h => (by cases h),fun h => by omega⟩)
   have ew := hC;refine .cd Z (fun h66 => ?_) (fun h66 => ?_)
   ·skip
    refine .sr<|.a Z Z<|.nt<|.rt<|.bR<|.tR<|?_
    refine Sx.ret1 (.inl rfl) rfl (.tmp rfl) fun W s => ⟨?_,s.ext⟩
    first
     | (rw [form_bad (ez.symm.trans h38)])
     | (rw [form_bnd (by rw [bnd_w h39,decide_eq_false (of_decide_eq_true (by rw [h66] at ew;exact ew.symm))])])
     | (rw [form_bnd (by rw [bnd_a h39 h67,decide_eq_false (of_decide_eq_true (by rw [h92] at ea;exact ea.symm))])])
     | (rw [form_bnd (by rw [bnd_n h39 h67,decide_eq_false (of_decide_eq_true (by rw [h93] at en;exact en.symm))])])
     | (rw [form_ok (ez.symm.trans h38) hb,exs7 q7,h109,Bool.true_and,all_frm])
     | (rw [form_ok (ez.symm.trans h38) hb,exs7 q7,h109];rfl)
     | (rw [form_ok (ez.symm.trans h38) hb,exsL q7 hlx])
     | (rw [form_ok (ez.symm.trans h38) hb,exs3 q3])
     | (rw [form_ok (ez.symm.trans h38) hb,exs5 q5])
     | (rw [form_ok (ez.symm.trans h38) hb,exs18 q18,h146,h153,Bool.true_and,Bool.true_and])
     | (rw [form_ok (ez.symm.trans h38) hb,exs18 q18,h146,h153];rfl)
     | (rw [form_ok (ez.symm.trans h38) hb,exs18 q18,h146];rfl)
     | (rw [form_ok (ez.symm.trans h38) hb,exsN q7 hlx q3 q5 q18])
   skip
   exact .sk<|.bN<|.tN<|.me () trivial ⟨rfl,rfl,trivial⟩ (fun _ s => s) (by first | (rw [bnd_w h39,decide_eq_true (Classical.byContradiction fun e => by rw [h66] at ew;rw [decide_eq_true e] at ew;cases ew)]) | (rw [bnd_a h39 h67,decide_eq_true (Classical.byContradiction fun e => by rw [h92] at ea;rw [decide_eq_true e] at ea;cases ea)]) | (rw [bnd_n h39 h67,decide_eq_true (Classical.byContradiction fun e => by rw [h93] at en;rw [decide_eq_true e] at en;cases en)]))
  skip
  refine .sr<|.yv (.fieldAddr Z Fx.field157_4) Z<|.yv (.load Z Fx.agg4 (.head _) Z) Z<|.a Z Z<|.nt<|.cd Z (fun h67 => ?_) (fun h67 => ?_)
  ·skip
   refine .cu (X := Bool) [(1,_),(3,_)] ⟨rfl,rfl,trivial⟩ (fun z => [(92,.bool z)]) (fun z => H) (fun z => [.box b3 (fsC (fsOf op)) 157,.box b1 [.int .u8 op.toNat,strV nm,strV fd,.int .i64 a.toInt,.int .i64 b.toInt,.slice p1 ex.length c1,.slice p2 args.length c2] 35]) (fun z => z = decide (¬ (-1000000 ≤ a.toInt ∧ a.toInt ≤ b.toInt ∧ b.toInt ≤ 1000000 ∧ b.toInt - a.toInt < 32))) ?_ fun z hC => ?_
   ·
    refine .rg<|.yv (.fieldAddr Z Fx.field35_3) Z<|.yv (.load Z Fx.agg3 (.tail _<|.head _) Z) Z<|.yv (.lss Z Z) Z<|.m Z Z<|.b2 (fun h73 => ?_) (fun h73 => ?_)
    ·try simp only [dt] at h73
     exact .gF Z Z Z Z<|.gF Z Z Z Z<|.gF Z Z Z Z<|.gF Z Z Z Z<|.gF Z Z Z Z<|.yv (.pickT Z Z) Z<|.m Z Z<|.gF Z Z Z Z<|.gF Z Z Z Z<|.gF Z Z Z Z<|.yv (.pickT Z Z) Z<|.m Z Z<|.gF Z Z Z Z<|.gF Z Z Z Z<|.gF Z Z Z Z<|.gF Z Z Z Z<|.gF Z Z Z Z<|.gF Z Z Z Z<|.yv (.pickT Z Z) Z<|.nt<|.me _ ⟨rfl,trivial⟩ ⟨rfl,rfl,trivial⟩ (fun _ s => s) (by rw [Bool.eq_iff_iff,decide_eq_true_eq];first | (rw [decide_eq_true_eq];omega) | exact ⟨fun _ => by omega,fun _ => rfl⟩ | exact ⟨fun h => (by cases h),fun h => by omega⟩)
    try simp only [df] at h73
    refine .gd Z Z<|.yv (.fieldAddr Z Fx.field35_3) Z<|.gd Z Z<|.yv (.load Z Fx.agg3 (.tail _<|.head _) Z) Z<|.gd Z Z<|.yv (.fieldAddr Z Fx.field35_4) Z<|.gd Z Z<|.yv (.load Z Fx.agg3 (.tail _<|.head _) Z) Z<|.gd Z Z<|.yv (.gtr Z Z) Z<|.yv (.pickF Z Z) Z<|.m Z Z<|.b2 (fun h80 => ?_) (fun h80 => ?_)
    ·try simp only [dt] at h80
     exact .gF Z Z Z Z<|.gF Z Z Z Z<|.gF Z Z Z Z<|.yv (.pickT Z Z) Z<|.m Z Z<|.gF Z Z Z Z<|.gF Z Z Z Z<|.gF Z Z Z Z<|.gF Z Z Z Z<|.gF Z Z Z Z<|.gF Z Z Z Z<|.yv (.pickT Z Z) Z<|.nt<|.me _ ⟨rfl,trivial⟩ ⟨rfl,rfl,trivial⟩ (fun _ s => s) (by rw [Bool.eq_iff_iff,decide_eq_true_eq];first | (rw [decide_eq_true_eq];omega) | exact ⟨fun _ => by omega,fun _ => rfl⟩ | exact ⟨fun h => (by cases h),fun h => by omega⟩)
    try simp only [df] at h80
    refine .gd Z Z<|.yv (.fieldAddr Z Fx.field35_4) Z<|.gd Z Z<|.yv (.load Z Fx.agg3 (.tail _<|.head _) Z) Z<|.gd Z Z<|.yv (.gtr Z Z) Z<|.yv (.pickF Z Z) Z<|.m Z Z<|.b2 (fun h85 => ?_) (fun h85 => ?_)
    ·try simp only [dt] at h85
     exact .gF Z Z Z Z<|.gF Z Z Z Z<|.gF Z Z Z Z<|.gF Z Z Z Z<|.gF Z Z Z Z<|.gF Z Z Z Z<|.yv (.pickT Z Z) Z<|.nt<|.me _ ⟨rfl,trivial⟩ ⟨rfl,rfl,trivial⟩ (fun _ s => s) (by rw [Bool.eq_iff_iff,decide_eq_true_eq];first | (rw [decide_eq_true_eq];omega) | exact ⟨fun _ => by omega,fun _ => rfl⟩ | exact ⟨fun h => (by cases h),fun h => by omega⟩)
    try simp only [df] at h85
    exact .gd Z Z<|.yv (.fieldAddr Z Fx.field35_4) Z<|.gd Z Z<|.yv (.load Z Fx.agg3 (.tail _<|.head _) Z) Z<|.gd Z Z<|.yv (.fieldAddr Z Fx.field35_3) Z<|.gd Z Z<|.yv (.load Z Fx.agg3 (.tail _<|.head _) Z) Z<|.gd Z Z<|.yv (.sub Z Z (w6 (by omega))) Z<|.gd Z Z<|.yv (.geq Z Z) Z<|.yv (.pickF Z Z) Z<|.nt<|.me _ ⟨rfl,trivial⟩ ⟨rfl,rfl,trivial⟩ (fun _ s => s) (by rw [Bool.eq_iff_iff,decide_eq_true_eq];first | (rw [decide_eq_true_eq];omega) | exact ⟨fun _ => by omega,fun _ => rfl⟩ | exact ⟨fun h => (by cases h),fun h => by omega⟩)
   have ea := hC;refine .cd Z (fun h92 => ?_) (fun h92 => ?_)
   ·skip
    refine .sr<|.a Z Z<|.nt<|.rt<|.bR<|.tR<|?_
    refine Sx.ret1 (.inl rfl) rfl (.tmp rfl) fun W s => ⟨?_,s.ext⟩
    first
     | (rw [form_bad (ez.symm.trans h38)])
     | (rw [form_bnd (by rw [bnd_w h39,decide_eq_false (of_decide_eq_true (by rw [h66] at ew;exact ew.symm))])])
     | (rw [form_bnd (by rw [bnd_a h39 h67,decide_eq_false (of_decide_eq_true (by rw [h92] at ea;exact ea.symm))])])
     | (rw [form_bnd (by rw [bnd_n h39 h67,decide_eq_false (of_decide_eq_true (by rw [h93] at en;exact en.symm))])])
     | (rw [form_ok (ez.symm.trans h38) hb,exs7 q7,h109,Bool.true_and,all_frm])
     | (rw [form_ok (ez.symm.trans h38) hb,exs7 q7,h109];rfl)
     | (rw [form_ok (ez.symm.trans h38) hb,exsL q7 hlx])
     | (rw [form_ok (ez.symm.trans h38) hb,exs3 q3])
     | (rw [form_ok (ez.symm.trans h38) hb,exs5 q5])
     | (rw [form_ok (ez.symm.trans h38) hb,exs18 q18,h146,h153,Bool.true_and,Bool.true_and])
     | (rw [form_ok (ez.symm.trans h38) hb,exs18 q18,h146,h153];rfl)
     | (rw [form_ok (ez.symm.trans h38) hb,exs18 q18,h146];rfl)
     | (rw [form_ok (ez.symm.trans h38) hb,exsN q7 hlx q3 q5 q18])
   skip
   exact .sk<|.bN<|.tN<|.me () trivial ⟨rfl,rfl,trivial⟩ (fun _ s => s) (by first | (rw [bnd_w h39,decide_eq_true (Classical.byContradiction fun e => by rw [h66] at ew;rw [decide_eq_true e] at ew;cases ew)]) | (rw [bnd_a h39 h67,decide_eq_true (Classical.byContradiction fun e => by rw [h92] at ea;rw [decide_eq_true e] at ea;cases ea)]) | (rw [bnd_n h39 h67,decide_eq_true (Classical.byContradiction fun e => by rw [h93] at en;rw [decide_eq_true e] at en;cases en)]))
  skip
  refine .cu (X := Bool) [(1,_),(3,_)] ⟨rfl,rfl,trivial⟩ (fun z => [(93,.bool z)]) (fun z => H) (fun z => [.box b3 (fsC (fsOf op)) 157,.box b1 [.int .u8 op.toNat,strV nm,strV fd,.int .i64 a.toInt,.int .i64 b.toInt,.slice p1 ex.length c1,.slice p2 args.length c2] 35]) (fun z => z = decide (¬ (a.toInt = 0 ∧ b.toInt = 0))) ?_ fun z hC => ?_
  ·
   refine .rg<|.yv (.fieldAddr Z Fx.field35_3) Z<|.yv (.load Z Fx.agg3 (.tail _<|.head _) Z) Z<|.yv (.neq Z Z) Z<|.m Z Z<|.b2 (fun h97 => ?_) (fun h97 => ?_)
   ·try simp only [dt] at h97
    exact .gF Z Z Z Z<|.gF Z Z Z Z<|.gF Z Z Z Z<|.yv (.pickT Z Z) Z<|.a Z Z<|.nt<|.me _ ⟨rfl,trivial⟩ ⟨rfl,rfl,trivial⟩ (fun _ s => s) (by rw [Bool.eq_iff_iff,decide_eq_true_eq];first | (rw [decide_eq_true_eq];omega) | exact ⟨fun _ => by omega,fun _ => rfl⟩ | exact ⟨fun h => (by cases h),fun h => by omega⟩)
   try simp only [df] at h97
   exact .gd Z Z<|.yv (.fieldAddr Z Fx.field35_4) Z<|.gd Z Z<|.yv (.load Z Fx.agg3 (.tail _<|.head _) Z) Z<|.gd Z Z<|.yv (.neq Z Z) Z<|.yv (.pickF Z Z) Z<|.a Z Z<|.nt<|.me _ ⟨rfl,trivial⟩ ⟨rfl,rfl,trivial⟩ (fun _ s => s) (by rw [Bool.eq_iff_iff,decide_eq_true_eq];first | (rw [decide_eq_true_eq];omega) | exact ⟨fun _ => by omega,fun _ => rfl⟩ | exact ⟨fun h => (by cases h),fun h => by omega⟩)
  have en := hC;refine .cd Z (fun h93 => ?_) (fun h93 => ?_)
  ·skip
   refine .sr<|.a Z Z<|.nt<|.rt<|.bR<|.tR<|?_
   refine Sx.ret1 (.inl rfl) rfl (.tmp rfl) fun W s => ⟨?_,s.ext⟩
   first
    | (rw [form_bad (ez.symm.trans h38)])
    | (rw [form_bnd (by rw [bnd_w h39,decide_eq_false (of_decide_eq_true (by rw [h66] at ew;exact ew.symm))])])
    | (rw [form_bnd (by rw [bnd_a h39 h67,decide_eq_false (of_decide_eq_true (by rw [h92] at ea;exact ea.symm))])])
    | (rw [form_bnd (by rw [bnd_n h39 h67,decide_eq_false (of_decide_eq_true (by rw [h93] at en;exact en.symm))])])
    | (rw [form_ok (ez.symm.trans h38) hb,exs7 q7,h109,Bool.true_and,all_frm])
    | (rw [form_ok (ez.symm.trans h38) hb,exs7 q7,h109];rfl)
    | (rw [form_ok (ez.symm.trans h38) hb,exsL q7 hlx])
    | (rw [form_ok (ez.symm.trans h38) hb,exs3 q3])
    | (rw [form_ok (ez.symm.trans h38) hb,exs5 q5])
    | (rw [form_ok (ez.symm.trans h38) hb,exs18 q18,h146,h153,Bool.true_and,Bool.true_and])
    | (rw [form_ok (ez.symm.trans h38) hb,exs18 q18,h146,h153];rfl)
    | (rw [form_ok (ez.symm.trans h38) hb,exs18 q18,h146];rfl)
    | (rw [form_ok (ez.symm.trans h38) hb,exsN q7 hlx q3 q5 q18])
  skip
  exact .sk<|.bN<|.tN<|.me () trivial ⟨rfl,rfl,trivial⟩ (fun _ s => s) (by first | (rw [bnd_w h39,decide_eq_true (Classical.byContradiction fun e => by rw [h66] at ew;rw [decide_eq_true e] at ew;cases ew)]) | (rw [bnd_a h39 h67,decide_eq_true (Classical.byContradiction fun e => by rw [h92] at ea;rw [decide_eq_true e] at ea;cases ea)]) | (rw [bnd_n h39 h67,decide_eq_true (Classical.byContradiction fun e => by rw [h93] at en;rw [decide_eq_true e] at en;cases en)]))
 have hb := hC;refine .sq<|.sr<|.yv (.fieldAddr Z Fx.field35_0) Z<|.yv (.load Z Fx.agg31 (.tail _<|.head _) Z) Z<|.yv (.eql Z Z) Z<|.nt<|.cd Z (fun h104 => ?_) (fun h104 => ?_)
 ·have q7 : op = 7 := UInt8.toNat_inj.1 (by have := of_decide_eq_true h104;show op.toNat = 7;omega);refine .sr<|.yv (.fieldAddr Z Fx.field35_5) Z<|.yv (.load Z Fx.agg32 (.tail _<|.head _) Z) Z<|.yv (.lenSl Fx.sl32 Z) Z<|.yv (.cast (.leq Z Z) (congrArg Value.bool le4)) Z<|.m Z Z<|.b2 (fun h109 => ?_) (fun h109 => ?_)
  ·skip
   refine .gd Z Z<|.yv (.fieldAddr Z Fx.field35_5) Z<|.gd Z Z<|.yv (.load Z Fx.agg32 (.tail _<|.head _) Z) Z<|.gd Z Z<|.yv (.call Fx.call71 Z (fun W s => contains_any H 77 [] frm1B ex hs1 Fx.call77 (fun a _ => formed1_any H a) W s.agr)) Z<|.gd Z Z<|.yv (.not Z) Z<|.yv (.pickT Z Z) Z<|.a Z Z<|.nt<|.rt<|.tR<|?_
   refine Sx.ret1 (.inl rfl) rfl (.tmp rfl) fun W s => ⟨?_,s.ext⟩
   first
    | (rw [form_bad (ez.symm.trans h38)])
    | (rw [form_bnd (by rw [bnd_w h39,decide_eq_false (of_decide_eq_true (by rw [h66] at ew;exact ew.symm))])])
    | (rw [form_bnd (by rw [bnd_a h39 h67,decide_eq_false (of_decide_eq_true (by rw [h92] at ea;exact ea.symm))])])
    | (rw [form_bnd (by rw [bnd_n h39 h67,decide_eq_false (of_decide_eq_true (by rw [h93] at en;exact en.symm))])])
    | (rw [form_ok (ez.symm.trans h38) hb,exs7 q7,h109,Bool.true_and,all_frm])
    | (rw [form_ok (ez.symm.trans h38) hb,exs7 q7,h109];rfl)
    | (rw [form_ok (ez.symm.trans h38) hb,exsL q7 hlx])
    | (rw [form_ok (ez.symm.trans h38) hb,exs3 q3])
    | (rw [form_ok (ez.symm.trans h38) hb,exs5 q5])
    | (rw [form_ok (ez.symm.trans h38) hb,exs18 q18,h146,h153,Bool.true_and,Bool.true_and])
    | (rw [form_ok (ez.symm.trans h38) hb,exs18 q18,h146,h153];rfl)
    | (rw [form_ok (ez.symm.trans h38) hb,exs18 q18,h146];rfl)
    | (rw [form_ok (ez.symm.trans h38) hb,exsN q7 hlx q3 q5 q18])
  skip
  refine .gF Z Z Z Z<|.gF Z Z Z Z<|.gF Z Z Z Z<|.gF Z Z Z Z<|.yv (.pickF Z Z) Z<|.a Z Z<|.nt<|.rt<|.tR<|?_
  refine Sx.ret1 (.inl rfl) rfl (.tmp rfl) fun W s => ⟨?_,s.ext⟩
  first
   | (rw [form_bad (ez.symm.trans h38)])
   | (rw [form_bnd (by rw [bnd_w h39,decide_eq_false (of_decide_eq_true (by rw [h66] at ew;exact ew.symm))])])
   | (rw [form_bnd (by rw [bnd_a h39 h67,decide_eq_false (of_decide_eq_true (by rw [h92] at ea;exact ea.symm))])])
   | (rw [form_bnd (by rw [bnd_n h39 h67,decide_eq_false (of_decide_eq_true (by rw [h93] at en;exact en.symm))])])
   | (rw [form_ok (ez.symm.trans h38) hb,exs7 q7,h109,Bool.true_and,all_frm])
   | (rw [form_ok (ez.symm.trans h38) hb,exs7 q7,h109];rfl)
   | (rw [form_ok (ez.symm.trans h38) hb,exsL q7 hlx])
   | (rw [form_ok (ez.symm.trans h38) hb,exs3 q3])
   | (rw [form_ok (ez.symm.trans h38) hb,exs5 q5])
   | (rw [form_ok (ez.symm.trans h38) hb,exs18 q18,h146,h153,Bool.true_and,Bool.true_and])
   | (rw [form_ok (ez.symm.trans h38) hb,exs18 q18,h146,h153];rfl)
   | (rw [form_ok (ez.symm.trans h38) hb,exs18 q18,h146];rfl)
   | (rw [form_ok (ez.symm.trans h38) hb,exsN q7 hlx q3 q5 q18])
 have q7 : ¬ op = 7 := fun e => of_decide_eq_false h104 (by rw [e];rfl);refine .sk<|.tN<|.sq<|.sr<|.yv (.fieldAddr Z Fx.field35_5) Z<|.yv (.load Z Fx.agg32 (.tail _<|.head _) Z) Z<|.yv (.lenSl Fx.sl32 Z) Z<|.yv (.fieldAddr Z Fx.field157_5) Z<|.yv (.load Z Fx.agg5 (.head _) Z) Z<|.yv (.conv Z Fx.int5 Fx.int3 (c := (((fsOf op).ex : Nat) : Int)) (w64 (by omega) (by have := fs_small op;omega))) Z<|.yv (.cast (.neq Z Z) (congrArg Value.bool nn0)) Z<|.nt<|.cd Z (fun h121 => ?_) (fun h121 => ?_)
 ·have hlx : ¬ ex.length = (fsOf op).ex := fun e => by rw [decide_eq_true e] at h121;cases h121
  refine .sr<|.a Z Z<|.nt<|.rt<|.tR<|?_
  refine Sx.ret1 (.inl rfl) rfl (.tmp rfl) fun W s => ⟨?_,s.ext⟩
  first
   | (rw [form_bad (ez.symm.trans h38)])
   | (rw [form_bnd (by rw [bnd_w h39,decide_eq_false (of_decide_eq_true (by rw [h66] at ew;exact ew.symm))])])
   | (rw [form_bnd (by rw [bnd_a h39 h67,decide_eq_false (of_decide_eq_true (by rw [h92] at ea;exact ea.symm))])])
   | (rw [form_bnd (by rw [bnd_n h39 h67,decide_eq_false (of_decide_eq_true (by rw [h93] at en;exact en.symm))])])
   | (rw [form_ok (ez.symm.trans h38) hb,exs7 q7,h109,Bool.true_and,all_frm])
   | (rw [form_ok (ez.symm.trans h38) hb,exs7 q7,h109];rfl)
   | (rw [form_ok (ez.symm.trans h38) hb,exsL q7 hlx])
   | (rw [form_ok (ez.symm.trans h38) hb,exs3 q3])
   | (rw [form_ok (ez.symm.trans h38) hb,exs5 q5])
   | (rw [form_ok (ez.symm.trans h38) hb,exs18 q18,h146,h153,Bool.true_and,Bool.true_and])
   | (rw [form_ok (ez.symm.trans h38) hb,exs18 q18,h146,h153];rfl)
   | (rw [form_ok (ez.symm.trans h38) hb,exs18 q18,h146];rfl)
   | (rw [form_ok (ez.symm.trans h38) hb,exsN q7 hlx q3 q5 q18])
 have hlx : ex.length = (fsOf op).ex := Classical.byContradiction fun e => by rw [decide_eq_false e] at h121;cases h121
 refine .sk<|.tN<|.sq<|.sr<|.yv (.fieldAddr Z Fx.field35_0) Z<|.yv (.load Z Fx.agg31 (.tail _<|.head _) Z) Z<|.nt<|.bk<|.sr<|.yv (.eql Z Z) Z<|.a Z Z<|.nt<|.cd Z (fun h124 => ?_) (fun h124 => ?_)
 ·have q3 : op = 3 := UInt8.toNat_inj.1 (by have := of_decide_eq_true h124;show op.toNat = 3;omega);obtain ⟨e0,rfl⟩ : ∃ e0,ex = [e0] := List.length_eq_one_iff.1 (by rw [hlx,q3];rfl);obtain ⟨bE,oE,cE,hpE,rE,lE,mE⟩ := hs1.elem (i := 0) (d := dEx .u8 e0) rfl;cases hpE;refine .sr<|.yv (.fieldAddr Z Fx.field35_5) Z<|.yv (.load Z Fx.agg32 (.tail _<|.head _) Z) Z<|.yv (.indexSl Fx.sl32 Z Z (i := 0) Z (Nat.succ_pos _) (q := oE + 0 * 4) Z) Z<|.yv (.loadMW Z Fx.agg76 mE lE) Z<|.yv (.call Fx.call80 Z (fun W s => isCmp_any H e0 cE W rE s.agr)) Z<|.a Z Z<|.nt<|.rt<|.bR<|.tR<|?_
  refine Sx.ret1 (.inl rfl) rfl (.tmp rfl) fun W s => ⟨?_,s.ext⟩
  first
   | (rw [form_bad (ez.symm.trans h38)])
   | (rw [form_bnd (by rw [bnd_w h39,decide_eq_false (of_decide_eq_true (by rw [h66] at ew;exact ew.symm))])])
   | (rw [form_bnd (by rw [bnd_a h39 h67,decide_eq_false (of_decide_eq_true (by rw [h92] at ea;exact ea.symm))])])
   | (rw [form_bnd (by rw [bnd_n h39 h67,decide_eq_false (of_decide_eq_true (by rw [h93] at en;exact en.symm))])])
   | (rw [form_ok (ez.symm.trans h38) hb,exs7 q7,h109,Bool.true_and,all_frm])
   | (rw [form_ok (ez.symm.trans h38) hb,exs7 q7,h109];rfl)
   | (rw [form_ok (ez.symm.trans h38) hb,exsL q7 hlx])
   | (rw [form_ok (ez.symm.trans h38) hb,exs3 q3])
   | (rw [form_ok (ez.symm.trans h38) hb,exs5 q5])
   | (rw [form_ok (ez.symm.trans h38) hb,exs18 q18,h146,h153,Bool.true_and,Bool.true_and])
   | (rw [form_ok (ez.symm.trans h38) hb,exs18 q18,h146,h153];rfl)
   | (rw [form_ok (ez.symm.trans h38) hb,exs18 q18,h146];rfl)
   | (rw [form_ok (ez.symm.trans h38) hb,exsN q7 hlx q3 q5 q18])
 have q3 : ¬ op = 3 := fun e => of_decide_eq_false h124 (by rw [e];rfl);refine .sr<|.yv (.eql Z Z) Z<|.a Z Z<|.nt<|.cd Z (fun h131 => ?_) (fun h131 => ?_)
 ·have q5 : op = 5 := UInt8.toNat_inj.1 (by have := of_decide_eq_true h131;show op.toNat = 5;omega);obtain ⟨e0,rfl⟩ : ∃ e0,ex = [e0] := List.length_eq_one_iff.1 (by rw [hlx,q5];rfl);obtain ⟨bE,oE,cE,hpE,rE,lE,mE⟩ := hs1.elem (i := 0) (d := dEx .u8 e0) rfl;cases hpE;refine .sr<|.yv (.fieldAddr Z Fx.field35_5) Z<|.yv (.load Z Fx.agg32 (.tail _<|.head _) Z) Z<|.yv (.indexSl Fx.sl32 Z Z (i := 0) Z (Nat.succ_pos _) (q := oE + 0 * 4) Z) Z<|.yv (.loadMW Z Fx.agg76 mE lE) Z<|.yv (.call Fx.call79 Z (fun W s => isTerm_any H e0 cE W rE s.agr)) Z<|.a Z Z<|.nt<|.rt<|.bR<|.tR<|?_
  refine Sx.ret1 (.inl rfl) rfl (.tmp rfl) fun W s => ⟨?_,s.ext⟩
  first
   | (rw [form_bad (ez.symm.trans h38)])
   | (rw [form_bnd (by rw [bnd_w h39,decide_eq_false (of_decide_eq_true (by rw [h66] at ew;exact ew.symm))])])
   | (rw [form_bnd (by rw [bnd_a h39 h67,decide_eq_false (of_decide_eq_true (by rw [h92] at ea;exact ea.symm))])])
   | (rw [form_bnd (by rw [bnd_n h39 h67,decide_eq_false (of_decide_eq_true (by rw [h93] at en;exact en.symm))])])
   | (rw [form_ok (ez.symm.trans h38) hb,exs7 q7,h109,Bool.true_and,all_frm])
   | (rw [form_ok (ez.symm.trans h38) hb,exs7 q7,h109];rfl)
   | (rw [form_ok (ez.symm.trans h38) hb,exsL q7 hlx])
   | (rw [form_ok (ez.symm.trans h38) hb,exs3 q3])
   | (rw [form_ok (ez.symm.trans h38) hb,exs5 q5])
   | (rw [form_ok (ez.symm.trans h38) hb,exs18 q18,h146,h153,Bool.true_and,Bool.true_and])
   | (rw [form_ok (ez.symm.trans h38) hb,exs18 q18,h146,h153];rfl)
   | (rw [form_ok (ez.symm.trans h38) hb,exs18 q18,h146];rfl)
   | (rw [form_ok (ez.symm.trans h38) hb,exsN q7 hlx q3 q5 q18])
 have q5 : ¬ op = 5 := fun e => of_decide_eq_false h131 (by rw [e];rfl);refine .sr<|.yv (.eql Z Z) Z<|.a Z Z<|.nt<|.cd Z (fun h138 => ?_) (fun h138 => ?_)
 ·have q18 : op = 18 := UInt8.toNat_inj.1 (by have := of_decide_eq_true h138;show op.toNat = 18;omega);obtain ⟨e0,rfl⟩ : ∃ e0,ex = [e0] := List.length_eq_one_iff.1 (by rw [hlx,q18];rfl);obtain ⟨bE,oE,cE,hpE,rE,lE,mE⟩ := hs1.elem (i := 0) (d := dEx .u8 e0) rfl;cases hpE;obtain ⟨op0,nm0,m0,args0⟩ := e0;obtain ⟨p9,c9,rfl,hs9,hn9⟩ := ex_open rE;refine .sr<|.yv (.fieldAddr Z Fx.field35_5) Z<|.yv (.load Z Fx.agg32 (.tail _<|.head _) Z) Z<|.yv (.indexSl Fx.sl32 Z Z (i := 0) Z (Nat.succ_pos _) (q := oE + 0 * 4) Z) Z<|.yv (.fieldAddr Z Fx.field76_0) Z<|.yv (.loadM Z Fx.agg74 mE (k := 0) Z Z) Z<|.yv (.eql Z Z) Z<|.m Z Z<|.b2 (fun h146 => ?_) (fun h146 => ?_)
  ·skip
   refine .gd Z Z<|.yv (.fieldAddr Z Fx.field35_5) Z<|.gd Z Z<|.yv (.load Z Fx.agg32 (.tail _<|.head _) Z) Z<|.gd Z Z<|.yv (.indexSl Fx.sl32 Z Z (i := 0) Z (Nat.succ_pos _) (q := oE + 0 * 4) Z) Z<|.gd Z Z<|.yv (.loadMW Z Fx.agg76 mE lE) Z<|.gd Z Z<|.yv (.call Fx.call79 Z (fun W s => isTerm_any H _ _ W rE s.agr)) Z<|.yv (.pickT Z Z) Z<|.m Z Z<|.b2 (fun h153 => ?_) (fun h153 => ?_)
   ·skip
    refine .gd Z Z<|.yv (.fieldAddr Z Fx.field35_5) Z<|.gd Z Z<|.yv (.load Z Fx.agg32 (.tail _<|.head _) Z) Z<|.gd Z Z<|.yv (.indexSl Fx.sl32 Z Z (i := 0) Z (Nat.succ_pos _) (q := oE + 0 * 4) Z) Z<|.gd Z Z<|.yv (.fieldAddr Z Fx.field76_2) Z<|.gd Z Z<|.yv (.loadM Z Fx.agg2 mE (k := 2) Z Z) Z<|.gd Z Z<|.yv (.leq Z Z) Z<|.yv (.pickT Z Z) Z<|.a Z Z<|.nt<|.rt<|.bR<|.tR<|?_
    refine Sx.ret1 (.inl rfl) rfl (.tmp rfl) fun W s => ⟨?_,s.ext⟩
    first
     | (rw [form_bad (ez.symm.trans h38)])
     | (rw [form_bnd (by rw [bnd_w h39,decide_eq_false (of_decide_eq_true (by rw [h66] at ew;exact ew.symm))])])
     | (rw [form_bnd (by rw [bnd_a h39 h67,decide_eq_false (of_decide_eq_true (by rw [h92] at ea;exact ea.symm))])])
     | (rw [form_bnd (by rw [bnd_n h39 h67,decide_eq_false (of_decide_eq_true (by rw [h93] at en;exact en.symm))])])
     | (rw [form_ok (ez.symm.trans h38) hb,exs7 q7,h109,Bool.true_and,all_frm])
     | (rw [form_ok (ez.symm.trans h38) hb,exs7 q7,h109];rfl)
     | (rw [form_ok (ez.symm.trans h38) hb,exsL q7 hlx])
     | (rw [form_ok (ez.symm.trans h38) hb,exs3 q3])
     | (rw [form_ok (ez.symm.trans h38) hb,exs5 q5])
     | (rw [form_ok (ez.symm.trans h38) hb,exs18 q18,h146,h153,Bool.true_and,Bool.true_and])
     | (rw [form_ok (ez.symm.trans h38) hb,exs18 q18,h146,h153];rfl)
     | (rw [form_ok (ez.symm.trans h38) hb,exs18 q18,h146];rfl)
     | (rw [form_ok (ez.symm.trans h38) hb,exsN q7 hlx q3 q5 q18])
   skip
   refine .gF Z Z Z Z<|.gF Z Z Z Z<|.gF Z Z Z Z<|.gF Z Z Z Z<|.gF Z Z Z Z<|.gF Z Z Z Z<|.yv (.pickF Z Z) Z<|.a Z Z<|.nt<|.rt<|.bR<|.tR<|?_
   refine Sx.ret1 (.inl rfl) rfl (.tmp rfl) fun W s => ⟨?_,s.ext⟩
   first
    | (rw [form_bad (ez.symm.trans h38)])
    | (rw [form_bnd (by rw [bnd_w h39,decide_eq_false (of_decide_eq_true (by rw [h66] at ew;exact ew.symm))])])
    | (rw [form_bnd (by rw [bnd_a h39 h67,decide_eq_false (of_decide_eq_true (by rw [h92] at ea;exact ea.symm))])])
    | (rw [form_bnd (by rw [bnd_n h39 h67,decide_eq_false (of_decide_eq_true (by rw [h93] at en;exact en.symm))])])
    | (rw [form_ok (ez.symm.trans h38) hb,exs7 q7,h109,Bool.true_and,all_frm])
    | (rw [form_ok (ez.symm.trans h38) hb,exs7 q7,h109];rfl)
    | (rw [form_ok (ez.symm.trans h38) hb,exsL q7 hlx])
    | (rw [form_ok (ez.symm.trans h38) hb,exs3 q3])
    | (rw [form_ok (ez.symm.trans h38) hb,exs5 q5])
    | (rw [form_ok (ez.symm.trans h38) hb,exs18 q18,h146,h153,Bool.true_and,Bool.true_and])
    | (rw [form_ok (ez.symm.trans h38) hb,exs18 q18,h146,h153];rfl)
    | (rw [form_ok (ez.symm.trans h38) hb,exs18 q18,h146];rfl)
    | (rw [form_ok (ez.symm.trans h38) hb,exsN q7 hlx q3 q5 q18])
  skip
  refine .gF Z Z Z Z<|.gF Z Z Z Z<|.gF Z Z Z Z<|.gF Z Z Z Z<|.gF Z Z Z Z<|.yv (.pickF Z Z) Z<|.m Z Z<|.gF Z Z Z Z<|.gF Z Z Z Z<|.gF Z Z Z Z<|.gF Z Z Z Z<|.gF Z Z Z Z<|.gF Z Z Z Z<|.yv (.pickF Z Z) Z<|.a Z Z<|.nt<|.rt<|.bR<|.tR<|?_
  refine Sx.ret1 (.inl rfl) rfl (.tmp rfl) fun W s => ⟨?_,s.ext⟩
  first
   | (rw [form_bad (ez.symm.trans h38)])
   | (rw [form_bnd (by rw [bnd_w h39,decide_eq_false (of_decide_eq_true (by rw [h66] at ew;exact ew.symm))])])
   | (rw [form_bnd (by rw [bnd_a h39 h67,decide_eq_false (of_decide_eq_true (by rw [h92] at ea;exact ea.symm))])])
   | (rw [form_bnd (by rw [bnd_n h39 h67,decide_eq_false (of_decide_eq_true (by rw [h93] at en;exact en.symm))])])
   | (rw [form_ok (ez.symm.trans h38) hb,exs7 q7,h109,Bool.true_and,all_frm])
   | (rw [form_ok (ez.symm.trans h38) hb,exs7 q7,h109];rfl)
   | (rw [form_ok (ez.symm.trans h38) hb,exsL q7 hlx])
   | (rw [form_ok (ez.symm.trans h38) hb,exs3 q3])
   | (rw [form_ok (ez.symm.trans h38) hb,exs5 q5])
   | (rw [form_ok (ez.symm.trans h38) hb,exs18 q18,h146,h153,Bool.true_and,Bool.true_and])
   | (rw [form_ok (ez.symm.trans h38) hb,exs18 q18,h146,h153];rfl)
   | (rw [form_ok (ez.symm.trans h38) hb,exs18 q18,h146];rfl)
   | (rw [form_ok (ez.symm.trans h38) hb,exsN q7 hlx q3 q5 q18])
 have q18 : ¬ op = 18 := fun e => of_decide_eq_false h138 (by rw [e];rfl);refine .sk<|.bN<|.tN<|.sr<|.a Z Z<|.nt<|.rt<|?_
 refine Sx.ret1 (.inl rfl) rfl (.tmp rfl) fun W s => ⟨?_,s.ext⟩
 first
  | (rw [form_bad (ez.symm.trans h38)])
  | (rw [form_bnd (by rw [bnd_w h39,decide_eq_false (of_decide_eq_true (by rw [h66] at ew;exact ew.symm))])])
  | (rw [form_bnd (by rw [bnd_a h39 h67,decide_eq_false (of_decide_eq_true (by rw [h92] at ea;exact ea.symm))])])
  | (rw [form_bnd (by rw [bnd_n h39 h67,decide_eq_false (of_decide_eq_true (by rw [h93] at en;exact en.symm))])])
  | (rw [form_ok (ez.symm.trans h38) hb,exs7 q7,h109,Bool.true_and,all_frm])
  | (rw [form_ok (ez.symm.trans h38) hb,exs7 q7,h109];rfl)
  | (rw [form_ok (ez.symm.trans h38) hb,exsL q7 hlx])
  | (rw [form_ok (ez.symm.trans h38) hb,exs3 q3])
  | (rw [form_ok (ez.symm.trans h38) hb,exs5 q5])
  | (rw [form_ok (ez.symm.trans h38) hb,exs18 q18,h146,h153,Bool.true_and,Bool.true_and])
  | (rw [form_ok (ez.symm.trans h38) hb,exs18 q18,h146,h153];rfl)
  | (rw [form_ok (ez.symm.trans h38) hb,exs18 q18,h146];rfl)
  | (rw [form_ok (ez.symm.trans h38) hb,exsN q7 hlx q3 q5 q18])
set_option maxHeartbeats 2000000 in
set_option maxRecDepth 100000 in
theorem count_any (H : Hp) (f : Fm) (most N : Nat) (hm : most ≤ 9223372036854775807) (hb : blF N f = true) (hc : f.count ≤ 9000000000000000000 ∨ most ≤ 1000000000000) (hN : N * (most + 1) ≤ 100000000000 ∨ N * f.count ≤ 100000000000) (hN1 : N ≤ 100000000000) (cs : List Value) (w : World) (h : Rep H (dFm .u8 f) cs) (hA : Agr H w) : Calls Tryz.prog 34 #[.agg cs.toArray,.int .i64 (most : Nat)] w fun r w' => r = .returned (.int .i64 (min f.count (most + 1) : Nat)) ∧ Ext w w' := by
 obtain ⟨op,nm,fd,a,b,ex,args⟩ := f;obtain ⟨p1,c1,p2,c2,rfl,hs1,hs2,hnm,hfd⟩ := fm_open h;refine Sx.enter (H := H) Tryz.func34 rfl Tryz.ntmps34 rfl hA ?_;refine .sr<|.bx Z Z Z fun b2 => .a Z Z<|.ns<|.a Z Z<|.ns<|.yv (.loadW Z Fx.agg35 (.head _) Z) Z<|.blR (z := 7) Z (Fx.bsl33_1 _ _ _ _ _ _ _) Z Z (by simp [maxLen]) fun b13 => .a Z Z<|.nt<|.sq<|?_
 refine Sx.row0 76 4 ?_;refine .rg<|.a Z Z<|.nt<|.sq<|.bk<|.pm [1,0,2] [_,_,_] Z Z<|.lp (X := Nat × List Fm × List Ex × Value × Value × List Value × List Value) [(1,_)] ⟨rfl,trivial⟩ [] (fun z => [(5,.int .i64 (z.1 : Nat)),(6,z.2.2.2.1),(7,z.2.2.2.2.1)]) (fun z => H) (fun z => [.row 35 7 z.2.2.2.1 z.2.1.length z.2.2.2.2.2.1,.row 76 4 z.2.2.2.2.1 z.2.2.1.length z.2.2.2.2.2.2,.box b2 [.int .u8 op.toNat,strV nm,strV fd,.int .i64 a.toInt,.int .i64 b.toInt,.slice p1 ex.length c1,.slice p2 args.length c2] 35]) (fun z => RepZ H 7 (z.2.1.map (dFm .u8)) z.2.2.2.2.2.1 ∧ RepZ H 4 (z.2.2.1.map (dEx .u8)) z.2.2.2.2.2.2 ∧ z.1 + (Fm.counts z.2.1 + Ex.counts z.2.2.1) = Fm.count (.mk op nm fd a b ex args) ∧ z.1 ≤ most + 1 ∧ (∀ g ∈ z.2.1,blF N g = true) ∧ (∀ e ∈ z.2.2.1,blE N e = true) ∧ (z.2.1.length + z.2.2.1.length ≤ 1 + 2 * (N * z.1))) (fun z => Fm.count (.mk op nm fd a b ex args) - z.1) (0,[Fm.mk op nm fd a b ex args],[],.slice (some ⟨b13,0,none⟩) 1 1,.slice none 0 0,[.int .u8 op.toNat,strV nm,strV fd,.int .i64 a.toInt,.int .i64 b.toInt,.slice p1 ex.length c1,.slice p2 args.length c2],[]) (fun _ s => s) ⟨rfl,rfl,rfl,trivial⟩ ⟨.single h Z,.nil,by rw [Fm.counts,Fm.counts,Ex.counts];omega,Nat.zero_le _,fun g hg => by rw [List.mem_singleton.1 hg];exact hb,fun e he => (by cases he),by simp⟩ fun z hC => ?_
 obtain ⟨n,fs,ts,rf,rt,xf,xt⟩ := z;obtain ⟨zf,zt,hcnt,hn,hbf,hbt,hlen⟩ := hC;dsimp only at zf zt hcnt hn hbf hbt hlen ⊢;have hNn : N * n ≤ N * (most + 1) := Nat.mul_le_mul_left N hn;have hNc : N * n ≤ N * Fm.count (.mk op nm fd a b ex args) := Nat.mul_le_mul_left N (by omega)
 have hNm : N * n ≤ 100000000000 := by
  rcases hN with h | h <;> omega
 refine At.ra (size := 7) (r := rf) (e := 35) (.head _) fun pf cf e => ?_;subst e;refine At.ra (size := 4) (r := rt) (e := 76) (.tail _<|.head _) fun pt ct e => ?_;subst e;refine .sq<|.sr<|.m Z Z<|.m Z Z<|.yv (.leq Z Z) Z<|.m Z Z<|.b2 (fun h17 => ?_) (fun h17 => ?_)
 ·have hle : n ≤ most := by have := of_decide_eq_true h17;omega
  refine .gd Z Z<|.yv (.move Z) Z<|.gd Z Z<|.yv (.lenSl Fx.sl33 Z) Z<|.gd Z Z<|.yv (.move Z) Z<|.gd Z Z<|.yv (.lenSl Fx.sl32 Z) Z<|.gd Z Z<|.yv (.add Z Z (c := ((fs.length + ts.length : Nat) : Int)) ((w6 (by omega)).trans (by omega))) Z<|.gd Z Z<|.yv (.gtr Z Z) Z<|.yv (.pickT Z Z) Z<|.nt<|.cd Z (fun h24 => ?_) (fun h24 => ?_)
  ·have hpos : 0 < fs.length + ts.length := by have := of_decide_eq_true h24;omega
   replace h24 := hpos;refine .sk<|.tN<|.bk<|.sr<|.m Z Z<|.yv (.add Z Z (c := ((n + 1 : Nat) : Int)) ((w6 (by omega)).trans (by omega))) Z<|.a Z Z<|.nt<|.sq<|.sr<|.m Z Z<|.yv (.lenSl Fx.sl32 Z) Z<|.yv (.sub Z Z (c := (ts.length : Int) - 1) (w6 (by omega))) Z<|.a Z Z<|.ns<|.m Z Z<|.yv (.geq Z Z) Z<|.nt<|.cd Z (fun h31 => ?_) (fun h31 => ?_)
   ·try simp only [dt] at h31
    obtain ⟨ts0,e0,rfl⟩ : ∃ ts0 e0,ts = ts0 ++ [e0] := by
     rcases List.eq_nil_or_concat ts with h | ⟨t,x,h⟩
     ·subst h;exact (by simp at h31)
     ·exact ⟨t,x,by rw [h,List.concat_eq_append]⟩
    have hl0 : (ts0 ++ [e0]).length = ts0.length + 1 := by rw [List.length_append];rfl
    refine Sx.rowCase (size := 4) (r := .slice pt (ts0 ++ [e0]).length ct) (e := 76) (.tail _<|.head _) (by rw [hl0];exact Nat.succ_pos _) fun g c e hgc => ?_;injection e with e3 _ e4
    subst e3 e4;obtain ⟨cs0,r0,hc0,hx0⟩ := RepZ.at zt (i := ts0.length) (d := dEx .u8 e0) (by rw [List.map_append,List.getElem?_append_right (by rw [List.length_map];exact Nat.le_refl _),List.length_map,Nat.sub_self];rfl);obtain ⟨op0,nm0,m0,args0⟩ := e0;obtain ⟨p0,c0,rfl,hs0,_⟩ := ex_open r0;have hb0 := (blE_mk.1 (hbt _ (List.mem_append.2 (.inr (List.mem_singleton.2 rfl)))))
    have hz0 : RepZ H 4 (ts0.map (dEx .u8)) (xt.take (ts0.length * 4)) := by
     have h := RepZ.take ts0.length zt;rw [List.map_append,List.take_left' (by rw [List.length_map])] at h;exact h
    rw [ex_counts_app,Ex.counts,Ex.counts,ex_count] at hcnt;rw [hl0] at hlen;have hNs : N * (n + 1) = N * n + N := Nat.mul_succ N n;refine .sr<|.m Z Z<|.m Z Z<|.yv (.indexSl Fx.sl32 Z Z (i := ts0.length) (by rw [hl0];omega) (by rw [hl0];omega) (q := ts0.length * 4) (by omega)) Z<|.yv (.loadR (vs := [.int .u8 op0.toNat,strV nm0,.int .i64 m0.toInt,.slice p0 args0.length c0]) Z Fx.agg76 (.tail _<|.head _) Z hx0) Z<|.al Fx.zero76 Z fun b9 => .sW .head Z Z Fx.size76 (by simp [Value.oneCell',strV]) Z<|?_
    refine Sx.At.rcut (size := 4) (m := ts0.length) (ys := xt.take (ts0.length * 4)) (.tail<|.tail<|.head) (by rw [hl0];exact Nat.le_succ _) rfl ?_;exact .nt<|.sq<|.fl (trip := [(_,_,_),(_,_,_),(_,_,_),(_,_,_),(_,_,_),(_,_,_)]) 6 [(0,0),(1,0),(2,0),(3,0),(4,0),(5,3)] (by kernel_rfl) (by kernel_rfl) Z<|.m Z Z<|.m Z Z<|.yv (.cutHi Fx.sl32 Z Z (h := ts0.length) (by rw [hl0];omega) (by rw [hl0] at hgc;omega) (fun q e => by cases e;rfl)) Z<|.yv (.fieldAddr Z Fx.field76_3) Z<|.yv (.load Z Fx.agg32 (.head _) Z) Z<|.apD Fx.row32 Z (fun _ _ => (.tail<|.tail<|.head)) Z hs0 (by simp only [maxLen];omega) (by omega) Z (fun _ _ => (.done (by kernel_rfl)<|.done (by kernel_rfl)<|.done (by kernel_rfl)<|.done (by kernel_rfl)<|.done (by kernel_rfl)<|.nl)) fun news pN cN hzn => .fn (tl := [_]) Z<|.a Z Z<|.nt<|.ex<|.tE<|.bE<|.tN<|.ag (x := (n,fs,ts0 ++ [Ex.mk op0 nm0 m0 args0],Value.slice pf fs.length cf,Value.slice (some ⟨g,0,none⟩) (ts0 ++ [Ex.mk op0 nm0 m0 args0]).length ct,xf,xt)) (n + 1,fs,ts0 ++ args0,Value.slice pf fs.length cf,Value.slice pN (ts0.length + args0.length) cN,xf,xt.take (ts0.length * 4) ++ news) ⟨rfl,rfl,rfl,trivial⟩ ⟨rfl,trivial⟩ (fun _ s => by dsimp only;rw [List.length_append];exact (s.pick [1,2,3] _ Z Z)) ⟨zf,by rw [List.map_append];exact hz0.app hzn,by dsimp only;rw [ex_counts_app];omega,by dsimp only;omega,hbf,fun e he => by rcases List.mem_append.1 he with h | h;exact hbt e (List.mem_append.2 (.inl h));exact hb0.2 e h,by dsimp only;rw [List.length_append,hNs];omega⟩ (by dsimp only;omega)
   try simp only [df] at h31
   have hts : ts = [] := by
    cases ts with
    | nil => rfl
    | cons t r => simp at h31 <;> omega
   subst hts;obtain rfl : xt = [] := zt
   obtain ⟨fs0,f0,rfl⟩ : ∃ fs0 f0,fs = fs0 ++ [f0] := by
    rcases List.eq_nil_or_concat fs with h | ⟨t,x,h⟩
    ·subst h;simp at h24
    ·exact ⟨t,x,by rw [h,List.concat_eq_append]⟩
   have hl0 : (fs0 ++ [f0]).length = fs0.length + 1 := by rw [List.length_append];rfl
   refine Sx.rowCase (size := 7) (r := .slice pf (fs0 ++ [f0]).length cf) (e := 35) (.head _) (by rw [hl0];exact Nat.succ_pos _) fun g c e hgc => ?_;injection e with e3 _ e4
   subst e3 e4;obtain ⟨cs0,r0,hc0,hx0⟩ := RepZ.at zf (i := fs0.length) (d := dFm .u8 f0) (by rw [List.map_append,List.getElem?_append_right (by rw [List.length_map];exact Nat.le_refl _),List.length_map,Nat.sub_self];rfl);obtain ⟨op0,nm0,fd0,a0,b0,ex0,args0⟩ := f0;obtain ⟨q1,d1,q2,d2,rfl,hs0,hs3,_,_⟩ := fm_open r0;have hb0 := (blF_mk.1 (hbf _ (List.mem_append.2 (.inr (List.mem_singleton.2 rfl)))))
   have hz0 : RepZ H 7 (fs0.map (dFm .u8)) (xf.take (fs0.length * 7)) := by
    have h := RepZ.take fs0.length zf;rw [List.map_append,List.take_left' (by rw [List.length_map])] at h;exact h
   rw [fm_counts_app,Fm.counts,Fm.counts,fm_count] at hcnt;rw [hl0] at hlen;have hNs : N * (n + 1) = N * n + N := Nat.mul_succ N n;refine .sk<|.tN<|.sr<|.m Z Z<|.yv (.lenSl Fx.sl33 Z) Z<|.yv (.sub Z Z (c := ((fs0.length : Nat) : Int)) (by rw [hl0];exact (w6 (by omega)).trans (by omega))) Z<|.a Z Z<|.ns<|.m Z Z<|.m Z Z<|.yv (.indexSl Fx.sl33 Z Z (i := fs0.length) Z (by rw [hl0];omega) (q := fs0.length * 7) (by omega)) Z<|.yv (.loadR (vs := cFm .u8 op0 nm0 fd0 a0 b0 (.slice q1 ex0.length d1) (.slice q2 args0.length d2)) Z Fx.agg35 (.head _) Z hx0) Z<|.al Fx.zero35 Z fun b11 => .sW .head Z Z Fx.size35 (by simp [Value.oneCell',strV]) Z<|?_
   refine Sx.At.rcut (size := 7) (m := fs0.length) (ys := xf.take (fs0.length * 7)) (.tail<|.head) (by rw [hl0];exact Nat.le_succ _) rfl ?_;refine .nt<|.sq<|.fl (trip := [(_,_,_),(_,_,_),(_,_,_),(_,_,_),(_,_,_),(_,_,_)]) 6 [(0,0),(1,0),(2,0),(3,0),(4,0),(5,3)] (by kernel_rfl) (by kernel_rfl) Z<|.m Z Z<|.m Z Z<|.yv (.cutHi Fx.sl33 Z Z (h := fs0.length) Z (by rw [hl0] at hgc;omega) (fun q e => by cases e;rfl)) Z<|.yv (.fieldAddr Z Fx.field35_6) Z<|.yv (.load Z Fx.agg33 (.head _) Z) Z<|.apD Fx.row33 Z (fun _ _ => (.tail<|.head)) Z hs3 (by simp only [maxLen];omega) (by omega) Z (fun _ _ => (.done (by kernel_rfl)<|.done (by kernel_rfl)<|.done (by kernel_rfl)<|.done (by kernel_rfl)<|.done (by kernel_rfl)<|.nl)) fun news pN cN hzn => .fn (tl := [_]) Z<|.a Z Z<|.nt<|.rg<|.m Z Z<|.yv (.fieldAddr Z Fx.field35_5) Z<|.yv (.load Z Fx.agg32 (.head _) Z) Z<|.apD Fx.row32 Z (fun _ _ => (.tail<|.tail<|.head)) Z hs0 (by simp only [maxLen];omega) (by simp only [List.length_nil];omega) Z fun news2 r2 hzn2 => ?_
   rw [show ([] : List Ex).length + ex0.length = ex0.length from Nat.zero_add _];exact .a Z Z<|.nl<|.bN<|.tN<|.ag (x := (n,fs0 ++ [Fm.mk op0 nm0 fd0 a0 b0 ex0 args0],([] : List Ex),Value.slice (some ⟨g,0,none⟩) (fs0 ++ [Fm.mk op0 nm0 fd0 a0 b0 ex0 args0]).length cf,Value.slice pt 0 ct,xf,([] : List Value))) (n + 1,fs0 ++ args0,ex0,Value.slice pN (fs0.length + args0.length) cN,r2,xf.take (fs0.length * 7) ++ news,news2) ⟨rfl,rfl,rfl,trivial⟩ ⟨rfl,trivial⟩ (fun _ s => by dsimp only;rw [List.length_append];exact (s.pick [1,2,3] _ Z Z)) ⟨by rw [List.map_append];exact hz0.app hzn,hzn2,by dsimp only;rw [fm_counts_app];rw [Ex.counts] at hcnt;omega,by dsimp only;omega,fun e he => by rcases List.mem_append.1 he with h | h;exact hbf e (List.mem_append.2 (.inl h));exact hb0.2 e h,fun e he => hb0.1.2.2 e he,by dsimp only;rw [List.length_append,hNs];simp only [List.length_nil] at hlen;omega⟩ (by dsimp only;omega)
  have hz24 : ¬ 0 < fs.length + ts.length := fun e => of_decide_eq_false h24 (by omega);refine .ex<|.tE<|.tE<|.bE<|.tN<|.sr<|.m Z Z<|.a Z Z<|.nt<|.rt<|?_
  refine Sx.ret1 (.inl rfl) rfl (.tmp rfl) fun W s => ⟨?_,s.ext⟩
  first
   | (rw [show n = min (Fm.count (.mk op nm fd a b ex args)) (most + 1) by omega])
   | (rw [show n = min (Fm.count (.mk op nm fd a b ex args)) (most + 1) from by (have h1 : fs = [] := List.eq_nil_of_length_eq_zero (by omega));(have h2 : ts = [] := List.eq_nil_of_length_eq_zero (by omega));subst h1;subst h2;rw [Fm.counts,Ex.counts] at hcnt;omega])
 have hgt : ¬ n ≤ most := fun e => of_decide_eq_false h17 (by omega);refine .gF Z Z Z Z<|.gF Z Z Z Z<|.gF Z Z Z Z<|.gF Z Z Z Z<|.gF Z Z Z Z<|.gF Z Z Z Z<|.yv (.pickF Z Z) Z<|.nt<|.cF Z<|.ex<|.tE<|.tE<|.bE<|.tN<|.sr<|.m Z Z<|.a Z Z<|.nt<|.rt<|?_
 refine Sx.ret1 (.inl rfl) rfl (.tmp rfl) fun W s => ⟨?_,s.ext⟩
 first
  | (rw [show n = min (Fm.count (.mk op nm fd a b ex args)) (most + 1) by omega])
  | (rw [show n = min (Fm.count (.mk op nm fd a b ex args)) (most + 1) from by (have h1 : fs = [] := List.eq_nil_of_length_eq_zero (by omega));(have h2 : ts = [] := List.eq_nil_of_length_eq_zero (by omega));subst h1;subst h2;rw [Fm.counts,Ex.counts] at hcnt;omega])
end Go.Proofs.YtidclioghdbphaaGreatDoor
