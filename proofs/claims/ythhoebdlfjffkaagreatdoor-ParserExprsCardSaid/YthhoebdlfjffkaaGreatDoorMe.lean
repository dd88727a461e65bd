/- Texts of the proof, one behind the other. -/
import Derived.Test.YthhoebdlfjffkaaGreatDoorMd
import Derived.Test.YthhoebdlfjffkaaGreatDoorTie
import Derived.ProofKit
import Derived.OpenShut
import Derived.ShutString
import Derived.Lay
import Derived.Stop.LaidErr
import Derived.Stop.Joined
import Derived.Shelf.Vars
import Derived.Lib.LaidTab
import Derived.Lib.SmallJoins
import Derived.SevenTiedAt
set_option linter.all false
namespace Go.Proofs.YthhoebdlfjffkaaGreatDoor
open Go.RowKit Go.Par Go.Sx
theorem wU {n : Nat} (h : n < 18446744073709551616) : IntKind.u64.wrap (n : Int) = (n : Int) := by
 simp only [IntKind.wrap,IntKind.signed,IntKind.bits]
 simp
 omega
set_option maxRecDepth 100000 in
theorem rvalue_any (t : Tk) (hd : t.k = 3 → pre digB t.t = t.t.length ∧ ¬ t.t = []) (hl : t.t.length ≤ 1000000) (w : World) :
 Calls Tryz.prog 135 #[.agg (cTk .i64 t).toArray] w fun r w' => r = .returned (.tuple #[.int .i64 (valV t : Nat),.int .i64 (valE t : Nat)]) ∧ Ext w w' := by
 refine Sx.enter (H := (fun _ => none)) Tryz.func135 rfl Tryz.ntmps135 rfl (fun _ _ e => by cases e) ?_
 refine .sr<|.bx Z Z Z fun b1 => .a Z Z<|.a Z Z<|.nt<|.sq<|.sr<|.yv (.fieldAddr Z Fx.field133_0) Z<|.yv (.load Z Fx.agg3 (.head _) Z) Z<|.yv (.neq Z Z) Z<|.m Z Z<|.b2 (fun h11 => ?_) (fun h11 => ?_)
 ·try simp only [dt] at h11
  have hk : ¬ t.k = 3 := fun e => by simp [e] at h11
  obtain ⟨hv1,hv2⟩ := val_no hk
  refine .gF Z Z Z Z<|.gF Z Z Z Z<|.gF Z Z Z Z<|.yv (.pickT Z Z) Z<|.nt<|.cT Z<|.sr<|.a Z Z<|.a Z Z<|.nt<|.rt<|.tR<|?_
  refine Sx.retN (.inl rfl) rfl (.cons (.tmp rfl) (.cons (.tmp rfl) .nil)) rfl fun W s => ⟨?_,s.ext⟩
  first
   | (rw [hv1,hv2];rfl)
   | (rw [hv1,hv2,hvk];rfl)
   | (rw [hv1,hv2,hvk])
 try simp only [df] at h11
 have hk : t.k = 3 := UInt8.toNat_inj.1 (by show t.k.toNat = 3;omega)
 obtain ⟨hd1,hd2⟩ := hd hk
 have hall := List.all_eq_true.1 (pre_all hd1)
 refine .gd Z Z<|.yv (.fieldAddr Z Fx.field133_1) Z<|.gd Z Z<|.yv (.load Z Fx.agg9 (.head _) Z) Z<|.gd Z Z<|.yv (.cast (.eqS Z Z) (congrArg Value.bool (decide_eq_false hd2))) Z<|.yv (.pickF Z Z) Z<|.nt<|.cF Z<|.sk<|.tN<|.sr<|.a Z Z<|.ns<|.a Z Z<|.nt<|.sq<|.sr<|.a Z Z<|.nt<|.bk<|.lp (X := Nat × Bool × Nat) [(1,_)] ⟨rfl,trivial⟩ [_] (fun z => [(6,.int .i64 (z.1 : Nat)),(5,.bool z.2.1),(4,.int .u64 (z.2.2 : Nat))]) (fun z => (fun _ => none)) (fun z => []) (fun z => z.1 ≤ t.t.length ∧ z.2.2 ≤ 9223372036854775807 ∧ (z.2.1 = false → z.2.2 = numV (t.t.take z.1)) ∧ (z.2.1 = true → ¬ numV t.t ≤ 9223372036854775807)) (fun z => t.t.length - z.1) (0,false,0) (fun _ s => s) ⟨rfl,rfl,rfl,trivial⟩ ⟨Nat.zero_le _,Nat.zero_le _,fun _ => by simp [numV_zero],fun h => by cases h⟩ fun z hC => ?_
 obtain ⟨k,ov,v⟩ := z
 obtain ⟨hk0,hvb,hF,hT⟩ := hC
 dsimp only at hk0 hvb hF hT ⊢
 refine .sq<|.sr<|.m Z Z<|.yv (.fieldAddr Z Fx.field133_1) Z<|.yv (.load Z Fx.agg9 (.head _) Z) Z<|.yv (.lenS Fx.str9 Z) Z<|.yv (.lss Z Z) Z<|.nt<|.cd Z (fun h20 => ?_) (fun h20 => ?_)
 ·try simp only [dt] at h20
  have hlt : k < t.t.length := by omega
  obtain ⟨c,hc⟩ : ∃ c,c = t.t[k] := ⟨_,rfl⟩
  have hdc : digB c = true := hall c (by rw [hc];exact List.getElem_mem hlt)
  obtain ⟨hc1,hc2⟩ := dig_rng hdc
  have hst : numV (t.t.take (k + 1)) = 10 * numV (t.t.take k) + (c.toNat - 48) := numV_step (by rw [hc];exact List.getElem?_eq_getElem hlt)
  have hle := numV_take t.t (k + 1)
  rw [hst] at hle
  refine .sk<|.tN<|.sq<|.bk<|.sq<|.sr<|.yv (.fieldAddr Z Fx.field133_1) Z<|.yv (.load Z Fx.agg9 (.head _) Z) Z<|.m Z Z<|.yv (.idxS Fx.str9 Z Z Z (b := c) (j := k) (by rw [hc];exact List.getElem?_eq_getElem hlt)) Z<|.yv (.cast (.call Fx.call132 Z (fun W s => rdigit_any _ W)) (congrArg Value.bool hdc)) Z<|.yv (.not Z) Z<|.nt<|.cF Z<|.sk<|.tN<|.sr<|.yv (.fieldAddr Z Fx.field133_1) Z<|.yv (.load Z Fx.agg9 (.head _) Z) Z<|.m Z Z<|.yv (.idxS Fx.str9 Z Z Z (b := c) (j := k) (by rw [hc];exact List.getElem?_eq_getElem hlt)) Z<|.yv (.sub Z Z (u8w hc1)) Z<|.yv (.conv Z Fx.int5 Fx.int12 (c := ((c.toNat - 48 : Nat) : Int)) (wU (by omega))) Z<|.a Z Z<|.nt<|.sq<|.sr<|.m Z Z<|.m Z Z<|.b2 (fun h36 => ?_) (fun h36 => ?_)
  ·skip
   exact .gF Z Z Z Z<|.gF Z Z Z Z<|.gF Z Z Z Z<|.gF Z Z Z Z<|.gF Z Z Z Z<|.yv (.pickT Z Z) Z<|.nt<|.cT Z<|.sr<|.a Z Z<|.nt<|.ex<|.tE<|.bE<|.tN<|.rg<|.m Z Z<|.yv (.add Z Z (w6 (by omega))) Z<|.a Z Z<|.nt<|.ag (x := (k,ov,v)) (k + 1,true,v) ⟨rfl,rfl,rfl,trivial⟩ ⟨rfl,trivial⟩ (fun _ s => s) ⟨by show k + 1 ≤ _;omega,hvb,fun h => (by cases h),fun _ => hT (by assumption)⟩ (by show t.t.length - (k + 1) < t.t.length - k;omega)
  obtain rfl : ov = false := h36
  have hvk : v = numV (t.t.take k) := hF rfl
  refine .gd Z Z<|.yv (.move Z) Z<|.gd Z Z<|.yv (.move Z) Z<|.gd Z Z<|.yv (.sub Z Z (c := ((9223372036854775807 - (c.toNat - 48) : Nat) : Int)) (by rw [show (9223372036854775807 : Int) - ((c.toNat - 48 : Nat) : Int) = ((9223372036854775807 - (c.toNat - 48) : Nat) : Int) by omega];exact wU (by omega))) Z<|.gd Z Z<|.yv (.quo Z Z (by decide) (c := (((9223372036854775807 - (c.toNat - 48)) / 10 : Nat) : Int)) (by rw [Int.tdiv_eq_ediv_of_nonneg (by omega)];rw [show ((9223372036854775807 - (c.toNat - 48) : Nat) : Int) / 10 = (((9223372036854775807 - (c.toNat - 48)) / 10 : Nat) : Int) by omega];exact wU (by omega))) Z<|.gd Z Z<|.yv (.gtr Z Z) Z<|.yv (.pickF Z Z) Z<|.nt<|.cd Z (fun h42 => ?_) (fun h42 => ?_)
  ·try simp only [dt] at h42
   have hbig : ¬ numV t.t ≤ 9223372036854775807 := by omega
   exact .sr<|.a Z Z<|.nt<|.ex<|.tE<|.bE<|.tN<|.rg<|.m Z Z<|.yv (.add Z Z (w6 (by omega))) Z<|.a Z Z<|.nt<|.ag (x := (k,false,v)) (k + 1,true,v) ⟨rfl,rfl,rfl,trivial⟩ ⟨rfl,trivial⟩ (fun _ s => s) ⟨by show k + 1 ≤ _;omega,hvb,fun h => (by cases h),fun _ => hbig⟩ (by show t.t.length - (k + 1) < t.t.length - k;omega)
  try simp only [df] at h42
  have hb : 10 * v + (c.toNat - 48) ≤ 9223372036854775807 := by omega
  exact .sk<|.tN<|.rg<|.m Z Z<|.yv (.mul Z Z (c := ((10 * v : Nat) : Int)) (by rw [show (10 : Int) * (v : Int) = ((10 * v : Nat) : Int) by omega];exact wU (by omega))) Z<|.m Z Z<|.yv (.add Z Z (c := ((10 * v + (c.toNat - 48) : Nat) : Int)) (by rw [show ((10 * v : Nat) : Int) + (((c.toNat - 48) : Nat) : Int) = ((10 * v + (c.toNat - 48) : Nat) : Int) by omega];exact wU (by omega))) Z<|.a Z Z<|.nl<|.bN<|.tN<|.rg<|.m Z Z<|.yv (.add Z Z (w6 (by omega))) Z<|.a Z Z<|.nt<|.ag (x := (k,false,v)) (k + 1,false,10 * v + (c.toNat - 48)) ⟨rfl,rfl,rfl,trivial⟩ ⟨rfl,trivial⟩ (fun _ s => s) ⟨by show k + 1 ≤ _;omega,(by show 10 * v + (c.toNat - 48) ≤ _;omega),fun _ => (by show 10 * v + (c.toNat - 48) = _;rw [hst,← hvk]),fun h => (by cases h)⟩ (by show t.t.length - (k + 1) < t.t.length - k;omega)
 try simp only [df] at h20
 obtain rfl : k = t.t.length := by omega
 rw [List.take_length] at hF
 refine .ex<|.tE<|.tE<|.bE<|.tN<|.sq<|.sr<|.m Z Z<|.nt<|.cd Z (fun h47 => ?_) (fun h47 => ?_)
 ·obtain ⟨hv1,hv2⟩ := val_big hk (hT h47)
  refine .sr<|.a Z Z<|.a Z Z<|.nt<|.rt<|.tR<|?_
  refine Sx.retN (.inl rfl) rfl (.cons (.tmp rfl) (.cons (.tmp rfl) .nil)) rfl fun W s => ⟨?_,s.ext⟩
  first
   | (rw [hv1,hv2];rfl)
   | (rw [hv1,hv2,hvk];rfl)
   | (rw [hv1,hv2,hvk])
 have hvk := hF h47
 obtain ⟨hv1,hv2⟩ := val_ok hk (by rw [← hvk];exact hvb)
 refine .sk<|.tN<|.sr<|.m Z Z<|.yv (.conv Z Fx.int12 Fx.int2 (c := ((v : Nat) : Int)) (w6 (by omega))) Z<|.a Z Z<|.a Z Z<|.nt<|.rt<|?_
 refine Sx.retN (.inl rfl) rfl (.cons (.tmp rfl) (.cons (.tmp rfl) .nil)) rfl fun W s => ⟨?_,s.ext⟩
 first
  | (rw [hv1,hv2];rfl)
  | (rw [hv1,hv2,hvk];rfl)
  | (rw [hv1,hv2,hvk])
set_option maxRecDepth 100000 in
theorem number_r {H : Hp} {w0 W : World} {bs : List Res} {b n : Nat} {t : Str} {ts : List Tk} {tp : Option Addr} {tc : Nat} {q : Sg} (K : Tkr H t n ts tp tc) (hq : q.r <:+ ts) (s : St H w0 (.box b [strV t,.slice tp ts.length tc,.int .i64 (posN ts q : Nat),.int .i64 (q.o : Nat),.int .i64 (q.e : Nat)] 75 :: bs) W) :
 Calls Tryz.prog 99 #[.pointer (some ⟨b,0,none⟩)] W fun e W' => ∃ x : Int64,(vl gNu q x) ∧ e = .returned (.int .i64 x.toInt) ∧ St H w0 (.box b [strV t,.slice tp ts.length tc,.int .i64 (posN ts (up n gNu q) : Nat),.int .i64 ((up n gNu q).o : Nat),.int .i64 ((up n gNu q).e : Nat)] 75 :: bs) W' := by
 have hcap := K.rep.cap
 refine Sx.enterS Tryz.func99 rfl Tryz.ntmps99 rfl s ?_
 refine .sr<|.a Z Z<|.ns<|.m Z Z<|.cs (X := Unit) Fx.call55 Z (fun W s => tok_r K hq  (s.pickT (hd := [_]) (tl := bs) (hd' := [_]) [0] Z Z)) Z fun _ _ => .al Fx.zero133 Z fun b3 => .sW .head Z Z Fx.size133 (by simp [cTk,Value.oneCell',strV]) Z<|.nt<|.sq<|.sr<|.m Z Z<|.yv (.nilCheck Z) Z<|.yv (.fieldAddr Z Fx.field75_4) Z<|.yv (.load Z Fx.agg3 (.tail _<|.head _) Z) Z<|.yv (.neq Z Z) Z<|.m Z Z<|.b2 (fun h13 => ?_) (fun h13 => ?_)
 ·try simp only [dt] at h13
  have h0 : ¬ q.e = 0 := by omega
  have e1 : up n gNu q = q.fail n 8 := by rw [up_er h0];unfold Sg.fail;rw [if_neg h0]
  have hv : vl gNu q 0 := vl_er h0
  rw [e1]
  refine .gF Z Z Z Z<|.gF Z Z Z Z<|.gF Z Z Z Z<|.yv (.pickT Z Z) Z<|.nt<|.cT Z<|.sr<|.m Z Z<|.cs (X := Unit) Fx.call56 Z (fun W s => fail_r K hq 8 (s.pickT (hd := [_,_]) (tl := bs) (hd' := [_,_]) [1,0] Z Z)) Z fun _ _ => .ns<|.a Z Z<|.nt<|.rt<|.tR<|?_
  refine Sx.ret1 (.inl rfl) rfl (.tmp rfl) fun W s => ?_
  exact ⟨0,hv,rfl,s.pickT (hd := [_,_]) (tl := bs) (hd' := [_]) [0] rfl rfl⟩
 try simp only [df] at h13
 have h0 : q.e = 0 := by omega
 refine .gd Z Z<|.yv (.fieldAddr Z Fx.field133_0) Z<|.gd Z Z<|.yv (.load Z Fx.agg3 (.head _) Z) Z<|.gd Z Z<|.yv (.neq Z Z) Z<|.yv (.pickF Z Z) Z<|.nt<|.cd Z (fun h17 => ?_) (fun h17 => ?_)
 ·try simp only [dt] at h17
  have hk : ¬ (tkH n q.r).k = 3 := fun e => by simp [e] at h17
  obtain ⟨e1,hv0⟩ := nu_no (n := n) hk
  have hv := hv0 0
  rw [e1]
  refine .sr<|.m Z Z<|.cs (X := Unit) Fx.call56 Z (fun W s => fail_r K hq 8 (s.pickT (hd := [_,_]) (tl := bs) (hd' := [_,_]) [1,0] Z Z)) Z fun _ _ => .ns<|.a Z Z<|.nt<|.rt<|.tR<|?_
  refine Sx.ret1 (.inl rfl) rfl (.tmp rfl) fun W s => ?_
  exact ⟨0,hv,rfl,s.pickT (hd := [_,_]) (tl := bs) (hd' := [_]) [0] rfl rfl⟩
 try simp only [df] at h17
 have hk : (tkH n q.r).k = 3 := UInt8.toNat_inj.1 (by show (tkH n q.r).k.toNat = 3;omega)
 refine .sk<|.tN<|.sr<|.yv (.loadW Z Fx.agg133 (.head _) Z) Z<|.yv (.call Fx.call135 Z (fun W s => rvalue_any (tkH n q.r) (K.numD hq) (K.tk hq) W)) Z<|.m Z Z<|.yv (.extract Z Z) Z<|.yv (.extract Z Z) Z<|.a Z Z<|.a Z Z<|.nt<|.sq<|.sr<|.m Z Z<|.yv (.neq Z Z) Z<|.nt<|.cd Z (fun h26 => ?_) (fun h26 => ?_)
 ·try simp only [dt] at h26
  have he : ¬ valE (tkH n q.r) = 0 := by omega
  have hn : ¬ numV (tkH n q.r).t ≤ 9223372036854775807 := fun h => he (val_ok hk h).1
  obtain ⟨e1,hv0⟩ := nu_big (n := n) hk hn
  have hv := hv0 0
  rw [e1]
  refine .sr<|.m Z Z<|.cs (X := Unit) Fx.call56 Z (fun W s => fail_r K hq 2 (s.pickT (hd := [_,_]) (tl := bs) (hd' := [_,_]) [1,0] Z Z)) Z fun _ _ => .ns<|.a Z Z<|.nt<|.rt<|.tR<|?_
  refine Sx.ret1 (.inl rfl) rfl (.tmp rfl) fun W s => ?_
  exact ⟨0,hv,rfl,s.pickT (hd := [_,_]) (tl := bs) (hd' := [_]) [0] rfl rfl⟩
 try simp only [df] at h26
 have he : valE (tkH n q.r) = 0 := by omega
 obtain ⟨_,hn⟩ := val_e0 he
 have hv2 := (val_ok hk hn).2
 obtain ⟨e1,hv⟩ := nu_ok h0 hk hn
 rw [e1]
 obtain ⟨hp,hi⟩ := posN_tl hq (tkH_ne (n := n) (by rw [hk];decide))
 refine .sk<|.tN<|.sr<|.m Z Z<|.yv (.nilCheck Z) Z<|.yv (.fieldAddr Z Fx.field75_2) Z<|.yv (.load Z Fx.agg3 (.tail _<|.head _) Z) Z<|.yv (.add Z Z (c := ((posN ts q.tl : Nat) : Int)) ((w6 (by omega)).trans (by omega))) Z<|.yv (.nilCheck Z) Z<|.yv (.fieldAddr Z Fx.field75_2) Z<|.st (.tail<|.head) Z Z Fx.size3 Z (nb Z) Z<|.ns<|.m Z Z<|.a Z Z<|.nt<|.rt<|?_
 refine Sx.ret1 (.inl rfl) rfl (.tmp rfl) fun W s => ?_
 exact ⟨Int64.ofNat (numV (tkH n q.r).t),hv,(by rw [hv2,i64N hn]),s.pickT (hd := [_,_]) (tl := bs) (hd' := [_]) [1] rfl rfl⟩
theorem readK_kz {m : Str} (h : m ≠ []) : (readK m).1 ≠ 0 := by
 match m,h with
 | c :: r,_ =>
  cases h1 : letB c with
  | true =>
   cases h4 : words.contains ((c :: r).take (pre insB (c :: r))) with
   | true => simp only [readK,List.headD_cons,h1,h4,if_true];decide
   | false =>
    by_cases h5 : pre insB (c :: r) ≤ 12
    ·simp only [readK,List.headD_cons,h1,h4,h5,if_true,Bool.false_eq_true,if_false];decide
    ·simp only [readK,List.headD_cons,h1,h4,h5,if_true,Bool.false_eq_true,if_false];decide
  | false =>
   cases h4 : digB c with
   | true =>
    by_cases h5 : pre digB (c :: r) = 1 ∨ c ≠ 48
    ·simp only [readK,List.headD_cons,h1,h4,h5,if_true,Bool.false_eq_true,if_false];decide
    ·simp only [readK,List.headD_cons,h1,h4,h5,if_true,Bool.false_eq_true,if_false];decide
   | false => cases hx : symbols.find? (fun x => x.isPrefixOf (c :: r)) <;> simp only [readK,List.headD_cons,h1,h4,hx,Bool.false_eq_true,if_false] <;> decide
theorem tokF_kz : ∀ (f o : Nat) (m : Str),∀ t ∈ tokF f o m,t.k ≠ 0
 | 0,_,_,t,h => by cases h
 | f + 1,o,m,t,h => by
  by_cases h0 : m = []
  ·rw [h0,tokF_nil] at h;cases h
  ·rw [tokF_step h0] at h
   rcases List.mem_cons.1 h with rfl | h
   ·exact readK_kz h0
   ·exact tokF_kz f _ _ t h
theorem lexR_kz (s : Str) : ∀ t ∈ lexR s,t.k ≠ 0 := tokF_kz _ _ _
set_option maxRecDepth 100000 in
theorem made_r {H : Hp} {w0 W : World} {bs : List Res} (t : Str) (ht : t.length ≤ 9223372036854775807) (s : St H w0 bs W) :
 Calls Tryz.prog 25 #[strV t] W fun e W' => ∃ z : Nat × Hp × Option Addr × Nat,(Tkr z.2.1 t t.length (sg0 t).r z.2.2.1 z.2.2.2 ∧ HUp w0 H z.2.1) ∧ e = .returned (.pointer (some ⟨z.1,0,none⟩)) ∧ St z.2.1 w0 (.box z.1 [strV t,.slice z.2.2.1 ((sg0 t).r).length z.2.2.2,.int .i64 (posN ((sg0 t).r) (sg0 t) : Nat),.int .i64 ((sg0 t).o : Nat),.int .i64 ((sg0 t).e : Nat)] 75 :: bs) W' := by
 refine Sx.enterS Tryz.func25 rfl Tryz.ntmps25 rfl s ?_
 refine .sr<|.a Z Z<|.ns<|.m Z Z<|.yv (.build Z (Fx.bld75_0 _)) Z<|.bx Z Z Z fun b6 => .a Z Z<|.nt<|.sq<|.sr<|.m Z Z<|.yv (.lenS Fx.str9 Z) Z<|.yv (.gtr Z Z) Z<|.nt<|.cd Z (fun h9 => ?_) (fun h9 => ?_)
 ·try simp only [dt] at h9
  have hbig : 20000 < t.length := by omega
  have e0 : sg0 t = ⟨[],3,0⟩ := by unfold sg0;rw [if_pos hbig]
  refine .sr<|.m Z Z<|.yv (.nilCheck Z) Z<|.yv (.fieldAddr Z Fx.field75_4) Z<|.st .head Z Z Fx.size3 Z (nb Z) Z<|.ns<|.m Z Z<|.a Z Z<|.nt<|.rt<|.tR<|?_
  refine Sx.ret1 (.inl rfl) rfl (.tmp rfl) fun W s => ⟨(b6,H,none,0),⟨by rw [e0];exact ⟨Rep.empty (Nat.zero_le _),fun _ h => (by cases h),fun _ h => (by cases h),fun _ h => (by cases h),fun _ h => (by cases h),rfl⟩,.refl⟩,rfl,?_⟩
  rw [e0]
  exact s.pickT (hd := [_]) (tl := bs) (hd' := [_]) [0] rfl rfl
 try simp only [df] at h9
 have hl : t.length ≤ 20000 := by omega
 have e0 : sg0 t = ⟨lexR t,0,0⟩ := by unfold sg0;rw [if_neg (by omega)]
 refine .sk<|.tN<|.sr<|.m Z Z<|.m Z Z<|.ct (X := Value) Fx.call51 Z (fun W s => lexR_any H t (by omega) W s.agr) Z fun v H1 hsq u1 => ?_
 obtain ⟨p1,c1,e1,_⟩ := hsq.sl
 simp only [List.cons.injEq,and_true] at e1
 subst e1
 rw [List.length_map] at hsq ⊢
 refine .yv (.nilCheck Z) Z<|.yv (.fieldAddr Z Fx.field75_1) Z<|.st .head Z Z Fx.size73 Z (nb Z) Z<|.ns<|.m Z Z<|.a Z Z<|.nt<|.rt<|?_
 refine Sx.ret1 (.inl rfl) rfl (.tmp rfl) fun W s => ⟨(b6,H1,p1,c1),⟨by rw [e0];exact ⟨hsq,lexR_good t,lexR_num t,fun x hx => Nat.le_trans (lexR_short t x hx) (by omega),lexR_kz t,rfl⟩,u1⟩,rfl,?_⟩
 rw [e0]
 rw [show posN (lexR t) ⟨lexR t,0,0⟩ = 0 from Nat.sub_self _]
 exact s.pickT (hd := [_]) (tl := bs) (hd' := [_]) [0] rfl rfl
theorem Fx.call26 : callN Tryz.prog 26 = Bool.true := by kernel_rfl
theorem Fx.call52 : callN Tryz.prog 52 = Bool.true := by kernel_rfl
theorem Fx.call53 : callN Tryz.prog 53 = Bool.true := by kernel_rfl
theorem Fx.call94 : callN Tryz.prog 94 = Bool.true := by kernel_rfl
theorem Fx.sl129 : slN Tryz.prog 129 = Option.some 1 := by kernel_rfl
theorem Fx.bld33_0_3 (x0 : Int) (x3p : Option Addr) (x3n x3c : Nat) : buildN Tryz.prog 33 [(0,.int .i64 x0),(3,.slice x3p x3n x3c)] = some [.int .i64 x0,.string ⟨#[]⟩,.int .i64 0,.slice x3p x3n x3c] := by kernel_rfl
theorem Fx.bsl129_1 (x0 : Int) : bslN Tryz.prog 129 1 [(0,.int .i64 x0)] = some (3,[.int .i64 x0]) := by kernel_rfl
theorem Fx.bsl129_2 (x0 : Int) (x1 : Int) : bslN Tryz.prog 129 2 [(0,.int .i64 x0),(1,.int .i64 x1)] = some (3,[.int .i64 x0,.int .i64 x1]) := by kernel_rfl
theorem Fx.bsl129_3 (x0 : Int) (x1 : Int) (x2 : Int) : bslN Tryz.prog 129 3 [(0,.int .i64 x0),(1,.int .i64 x1),(2,.int .i64 x2)] = some (3,[.int .i64 x0,.int .i64 x1,.int .i64 x2]) := by kernel_rfl
theorem Fx.bsl129_6 (x0 : Int) (x1 : Int) (x2 : Int) (x3 : Int) (x4 : Int) (x5 : Int) : bslN Tryz.prog 129 6 [(0,.int .i64 x0),(1,.int .i64 x1),(2,.int .i64 x2),(3,.int .i64 x3),(4,.int .i64 x4),(5,.int .i64 x5)] = some (3,[.int .i64 x0,.int .i64 x1,.int .i64 x2,.int .i64 x3,.int .i64 x4,.int .i64 x5]) := by kernel_rfl
theorem Fx.bsl31_1 (x00 x01 x02 x03 : Value) : bslN Tryz.prog 31 1 [(0,.agg [x00,x01,x02,x03].toArray)] = some (33,[x00,x01,x02,x03]) := by kernel_rfl
theorem Fx.bsl31_2 (x00 x01 x02 x03 : Value) (x10 x11 x12 x13 : Value) : bslN Tryz.prog 31 2 [(0,.agg [x00,x01,x02,x03].toArray),(1,.agg [x10,x11,x12,x13].toArray)] = some (33,[x00,x01,x02,x03,x10,x11,x12,x13]) := by kernel_rfl
def ExV (f : FuncId) (vs : List Value) (g : Pz Ex) (M : Nat) : Prop := ∀ {H : Hp} {w0 W : World} {bs : List Res} {b n : Nat} {t : Str} {ts : List Tk} {tp : Option Addr} {tc : Nat} {q : Sg},(_ :  Tkr H t n ts tp tc) → (_ : q.r <:+ ts) → q.mu < M → St H w0 (.box b [strV t,.slice tp ts.length tc,.int .i64 (posN ts q : Nat),.int .i64 (q.o : Nat),.int .i64 (q.e : Nat)] 75 :: bs) W →
 Calls Tryz.prog f (.pointer (some ⟨b,0,none⟩) :: vs).toArray W fun e W' => ∃ z : Ex × List Value × Hp,(vl g q z.1 ∧ HUp w0 H z.2.2 ∧ Rep z.2.2 (dEx .i64 z.1) z.2.1) ∧ e = .returned (.agg z.2.1.toArray) ∧ St z.2.2 w0 (.box b [strV t,.slice tp ts.length tc,.int .i64 (posN ts (up n g q) : Nat),.int .i64 ((up n g q).o : Nat),.int .i64 ((up n g q).e : Nat)] 75 :: bs) W'
theorem ExV.zero (f : FuncId) (vs : List Value) (g : Pz Ex) : ExV f vs g 0 := fun _ _ h _ => absurd h (Nat.not_lt_zero _)
theorem LfI.fin {n : Nat} {q q1 : Sg} {a b : Ex} {op : UInt8} (h : LfI n 2 q a q1) (hop : opF (opsL 2) q1 = some op) (hb : vl (gX 3) q1.tl b) : up n (gX 3) q1.tl = up n (gX 2) q ∧ vl (gX 2) q (opE op [a,b]) := by
 rw [opF_opS] at hop
 have e : gK 2 op a b = gPure (opE op [a,b]) := by unfold gK;rw [if_pos rfl]
 refine ⟨?_,h.val _ (vl_lpS (by decide) hop (vl_bind (n := n) hb (by rw [e];exact vl_pure)))⟩
 rw [← h.eq,up_lpS (by decide) hop,up_bind (Cz.ex _) hb,e,up_pure]
def qo : Option UInt8 → Sg → Sg
 | none,q => q
 | some _,q => q.tl
theorem opsL_nz (lv : Nat) : ∀ x ∈ opsL lv,x.2.toNat ≠ 0 := by
 unfold opsL
 split <;> decide
theorem opsL_len (lv : Nat) : (opsL lv).length ≤ 6 := by
 unfold opsL
 split <;> decide
theorem ov_none {lv : Nat} {q : Sg} {ov : Option UInt8} (h : ∀ op,ov = some op → opF (opsL lv) q = some op) (e : (((ov.getD 0).toNat : Nat) : Int) = 0) : ov = none := by
 cases ov with
 | none => rfl
 | some op =>
  have h1 := h op rfl
  unfold opF at h1
  obtain ⟨x,hx,rfl⟩ := Option.map_eq_some_iff.1 h1
  exact absurd (show x.2.toNat = 0 by simpa using e) (opsL_nz lv x (List.mem_of_find?_eq_some hx))
set_option maxRecDepth 100000 in
theorem opers_r (H : Hp) (lv : Nat) (hl : lv ≤ 4) (w : World) (hA : Agr H w) :
 Calls Tryz.prog 53 #[.int .i64 (lv : Nat)] w fun r w' => ∃ (z : Nat × Nat) (H' : Hp),(MemAt H' z.1 0 ((opsL lv).map fun x => strV x.1) ∧ MemAt H' z.2 0 ((opsL lv).map fun x => .int .i64 x.2.toNat)) ∧ r = .returned (.tuple #[.slice (some ⟨z.1,0,none⟩) (opsL lv).length (opsL lv).length,.slice (some ⟨z.2,0,none⟩) (opsL lv).length (opsL lv).length]) ∧ Grow H w H' w' := by
 refine Sx.enter (H := H) Tryz.func53 rfl Tryz.ntmps53 rfl hA ?_
 refine .sr<|.a Z Z<|.a Z Z<|.nt<|.sq<|.sr<|.m Z Z<|.nt<|.bk<|.sr<|.yv (.eql Z Z) Z<|.a Z Z<|.nt<|.cd Z (fun h5 => ?_) (fun h5 => ?_)
 ·try simp only [dt] at h5
  obtain rfl : lv = 0 := by omega
  refine .sr<|.bl Z (Fx.bsl52_1 _) Z fun b7 => ?_
  refine Sx.freezeBox fun H1 u1 m1 => ?_
  refine .bl Z (Fx.bsl129_1 _) Z fun b8 => ?_
  refine Sx.freezeBox fun H2 u2 m2 => ?_
  refine .a Z Z<|.a Z Z<|.nt<|.rt<|.bR<|.tR<|?_
  refine Sx.retN (.inl rfl) rfl (.cons (.tmp rfl) (.cons (.tmp rfl) .nil)) rfl fun W s => ⟨(b7,b8),H2,⟨m1.up u2.up,m2⟩,rfl,(u1.trans u2).grow s⟩
 try simp only [df] at h5
 skip
 refine .sr<|.yv (.eql Z Z) Z<|.a Z Z<|.nt<|.cd Z (fun h9 => ?_) (fun h9 => ?_)
 ·try simp only [dt] at h9
  obtain rfl : lv = 1 := by omega
  refine .sr<|.bl Z (Fx.bsl52_1 _) Z fun b11 => ?_
  refine Sx.freezeBox fun H1 u1 m1 => ?_
  refine .bl Z (Fx.bsl129_1 _) Z fun b12 => ?_
  refine Sx.freezeBox fun H2 u2 m2 => ?_
  refine .a Z Z<|.a Z Z<|.nt<|.rt<|.bR<|.tR<|?_
  refine Sx.retN (.inl rfl) rfl (.cons (.tmp rfl) (.cons (.tmp rfl) .nil)) rfl fun W s => ⟨(b11,b12),H2,⟨m1.up u2.up,m2⟩,rfl,(u1.trans u2).grow s⟩
 try simp only [df] at h9
 skip
 refine .sr<|.yv (.eql Z Z) Z<|.a Z Z<|.nt<|.cd Z (fun h13 => ?_) (fun h13 => ?_)
 ·try simp only [dt] at h13
  obtain rfl : lv = 2 := by omega
  refine .sr<|.bl Z (Fx.bsl52_6 _ _ _ _ _ _) Z fun b15 => ?_
  refine Sx.freezeBox fun H1 u1 m1 => ?_
  refine .bl Z (Fx.bsl129_6 _ _ _ _ _ _) Z fun b16 => ?_
  refine Sx.freezeBox fun H2 u2 m2 => ?_
  refine .a Z Z<|.a Z Z<|.nt<|.rt<|.bR<|.tR<|?_
  refine Sx.retN (.inl rfl) rfl (.cons (.tmp rfl) (.cons (.tmp rfl) .nil)) rfl fun W s => ⟨(b15,b16),H2,⟨m1.up u2.up,m2⟩,rfl,(u1.trans u2).grow s⟩
 try simp only [df] at h13
 skip
 refine .sr<|.yv (.eql Z Z) Z<|.a Z Z<|.nt<|.cd Z (fun h17 => ?_) (fun h17 => ?_)
 ·try simp only [dt] at h17
  obtain rfl : lv = 3 := by omega
  refine .sr<|.bl Z (Fx.bsl52_2 _ _) Z fun b19 => ?_
  refine Sx.freezeBox fun H1 u1 m1 => ?_
  refine .bl Z (Fx.bsl129_2 _ _) Z fun b20 => ?_
  refine Sx.freezeBox fun H2 u2 m2 => ?_
  refine .a Z Z<|.a Z Z<|.nt<|.rt<|.bR<|.tR<|?_
  refine Sx.retN (.inl rfl) rfl (.cons (.tmp rfl) (.cons (.tmp rfl) .nil)) rfl fun W s => ⟨(b19,b20),H2,⟨m1.up u2.up,m2⟩,rfl,(u1.trans u2).grow s⟩
 try simp only [df] at h17
 obtain rfl : lv = 4 := by omega
 refine .sk<|.bN<|.tN<|.sr<|.bl Z (Fx.bsl52_3 _ _ _) Z fun b21 => ?_
 refine Sx.freezeBox fun H1 u1 m1 => ?_
 refine .bl Z (Fx.bsl129_3 _ _ _) Z fun b22 => ?_
 refine Sx.freezeBox fun H2 u2 m2 => ?_
 refine .a Z Z<|.a Z Z<|.nt<|.rt<|?_
 refine Sx.retN (.inl rfl) rfl (.cons (.tmp rfl) (.cons (.tmp rfl) .nil)) rfl fun W s => ⟨(b21,b22),H2,⟨m1.up u2.up,m2⟩,rfl,(u1.trans u2).grow s⟩
set_option maxRecDepth 100000 in
theorem expr_r (M lv : Nat) (hlv : lv ≤ 5) (hun : lv = 5 → ExV 52 [] (gX 5) M) (hop : lv < 5 → ExV 26 [.int .i64 ((lv + 1 : Nat) : Int)] (gX (lv + 1)) M) : ExV 26 [.int .i64 (lv : Nat)] (gX lv) M := by
 intro H w0 W bs b n t ts tp tc q K hq hmu s
 have hL6 := opsL_len lv
 refine Sx.enterS Tryz.func26 rfl Tryz.ntmps26 rfl s ?_
 refine .sr<|.al Fx.zero33 Z fun b4 => .nt<|.sq<|.sr<|.m Z Z<|.yv (.eql Z Z) Z<|.nt<|.cd Z (fun h12 => ?_) (fun h12 => ?_)
 ·try simp only [dt] at h12
  obtain rfl : lv = 5 := by omega
  refine .sr<|.m Z Z<|.cs (X := Ex × List Value × Hp) Fx.call52 Z (fun W s => hun Z K hq hmu (s.pickT (hd := [_,_]) (tl := bs) (hd' := [_,_]) [1,0] Z Z)) Z fun z1 hz1 => ?_
  obtain ⟨a1,c1,H1⟩ := z1
  obtain ⟨hv1,u1,r1⟩ := hz1
  dsimp only at hv1 u1 r1 ⊢
  obtain ⟨x1,x2,x3,x4,rfl⟩ := four (ex_len r1)
  have K1 := K.up u1.up
  refine .sW (.tail<|.head) Z Z Fx.size33 (Rep.one r1) Z<|.nt<|.rt<|.tR<|?_
  refine Sx.ret1 (.inl rfl) rfl (.cell rfl Fx.agg33 (.tail _<|.head _) rfl) fun W s => ?_
  exact ⟨(a1,[x1,x2,x3,x4],H1),⟨hv1,u1,r1⟩,rfl,s.pickT (hd := [_,_]) (tl := bs) (hd' := [_]) [0] rfl rfl⟩
 try simp only [df] at h12
 have hl : lv ≤ 4 := by omega
 refine .sk<|.tN<|.sr<|.m Z Z<|.m Z Z<|.yv (.add Z Z (c := ((lv + 1 : Nat) : Int)) ((w6 (by omega)).trans (by omega))) Z<|.cs (X := Ex × List Value × Hp) Fx.call26 Z (fun W s => hop (by omega) K hq hmu (s.pickT (hd := [_,_]) (tl := bs) (hd' := [_,_]) [1,0] Z Z)) Z fun z1 hz1 => ?_
 obtain ⟨a1,c1,H1⟩ := z1
 obtain ⟨hv1,u1,r1⟩ := hz1
 dsimp only at hv1 u1 r1 ⊢
 obtain ⟨x1,x2,x3,x4,rfl⟩ := four (ex_len r1)
 have K1 := K.up u1.up
 refine .al Fx.zero33 Z fun b5 => .sW .head Z Z Fx.size33 (Rep.one r1) Z<|.ns<|.m Z Z<|.ct (X := Nat × Nat) Fx.call53 Z (fun W s => opers_r H1 lv (by omega) W s.agr) Z fun zo H2 mo u2 => ?_
 obtain ⟨bw,bo⟩ := zo
 obtain ⟨mw,mo⟩ := mo
 dsimp only at mw mo ⊢
 have K2 := K1.up u2.up
 refine .m Z Z<|.yv (.extract Z Z) Z<|.yv (.extract Z Z) Z<|.a Z Z<|.a Z Z<|.nt<|.bk<|.lp (X := (Ex × Value × Value × Value × Value) × Hp × Sg) [(0,_),(1,_),(4,_),(5,_),(6,_),(7,_)] ⟨rfl,rfl,rfl,rfl,rfl,rfl,trivial⟩ (_ :: bs) (fun z => []) (fun z => z.2.1) (fun z => [.box b5 [z.1.2.1,z.1.2.2.1,z.1.2.2.2.1,z.1.2.2.2.2] 33,.box b [strV t,.slice tp ts.length tc,.int .i64 (posN ts z.2.2 : Nat),.int .i64 (z.2.2.o : Nat),.int .i64 (z.2.2.e : Nat)] 75]) (fun z => LfI n lv q z.1.1 z.2.2 ∧ HUp w0 H2 z.2.1 ∧ Rep z.2.1 (dEx .i64 z.1.1) [z.1.2.1,z.1.2.2.1,z.1.2.2.2.1,z.1.2.2.2.2] ∧ z.2.2.r <:+ ts) (fun z => z.2.2.mu) ((a1,x1,x2,x3,x4),H2,up n (gX (lv + 1)) q) (fun _ s => s) trivial ⟨LfI.start (by omega) hv1,.refl,r1.up u2.up,(Suf.ex _).up hq⟩ fun z hC => ?_
 obtain ⟨⟨a,y1,y2,y3,y4⟩,H3,q1⟩ := z
 obtain ⟨hI,u3,r3,hq1⟩ := hC
 dsimp only at hI u3 r3 hq1 ⊢
 have K3 := K2.up u3.up
 refine .bk<|.sr<|.a Z Z<|.nt<|.sq<|.sr<|.m Z Z<|.yv (.lenSl Fx.sl52 Z) Z<|.m Z Z<|.nt<|.bk<|.lp (X := Nat × Option UInt8) [(0,_),(1,_),(4,_),(5,_),(6,_),(7,_),(24,_),(25,_)] ⟨rfl,rfl,rfl,rfl,rfl,rfl,rfl,rfl,trivial⟩ (_ :: _ :: bs) (fun y => [(26,.int .i64 (y.1 : Nat)),(8,.int .i64 ((y.2.getD 0).toNat : Nat))]) (fun y => H3) (fun y => [.box b [strV t,.slice tp ts.length tc,.int .i64 (posN ts (qo y.2 q1) : Nat),.int .i64 ((qo y.2 q1).o : Nat),.int .i64 ((qo y.2 q1).e : Nat)] 75]) (fun y => y.1 ≤ (opsL lv).length ∧ (y.2 = none → ∀ i,i < y.1 → ∀ x,(opsL lv)[i]? = some x → ac x.1 q1 = false) ∧ (∀ op,y.2 = some op → opF (opsL lv) q1 = some op)) (fun y => (opsL lv).length - y.1) (0,none) (fun _ s => (s.pickT (hd := [_,_,_]) (tl := bs) (hd' := [_,_,_]) [1,0,2] Z Z)) ⟨rfl,rfl,trivial⟩ ⟨Nat.zero_le _,fun _ i hi => absurd hi (Nat.not_lt_zero _),fun op h => (by cases h)⟩ fun y hC => ?_
 obtain ⟨k,ov⟩ := y
 obtain ⟨hk0,hnone,hsome⟩ := hC
 dsimp only at hk0 hnone hsome ⊢
 refine .sr<|.yv (.lss Z Z) Z<|.nt<|.sq<|.cd Z (fun h27 => ?_) (fun h27 => ?_)
 ·try simp only [dt] at h27
  have hk : k < (opsL lv).length := by omega
  refine .sk<|.tN<|.sq<|.bk<|.sr<|.m Z Z<|.yv (.indexSl Fx.sl52 Z Z Z (by omega) (q := k) (by omega)) Z<|.yv (.loadM Z Fx.agg9 (mw.up u3.up) (k := k) (v := strV (opsL lv)[k].1) (by omega) (map_at (f := fun x : Str × UInt8 => strV x.1) hk)) Z<|.a Z Z<|.a Z Z<|.ns<|.m Z Z<|.yv (.eql Z Z) Z<|.m Z Z<|.b2 (fun h33 => ?_) (fun h33 => ?_)
  ·try simp only [dt] at h33
   obtain rfl := ov_none hsome (by omega)
   refine .gd Z Z<|.yv (.move Z) Z<|.gd Z Z<|.yv (.move Z) Z<|.gd Z Z<|.cs (X := Unit) Fx.call54 Z (fun W s => take_r K3 hq1 (opsL lv)[k].1 (s.pickT (hd := [_,_,_]) (tl := bs) (hd' := [_,_,_]) [0,1,2] Z Z)) Z fun _ _ => .yv (.pickT Z Z) Z<|.nt<|.cd Z (fun h37 => ?_) (fun h37 => ?_)
   ·rw [acS_T h37]
    exact .rg<|.m Z Z<|.m Z Z<|.yv (.indexSl Fx.sl129 Z Z Z (by omega) (q := k) (by omega)) Z<|.yv (.loadM Z Fx.agg3 (mo.up u3.up) (k := k) (v := .int .i64 ((opsL lv)[k].2.toNat : Nat)) (by omega) (map_at (f := fun x : Str × UInt8 => Value.int .i64 x.2.toNat) hk)) Z<|.a Z Z<|.nl<|.bN<|.tN<|.rg<|.yv (.add Z Z (w6 (by omega))) Z<|.m Z Z<|.nt<|.ag (x := (k,none)) (k + 1,some (opsL lv)[k].2) ⟨rfl,rfl,trivial⟩ ⟨rfl,rfl,rfl,rfl,rfl,rfl,rfl,rfl,trivial⟩ (fun _ s => s) ⟨by show k + 1 ≤ _;omega,fun h => (by cases h),fun op h => (by cases h;exact opF_at hk (hnone Z) h37)⟩ (by show (opsL lv).length - (k + 1) < (opsL lv).length - k;omega)
   rw [acS_F h37]
   exact .sk<|.bN<|.tN<|.rg<|.yv (.add Z Z (w6 (by omega))) Z<|.m Z Z<|.nt<|.ag (x := (k,none)) (k + 1,none) ⟨rfl,rfl,trivial⟩ ⟨rfl,rfl,rfl,rfl,rfl,rfl,rfl,rfl,trivial⟩ (fun _ s => s) ⟨by show k + 1 ≤ _;omega,fun _ i hi x hx => (by
   by_cases hik : i = k
   ·subst hik
    rw [List.getElem?_eq_getElem hk] at hx
    cases hx
    exact h37
   ·exact hnone rfl i (by omega) x hx),fun op h => (by cases h)⟩ (by show (opsL lv).length - (k + 1) < (opsL lv).length - k;omega)
  try simp only [df] at h33
  have hz : ov ≠ none := fun e => by subst e;exact h33 rfl
  exact .gF Z Z Z Z<|.gF Z Z Z Z<|.gF Z Z Z Z<|.yv (.pickF Z Z) Z<|.nt<|.cF Z<|.sk<|.bN<|.tN<|.rg<|.yv (.add Z Z (w6 (by omega))) Z<|.m Z Z<|.nt<|.ag (x := (k,ov)) (k + 1,ov) ⟨rfl,rfl,trivial⟩ ⟨rfl,rfl,rfl,rfl,rfl,rfl,rfl,rfl,trivial⟩ (fun _ s => s) ⟨by show k + 1 ≤ _;omega,fun h => absurd h hz,hsome⟩ (by show (opsL lv).length - (k + 1) < (opsL lv).length - k;omega)
 try simp only [df] at h27
 obtain rfl : k = (opsL lv).length := by omega
 refine .ex<|.tE<|.tE<|.bE<|.tN<|.sq<|.sr<|.m Z Z<|.yv (.eql Z Z) Z<|.nt<|.cd Z (fun h44 => ?_) (fun h44 => ?_)
 ·try simp only [dt] at h44
  obtain rfl := ov_none hsome (by omega)
  have hN : opF (opsL lv) q1 = none := opF_none (hnone rfl)
  obtain ⟨e1,hv⟩ := hI.stop hN
  rw [e1]
  refine .sr<|.yv (.loadW Z Fx.agg33 (.tail _<|.head _) Z) Z<|.sW (.tail<|.tail<|.head) Z Z Fx.size33 (Rep.one r3) Z<|.nt<|.rt<|.tR<|.bR<|.tR<|.bR<|?_
  refine Sx.ret1 (.inl rfl) rfl (.cell rfl Fx.agg33 (.tail _<|.tail _<|.head _) rfl) fun W s => ?_
  exact ⟨(a,[y1,y2,y3,y4],H3),⟨hv,u1.trans (u2.trans u3),r3⟩,rfl,s.pickT (hd := [_,_,_]) (tl := bs) (hd' := [_]) [0] rfl rfl⟩
 try simp only [df] at h44
 have hz : ov ≠ none := fun e => by subst e;exact h44 rfl
 obtain ⟨op,rfl⟩ := Option.ne_none_iff_exists'.1 hz
 have hS := hsome op rfl
 have hmu1 : q1.tl.mu < M := by have := opF_mu hS;have := hI.mu;omega
 refine .sk<|.tN<|.sq<|.fl (trip := [(_,_,_),(_,_,_),(_,_,_),(_,_,_),(_,_,_),(_,_,_),(_,_,_),(_,_,_)]) 8 [(0,0),(1,0),(2,0),(3,0),(4,0),(5,3),(6,1),(7,0)] (by kernel_rfl) (by kernel_rfl) Z<|.m Z Z<|.yv (.loadW Z Fx.agg33 (.tail _<|.head _) Z) Z<|.m Z Z<|.m Z Z<|.yv (.add Z Z (c := ((lv + 1 : Nat) : Int)) ((w6 (by omega)).trans (by omega))) Z<|.c3 (X := Ex × List Value × Hp) Fx.call26 Z (fun W s => hop (by omega) K3 (Suf.tl hq1) hmu1 (s.pickT (hd := [_,_,_]) (tl := bs) (hd' := [_,_,_]) [0,1,2] Z Z)) Z (fun _ _ => (.done (by kernel_rfl)<|.done (by kernel_rfl)<|.done (by kernel_rfl)<|.yv (.loadW Z Fx.agg33 (.tail _<|.head _) Z)<|.yv (.move Z)<|.nl)) fun z4 hz4 => ?_
 obtain ⟨a2,c2,H4⟩ := z4
 obtain ⟨hv4,u4,r4⟩ := hz4
 dsimp only at hv4 u4 r4 ⊢
 obtain ⟨w1,w2,w3,w4,rfl⟩ := four (ex_len r4)
 refine .blF Z (Fx.bsl31_2 _ _ _ _ _ _ _ _) Z fun b52 H5 u5 m5 => .yv (.build Z (Fx.bld33_0_3 _ _ _ _)) Z<|.fn (tl := [_]) Z<|.sW (.tail<|.head) Z Z Fx.size33 (by simp [Value.oneCell']) Z<|.ns<|.m Z Z<|.yv (.eql Z Z) Z<|.nt<|.cd Z (fun h55 => ?_) (fun h55 => ?_)
 ·try simp only [dt] at h55
  obtain rfl : lv = 2 := by omega
  refine .sr<|.yv (.loadW Z Fx.agg33 (.tail _<|.head _) Z) Z<|.sW (.tail<|.tail<|.head) Z Z Fx.size33 (by simp [Value.oneCell']) Z<|.nt<|.rt<|.bR<|.tR<|.bR<|?_
  refine Sx.ret1 (.inl rfl) rfl (.cell rfl Fx.agg33 (.tail _<|.tail _<|.head _) rfl) fun W s => ?_
  rw [← (hI.fin (n := n) hS hv4).1]
  exact ⟨(opE op [a,a2],[.int .i64 op.toNat,.string ⟨#[]⟩,.int .i64 0,.slice (some ⟨b52,0,none⟩) 2 2],H5),⟨(hI.fin hS hv4).2,u1.trans (u2.trans (u3.trans (u4.trans u5))),ex_shut (op := op) (nm := []) (n := 0) (args := [a,a2]) (by decide) (Rep.mk (n := 2) (c := 2) m5 (RepZ.app (RepZ.single (r3.up (u4.trans u5).up) rfl) (RepZ.single (r4.up u5.up) rfl)) rfl (Nat.le_refl _) (by decide))⟩,rfl,s.pickT (hd := [_,_,_]) (tl := bs) (hd' := [_]) [0] rfl rfl⟩
 try simp only [df] at h55
 have hne : lv ≠ 2 := by omega
 exact .sk<|.bN<|.tN<|.ag (x := ((a,y1,y2,y3,y4),H3,q1)) ((opE op [a,a2],.int .i64 op.toNat,.string ⟨#[]⟩,.int .i64 0,.slice (some ⟨b52,0,none⟩) 2 2),H5,up n (gX (lv + 1)) q1.tl) trivial ⟨rfl,rfl,rfl,rfl,rfl,rfl,trivial⟩ (fun _ s => (s.pickT (hd := [_,_,_]) (tl := bs) (hd' := [_,_,_]) [1,0,2] Z Z)) ⟨(hI.step hl hne hS hv4).1,u3.trans (u4.trans u5),ex_shut (op := op) (nm := []) (n := 0) (args := [a,a2]) (by decide) (Rep.mk (n := 2) (c := 2) m5 (RepZ.app (RepZ.single (r3.up (u4.trans u5).up) Z) (RepZ.single (r4.up u5.up) Z)) Z (Nat.le_refl _) (by decide)),(Suf.ex _).up (Suf.tl hq1)⟩ (hI.step hl hne hS hv4).2
theorem un_r9 {n : Nat} {q : Sg} {a : Ex} (h1 : ac [45] q = true) (hv : vl (gX 5) q.tl a) : up n (gX 5) q = up n (gX 5) q.tl ∧ vl (gX 5) q (opE 9 [a]) :=
 ⟨by conv => lhs;rw [gX_un,up_altT h1,up_map],by rw [gX_un];exact vl_altT h1 (vl_map (f := fun x => opE 9 [x]) hv)⟩
theorem un_r10 {n : Nat} {q : Sg} {a : Ex} (h1 : ac [45] q = false) (h2 : ac [110,111,116] q = true) (hv : vl (gX 5) q.tl a) : up n (gX 5) q = up n (gX 5) q.tl ∧ vl (gX 5) q (opE 10 [a]) :=
 ⟨by conv => lhs;rw [gX_un,up_altF h1,up_altT h2,up_map],by rw [gX_un];exact vl_altF h1 (vl_altT h2 (vl_map (f := fun x => opE 10 [x]) hv))⟩
theorem un_r0 {n : Nat} {q : Sg} {a : Ex} (h1 : ac [45] q = false) (h2 : ac [110,111,116] q = false) (hv : vl gPrim q a) : up n (gX 5) q = up n gPrim q ∧ vl (gX 5) q a := by
 rw [gX_un,prim_eq]
 exact ⟨by rw [up_altF h1,up_altF h2],vl_altF h1 (vl_altF h2 hv)⟩
set_option maxRecDepth 100000 in
theorem unary_r (M : Nat) (hun : ExV 52 [] (gX 5) M) (hprim : ExV 94 [] gPrim (M + 1)) : ExV 52 [] (gX 5) (M + 1) := by
 intro H w0 W bs b n t ts tp tc q K hq hmu s
 refine Sx.enterS Tryz.func52 rfl Tryz.ntmps52 rfl s ?_
 refine .sr<|.al Fx.zero33 Z fun b2 => .nt<|.sq<|.sr<|.m Z Z<|.cs (X := Unit) Fx.call54 Z (fun W s => take_r K hq [45] (s.pickT (hd := [_,_]) (tl := bs) (hd' := [_,_]) [1,0] Z Z)) Z fun _ _ => .nt<|.cd Z (fun h4 => ?_) (fun h4 => ?_)
 ·rw [acS_T h4]
  have hlt := mu_tl h4
  refine .sr<|.m Z Z<|.cs (X := Ex × List Value × Hp) Fx.call52 Z (fun W s => hun K (Suf.tl hq) (by omega) (s.pickT (hd := [_,_]) (tl := bs) (hd' := [_,_]) [0,1] Z Z)) Z fun z1 hz1 => ?_
  obtain ⟨a1,c1,H1⟩ := z1
  obtain ⟨hv1,u1,r1⟩ := hz1
  dsimp only at hv1 u1 r1 ⊢
  obtain ⟨x1,x2,x3,x4,rfl⟩ := four (ex_len r1)
  have K1 := K.up u1.up
  refine .bl Z (Fx.bsl31_1 _ _ _ _) Z fun b7 => ?_
  refine Sx.freezeBox fun H2 u2 m2 => ?_
  refine .yv (.build Z (Fx.bld33_0_3 _ _ _ _)) Z<|.sW (.tail<|.head) Z Z Fx.size33 (by simp [Value.oneCell']) Z<|.nt<|.rt<|.tR<|?_
  refine Sx.ret1 (.inl rfl) rfl (.cell rfl Fx.agg33 (.tail _<|.head _) rfl) fun W s => ?_
  rw [(un_r9 (n := n) h4 hv1).1]
  exact ⟨(opE 9 [a1],[.int .i64 9,.string ⟨#[]⟩,.int .i64 0,.slice (some ⟨b7,0,none⟩) 1 1],H2),⟨(un_r9 (n := n) h4 hv1).2,u1.trans u2,ex_shut (op := 9) (nm := []) (n := 0) (args := [a1]) (by decide) (Rep.mk (n := 1) (c := 1) m2 (.single (r1.up u2.up) rfl) rfl (Nat.le_refl _) (by decide))⟩,rfl,s.pickT (hd := [_,_]) (tl := bs) (hd' := [_]) [0] rfl rfl⟩
 rw [acS_F h4]
 refine .sk<|.tN<|.sq<|.sr<|.m Z Z<|.cs (X := Unit) Fx.call54 Z (fun W s => take_r K hq [110,111,116] (s.pickT (hd := [_,_]) (tl := bs) (hd' := [_,_]) [0,1] Z Z)) Z fun _ _ => .nt<|.cd Z (fun h10 => ?_) (fun h10 => ?_)
 ·rw [acS_T h10]
  have hlt := mu_tl h10
  refine .sr<|.m Z Z<|.cs (X := Ex × List Value × Hp) Fx.call52 Z (fun W s => hun K (Suf.tl hq) (by omega) (s.pickT (hd := [_,_]) (tl := bs) (hd' := [_,_]) [0,1] Z Z)) Z fun z1 hz1 => ?_
  obtain ⟨a1,c1,H1⟩ := z1
  obtain ⟨hv1,u1,r1⟩ := hz1
  dsimp only at hv1 u1 r1 ⊢
  obtain ⟨x1,x2,x3,x4,rfl⟩ := four (ex_len r1)
  have K1 := K.up u1.up
  refine .bl Z (Fx.bsl31_1 _ _ _ _) Z fun b13 => ?_
  refine Sx.freezeBox fun H2 u2 m2 => ?_
  refine .yv (.build Z (Fx.bld33_0_3 _ _ _ _)) Z<|.sW (.tail<|.head) Z Z Fx.size33 (by simp [Value.oneCell']) Z<|.nt<|.rt<|.tR<|?_
  refine Sx.ret1 (.inl rfl) rfl (.cell rfl Fx.agg33 (.tail _<|.head _) rfl) fun W s => ?_
  rw [(un_r10 (n := n) h4 h10 hv1).1]
  exact ⟨(opE 10 [a1],[.int .i64 10,.string ⟨#[]⟩,.int .i64 0,.slice (some ⟨b13,0,none⟩) 1 1],H2),⟨(un_r10 (n := n) h4 h10 hv1).2,u1.trans u2,ex_shut (op := 10) (nm := []) (n := 0) (args := [a1]) (by decide) (Rep.mk (n := 1) (c := 1) m2 (.single (r1.up u2.up) rfl) rfl (Nat.le_refl _) (by decide))⟩,rfl,s.pickT (hd := [_,_]) (tl := bs) (hd' := [_]) [0] rfl rfl⟩
 rw [acS_F h10]
 refine .sk<|.tN<|.sr<|.m Z Z<|.cs (X := Ex × List Value × Hp) Fx.call94 Z (fun W s => hprim K hq hmu (s.pickT (hd := [_,_]) (tl := bs) (hd' := [_,_]) [0,1] Z Z)) Z fun z1 hz1 => ?_
 obtain ⟨a1,c1,H1⟩ := z1
 obtain ⟨hv1,u1,r1⟩ := hz1
 dsimp only at hv1 u1 r1 ⊢
 obtain ⟨x1,x2,x3,x4,rfl⟩ := four (ex_len r1)
 have K1 := K.up u1.up
 refine .sW (.tail<|.head) Z Z Fx.size33 (Rep.one r1) Z<|.nt<|.rt<|?_
 refine Sx.ret1 (.inl rfl) rfl (.cell rfl Fx.agg33 (.tail _<|.head _) rfl) fun W s => ?_
 rw [(un_r0 (n := n) h4 h10 hv1).1]
 exact ⟨(a1,[x1,x2,x3,x4],H1),⟨(un_r0 (n := n) h4 h10 hv1).2,u1,r1⟩,rfl,s.pickT (hd := [_,_]) (tl := bs) (hd' := [_]) [0] rfl rfl⟩
theorem Fx.call25 : callN Tryz.prog 25 = Bool.true := by kernel_rfl
theorem Fx.call27 : callN Tryz.prog 27 = Bool.true := by kernel_rfl
theorem Fx.call96 : callN Tryz.prog 96 = Bool.true := by kernel_rfl
theorem Fx.call97 : callN Tryz.prog 97 = Bool.true := by kernel_rfl
theorem Fx.call99 : callN Tryz.prog 99 = Bool.true := by kernel_rfl
theorem Fx.size31 : sizeN Tryz.prog 31 = Option.some 1 := by kernel_rfl
theorem Fx.bld33  : buildN Tryz.prog 33 [] = some [.int .i64 0,.string ⟨#[]⟩,.int .i64 0,.slice none 0 0] := by kernel_rfl
theorem Fx.bld33_0 (x0 : Int) : buildN Tryz.prog 33 [(0,.int .i64 x0)] = some [.int .i64 x0,.string ⟨#[]⟩,.int .i64 0,.slice none 0 0] := by kernel_rfl
theorem Fx.bld33_0_1 (x0 : Int) (x1 : ByteArray) : buildN Tryz.prog 33 [(0,.int .i64 x0),(1,.string x1)] = some [.int .i64 x0,.string x1,.int .i64 0,.slice none 0 0] := by kernel_rfl
theorem Fx.bld33_0_2 (x0 : Int) (x2 : Int) : buildN Tryz.prog 33 [(0,.int .i64 x0),(2,.int .i64 x2)] = some [.int .i64 x0,.string ⟨#[]⟩,.int .i64 x2,.slice none 0 0] := by kernel_rfl
theorem ac_k3 {n : Nat} {w : Str} {q : Sg} (h : decide ((((tkH n q.r).k.toNat : Nat) : Int) = 3) = true) : ac w q = false := by
 have h := of_decide_eq_true h
 rw [ac_k (n := n),decide_eq_false (show ¬ (((tkH n q.r).k.toNat : Nat) : Int) = 2 by omega),decide_eq_false (show ¬ (((tkH n q.r).k.toNat : Nat) : Int) = 4 by omega)]
 simp
set_option maxRecDepth 100000 in
theorem primary_r (M : Nat) (hex : ExV 26 [.int .i64 ((0 : Nat) : Int)] (gX 0) M) : ExV 94 [] gPrim (M + 1) := by
 intro H w0 W bs b n t ts tp tc q K hq hmu s
 refine Sx.enterS Tryz.func94 rfl Tryz.ntmps94 rfl s ?_
 refine .sr<|.al Fx.zero33 Z fun b2 => .nt<|.sq<|.sr<|.m Z Z<|.yv (.nilCheck Z) Z<|.yv (.fieldAddr Z Fx.field75_4) Z<|.yv (.load Z Fx.agg3 (.tail _<|.head _) Z) Z<|.yv (.neq Z Z) Z<|.nt<|.cd Z (fun h10 => ?_) (fun h10 => ?_)
 ·try simp only [dt] at h10
  have h0 : ¬ q.e = 0 := by omega
  refine .sr<|.yv (.build Z Fx.bld33) Z<|.sW .head Z Z Fx.size33 (by simp [Value.oneCell',strV]) Z<|.nt<|.rt<|.tR<|?_
  refine Sx.ret1 (.inl rfl) rfl (.cell rfl Fx.agg33 (.head _) rfl) fun W s => ?_
  rw [up_er h0]
  exact ⟨(opE 0 [],[.int .i64 0,.string ⟨#[]⟩,.int .i64 0,.slice none 0 0],H),⟨vl_er h0,.refl,ex_shut (op := 0) (nm := []) (n := 0) (args := []) (by decide) (Rep.empty (p := none) (c := 0) (by decide))⟩,rfl,s.pickT (hd := [_,_]) (tl := bs) (hd' := [_]) [1] rfl rfl⟩
 try simp only [df] at h10
 have h0 : q.e = 0 := by omega
 refine .sk<|.tN<|.sq<|.bk<|.sr<|.m Z Z<|.cs (X := Unit) Fx.call55 Z (fun W s => tok_r K hq  (s.pickT (hd := [_,_]) (tl := bs) (hd' := [_,_]) [1,0] Z Z)) Z fun _ _ => .yv (.fld Z (fld_tr0 _ _ _)) Z<|.yv (.eql Z Z) Z<|.a Z Z<|.nt<|.cd Z (fun h12 => ?_) (fun h12 => ?_)
 ·skip
  refine .sr<|.m Z Z<|.cs (X := Int64) Fx.call99 Z (fun W s => number_r K hq  (s.pickT (hd := [_,_]) (tl := bs) (hd' := [_,_]) [0,1] Z Z)) Z fun nu hnu => .yv (.build Z (Fx.bld33_0_2 _ _)) Z<|.sW (.tail<|.head) Z Z Fx.size33 (by simp [Value.oneCell',strV]) Z<|.nt<|.rt<|.bR<|.tR<|?_
  refine Sx.ret1 (.inl rfl) rfl (.cell rfl Fx.agg33 (.tail _<|.head _) rfl) fun W s => ?_
  rw [show up n gPrim q = up n gNu q by unfold gPrim;rw [up_altF (ac_k3 h12),up_altF (ac_k3 h12),up_altF (ac_k3 h12),up_altF (ac_k3 h12),up_altF (ac_k3 h12),up_altF (ac_k3 h12)];exact last_numU h12]
  exact ⟨(.mk 1 [] nu [],[.int .i64 1,.string ⟨#[]⟩,.int .i64 nu.toInt,.slice none 0 0],H),⟨(by unfold gPrim;exact vl_altF (ac_k3 h12) (vl_altF (ac_k3 h12) (vl_altF (ac_k3 h12) (vl_altF (ac_k3 h12) (vl_altF (ac_k3 h12) (vl_altF (ac_k3 h12) (last_num h12 hnu))))))),.refl,ex_shut (op := 1) (nm := []) (n := nu) (args := []) (by decide) (Rep.empty (p := none) (c := 0) (by decide))⟩,rfl,s.pickT (hd := [_,_]) (tl := bs) (hd' := [_]) [0] rfl rfl⟩
 skip
 refine .sr<|.m Z Z<|.cs (X := Unit) Fx.call54 Z (fun W s => take_r K hq [116,114,117,101] (s.pickT (hd := [_,_]) (tl := bs) (hd' := [_,_]) [0,1] Z Z)) Z fun _ _ => .a Z Z<|.nt<|.cd Z (fun h20 => ?_) (fun h20 => ?_)
 ·rw [acS_T h20]
  refine .sr<|.yv (.build Z (Fx.bld33_0 _)) Z<|.sW (.tail<|.head) Z Z Fx.size33 (by simp [Value.oneCell',strV]) Z<|.nt<|.rt<|.bR<|.tR<|?_
  refine Sx.ret1 (.inl rfl) rfl (.cell rfl Fx.agg33 (.tail _<|.head _) rfl) fun W s => ?_
  rw [show up n gPrim q = q.tl by unfold gPrim;rw [up_altT h20,up_pure]]
  exact ⟨(opE 2 [],[.int .i64 2,.string ⟨#[]⟩,.int .i64 0,.slice none 0 0],H),⟨(by unfold gPrim;exact vl_altT h20 (vl_pure)),.refl,ex_shut (op := 2) (nm := []) (n := 0) (args := []) (by decide) (Rep.empty (p := none) (c := 0) (by decide))⟩,rfl,s.pickT (hd := [_,_]) (tl := bs) (hd' := [_]) [0] rfl rfl⟩
 rw [acS_F h20]
 refine .sr<|.m Z Z<|.cs (X := Unit) Fx.call54 Z (fun W s => take_r K hq [102,97,108,115,101] (s.pickT (hd := [_,_]) (tl := bs) (hd' := [_,_]) [0,1] Z Z)) Z fun _ _ => .a Z Z<|.nt<|.cd Z (fun h24 => ?_) (fun h24 => ?_)
 ·rw [acS_T h24]
  refine .sr<|.yv (.build Z (Fx.bld33_0 _)) Z<|.sW (.tail<|.head) Z Z Fx.size33 (by simp [Value.oneCell',strV]) Z<|.nt<|.rt<|.bR<|.tR<|?_
  refine Sx.ret1 (.inl rfl) rfl (.cell rfl Fx.agg33 (.tail _<|.head _) rfl) fun W s => ?_
  rw [show up n gPrim q = q.tl by unfold gPrim;rw [up_altF h20,up_altT h24,up_pure]]
  exact ⟨(opE 3 [],[.int .i64 3,.string ⟨#[]⟩,.int .i64 0,.slice none 0 0],H),⟨(by unfold gPrim;exact vl_altF h20 (vl_altT h24 (vl_pure))),.refl,ex_shut (op := 3) (nm := []) (n := 0) (args := []) (by decide) (Rep.empty (p := none) (c := 0) (by decide))⟩,rfl,s.pickT (hd := [_,_]) (tl := bs) (hd' := [_]) [0] rfl rfl⟩
 rw [acS_F h24]
 refine .sr<|.m Z Z<|.cs (X := Unit) Fx.call54 Z (fun W s => take_r K hq [110,111,119] (s.pickT (hd := [_,_]) (tl := bs) (hd' := [_,_]) [0,1] Z Z)) Z fun _ _ => .a Z Z<|.nt<|.cd Z (fun h28 => ?_) (fun h28 => ?_)
 ·rw [acS_T h28]
  refine .sr<|.yv (.build Z (Fx.bld33_0 _)) Z<|.sW (.tail<|.head) Z Z Fx.size33 (by simp [Value.oneCell',strV]) Z<|.nt<|.rt<|.bR<|.tR<|?_
  refine Sx.ret1 (.inl rfl) rfl (.cell rfl Fx.agg33 (.tail _<|.head _) rfl) fun W s => ?_
  rw [show up n gPrim q = q.tl by unfold gPrim;rw [up_altF h20,up_altF h24,up_altT h28,up_pure]]
  exact ⟨(opE 4 [],[.int .i64 4,.string ⟨#[]⟩,.int .i64 0,.slice none 0 0],H),⟨(by unfold gPrim;exact vl_altF h20 (vl_altF h24 (vl_altT h28 (vl_pure)))),.refl,ex_shut (op := 4) (nm := []) (n := 0) (args := []) (by decide) (Rep.empty (p := none) (c := 0) (by decide))⟩,rfl,s.pickT (hd := [_,_]) (tl := bs) (hd' := [_]) [0] rfl rfl⟩
 rw [acS_F h28]
 refine .sr<|.m Z Z<|.cs (X := Unit) Fx.call54 Z (fun W s => take_r K hq [115,105,122,101] (s.pickT (hd := [_,_]) (tl := bs) (hd' := [_,_]) [0,1] Z Z)) Z fun _ _ => .a Z Z<|.nt<|.cd Z (fun h32 => ?_) (fun h32 => ?_)
 ·rw [acS_T h32]
  refine .sr<|.m Z Z<|.cs (X := Str) Fx.call97 Z (fun W s => name_r K (Suf.tl hq)  (s.pickT (hd := [_,_]) (tl := bs) (hd' := [_,_]) [0,1] Z Z)) Z fun nm hnm => .yv (.build Z (Fx.bld33_0_1 _ _)) Z<|.sW (.tail<|.head) Z Z Fx.size33 (by simp [Value.oneCell',strV]) Z<|.nt<|.rt<|.bR<|.tR<|?_
  refine Sx.ret1 (.inl rfl) rfl (.cell rfl Fx.agg33 (.tail _<|.head _) rfl) fun W s => ?_
  rw [show up n gPrim q = up n gNm q.tl by unfold gPrim;rw [up_altF h20,up_altF h24,up_altF h28,up_altT h32,up_map]]
  exact ⟨(.mk 8 nm 0 [],[.int .i64 8,strV nm,.int .i64 0,.slice none 0 0],H),⟨(by unfold gPrim;exact vl_altF h20 (vl_altF h24 (vl_altF h28 (vl_altT h32 (vl_map (f := fun s => Ex.mk 8 s 0 []) hnm.1))))),.refl,ex_shut (op := 8) (nm := nm) (n := 0) (args := []) hnm.2 (Rep.empty (p := none) (c := 0) (by decide))⟩,rfl,s.pickT (hd := [_,_]) (tl := bs) (hd' := [_]) [0] rfl rfl⟩
 rw [acS_F h32]
 refine .sr<|.m Z Z<|.cs (X := Unit) Fx.call54 Z (fun W s => take_r K hq [40] (s.pickT (hd := [_,_]) (tl := bs) (hd' := [_,_]) [0,1] Z Z)) Z fun _ _ => .a Z Z<|.nt<|.cd Z (fun h38 => ?_) (fun h38 => ?_)
 ·rw [acS_T h38]
  have hlt := mu_tl h38
  refine .sr<|.m Z Z<|.cs (X := Ex × List Value × Hp) Fx.call26 Z (fun W s => hex K (Suf.tl hq) (by omega) (s.pickT (hd := [_,_]) (tl := bs) (hd' := [_,_]) [0,1] Z Z)) Z fun z1 hz1 => ?_
  obtain ⟨a1,c1,H1⟩ := z1
  obtain ⟨hv1,u1,r1⟩ := hz1
  dsimp only at hv1 u1 r1 ⊢
  obtain ⟨x1,x2,x3,x4,rfl⟩ := four (ex_len r1)
  have K1 := K.up u1.up
  refine .al Fx.zero33 Z fun b3 => .sW .head Z Z Fx.size33 (Rep.one r1) Z<|.ns<|.m Z Z<|.cs (X := Unit) Fx.call96 Z (fun W s => need_r K1 ((Suf.ex _).up (Suf.tl hq)) [41] (s.pickT (hd := [_,_,_]) (tl := bs) (hd' := [_,_,_]) [1,0,2] Z Z)) Z fun _ _ => .ns<|.yv (.loadW Z Fx.agg33 (.tail _<|.head _) Z) Z<|.sW (.tail<|.tail<|.head) Z Z Fx.size33 (Rep.one r1) Z<|.nt<|.rt<|.bR<|.tR<|?_
  refine Sx.ret1 (.inl rfl) rfl (.cell rfl Fx.agg33 (.tail _<|.tail _<|.head _) rfl) fun W s => ?_
  rw [show up n gPrim q = up n (gNd [41]) (up n (gX 0) q.tl) by unfold gPrim;rw [up_altF h20,up_altF h24,up_altF h28,up_altF h32,up_altF (ac_ne (w := [40]) h38 (by decide)),up_altT h38,up_bind (Cz.ex _) hv1,up_bind (x := ()) (Cz.nd _) vl_unit,up_pure]]
  exact ⟨(a1,[x1,x2,x3,x4],H1),⟨(by unfold gPrim;exact vl_altF h20 (vl_altF h24 (vl_altF h28 (vl_altF h32 (vl_altF (ac_ne (w := [40]) h38 (by decide)) (vl_altT h38 (vl_bind (n := n) hv1 (vl_bind (n := n) (x := ()) vl_unit vl_pure)))))))),u1,r1⟩,rfl,s.pickT (hd := [_,_,_]) (tl := bs) (hd' := [_]) [0] rfl rfl⟩
 rw [acS_F h38]
 refine .sr<|.m Z Z<|.cs (X := Unit) Fx.call54 Z (fun W s => take_r K hq [104,97,115] (s.pickT (hd := [_,_]) (tl := bs) (hd' := [_,_]) [0,1] Z Z)) Z fun _ _ => .a Z Z<|.nt<|.cd Z (fun h46 => ?_) (fun h46 => ?_)
 ·rw [acS_T h46]
  have hlt := mu_tl h46
  refine .sr<|.m Z Z<|.cs (X := Str) Fx.call97 Z (fun W s => name_r K (Suf.tl hq)  (s.pickT (hd := [_,_]) (tl := bs) (hd' := [_,_]) [0,1] Z Z)) Z fun nm hnm => .yv (.build Z (Fx.bld33_0_1 _ _)) Z<|.al Fx.zero33 Z fun b4 => .sW .head Z Z Fx.size33 (by simp [Value.oneCell',strV]) Z<|.ns<|.m Z Z<|.cs (X := Unit) Fx.call96 Z (fun W s => need_r K (Suf.nm.up (Suf.tl hq)) [91] (s.pickT (hd := [_,_,_]) (tl := bs) (hd' := [_,_,_]) [1,0,2] Z Z)) Z fun _ _ => .ns<|.m Z Z<|.cs (X := Ex × List Value × Hp) Fx.call26 Z (fun W s => hex K ((Suf.nd _).up (Suf.nm.up (Suf.tl hq))) (by have h1 := mu_up (n := n) (s := q.tl) Shs.nm.le Cz.nm;have h2 := mu_up (n := n) (s := up n gNm q.tl) (Shs.nd [91]).le (Cz.nd [91]);omega) (s.pickT (hd := [_,_,_]) (tl := bs) (hd' := [_,_,_]) [0,1,2] Z Z)) Z fun z1 hz1 => ?_
  obtain ⟨a1,c1,H1⟩ := z1
  obtain ⟨hv1,u1,r1⟩ := hz1
  dsimp only at hv1 u1 r1 ⊢
  obtain ⟨x1,x2,x3,x4,rfl⟩ := four (ex_len r1)
  have K1 := K.up u1.up
  refine .bl Z (Fx.bsl31_1 _ _ _ _) Z fun b56 => ?_
  refine Sx.freezeBox fun H2 u2 m2 => ?_
  have K2 := K1.up u2.up
  refine .yv (.fieldAddr Z Fx.field33_3) Z<|.st (.tail<|.head) Z Z Fx.size31 Z (nb Z) Z<|.ns<|.m Z Z<|.cs (X := Unit) Fx.call96 Z (fun W s => need_r K2 ((Suf.ex _).up ((Suf.nd _).up (Suf.nm.up (Suf.tl hq)))) [93] (s.pickT (hd := [_,_,_]) (tl := bs) (hd' := [_,_,_]) [0,1,2] Z Z)) Z fun _ _ => .ns<|.yv (.loadW Z Fx.agg33 (.tail _<|.head _) Z) Z<|.sW (.tail<|.tail<|.head) Z Z Fx.size33 (by simp [Value.oneCell',strV]) Z<|.nt<|.rt<|.bR<|.tR<|?_
  refine Sx.ret1 (.inl rfl) rfl (.cell rfl Fx.agg33 (.tail _<|.tail _<|.head _) rfl) fun W s => ?_
  rw [show up n gPrim q = up n (gNd [93]) (up n (gX 0) (up n (gNd [91]) (up n gNm q.tl))) by unfold gPrim;rw [up_altF h20,up_altF h24,up_altF h28,up_altF h32,up_altT h46,up_bind Cz.nm hnm.1];exact (key_eq (n := n) 7 nm hv1).1]
  exact ⟨(.mk 7 nm 0 [a1],[.int .i64 7,strV nm,.int .i64 0,.slice (some ⟨b56,0,none⟩) 1 1],H2),⟨(by unfold gPrim;exact vl_altF h20 (vl_altF h24 (vl_altF h28 (vl_altF h32 (vl_altT h46 (vl_bind (n := n) hnm.1 (key_eq (n := n) 7 nm hv1).2)))))),u1.trans u2,ex_shut (op := 7) (nm := nm) (n := 0) (args := [a1]) hnm.2 (Rep.mk (n := 1) (c := 1) m2 (.single (r1.up u2.up) rfl) rfl (Nat.le_refl _) (by decide))⟩,rfl,s.pickT (hd := [_,_,_]) (tl := bs) (hd' := [_]) [0] rfl rfl⟩
 rw [acS_F h46]
 refine .sk<|.bN<|.tN<|.sr<|.m Z Z<|.cs (X := Str) Fx.call97 Z (fun W s => name_r K hq  (s.pickT (hd := [_,_]) (tl := bs) (hd' := [_,_]) [0,1] Z Z)) Z fun nm hnm => .yv (.build Z (Fx.bld33_0_1 _ _)) Z<|.al Fx.zero33 Z fun b5 => .sW .head Z Z Fx.size33 (by simp [Value.oneCell',strV]) Z<|.nt<|.sq<|.sr<|.m Z Z<|.cs (X := Unit) Fx.call54 Z (fun W s => take_r K (Suf.nm.up hq) [91] (s.pickT (hd := [_,_,_]) (tl := bs) (hd' := [_,_,_]) [1,0,2] Z Z)) Z fun _ _ => .nt<|.cd Z (fun h65 => ?_) (fun h65 => ?_)
 ·rw [acS_T h65]
  have hlt := mu_tl h65
  have hle := mu_up (n := n) (s := q) Shs.nm.le Cz.nm
  refine .sr<|.yv (.fieldAddr Z Fx.field33_0) Z<|.st (.tail<|.head) Z Z Fx.size3 Z (nb Z) Z<|.ns<|.m Z Z<|.cs (X := Ex × List Value × Hp) Fx.call26 Z (fun W s => hex K (Suf.tl (Suf.nm.up hq)) (by omega) (s.pickT (hd := [_,_,_]) (tl := bs) (hd' := [_,_,_]) [0,1,2] Z Z)) Z fun z1 hz1 => ?_
  obtain ⟨a1,c1,H1⟩ := z1
  obtain ⟨hv1,u1,r1⟩ := hz1
  dsimp only at hv1 u1 r1 ⊢
  obtain ⟨x1,x2,x3,x4,rfl⟩ := four (ex_len r1)
  have K1 := K.up u1.up
  refine .bl Z (Fx.bsl31_1 _ _ _ _) Z fun b69 => ?_
  refine Sx.freezeBox fun H2 u2 m2 => ?_
  have K2 := K1.up u2.up
  refine .yv (.fieldAddr Z Fx.field33_3) Z<|.st (.tail<|.head) Z Z Fx.size31 Z (nb Z) Z<|.nt<|.rg<|.m Z Z<|.cs (X := Unit) Fx.call96 Z (fun W s => need_r K2 ((Suf.ex _).up (Suf.tl (Suf.nm.up hq))) [93] (s.pickT (hd := [_,_,_]) (tl := bs) (hd' := [_,_,_]) [0,1,2] Z Z)) Z fun _ _ => .ns<|.yv (.loadW Z Fx.agg33 (.tail _<|.head _) Z) Z<|.sW (.tail<|.tail<|.head) Z Z Fx.size33 (by simp [Value.oneCell',strV]) Z<|.nt<|.rt<|?_
  refine Sx.ret1 (.inl rfl) rfl (.cell rfl Fx.agg33 (.tail _<|.tail _<|.head _) rfl) fun W s => ?_
  rw [show up n gPrim q = up n (gNd [93]) (up n (gX 0) (up n gNm q).tl) by unfold gPrim;rw [up_altF h20,up_altF h24,up_altF h28,up_altF h32,up_altF h46,up_altF h38,last_key h12 hnm.1 h65,(key_eq (n := n) 6 nm (show vl (gX 0) (up n (gNd [91]) (up n gNm q)) a1 by rw [up_ndT h65];exact hv1)).1,up_ndT h65]]
  exact ⟨(.mk 6 nm 0 [a1],[.int .i64 6,strV nm,.int .i64 0,.slice (some ⟨b69,0,none⟩) 1 1],H2),⟨(by unfold gPrim;exact vl_altF h20 (vl_altF h24 (vl_altF h28 (vl_altF h32 (vl_altF h46 (vl_altF h38 (last_nam h12 (vl_bind (n := n) hnm.1 (vl_altT h65 (key_vl h65 (key_eq (n := n) 6 nm (show vl (gX 0) (up n (gNd [91]) (up n gNm q)) a1 by rw [up_ndT h65];exact hv1)).2)))))))))),u1.trans u2,ex_shut (op := 6) (nm := nm) (n := 0) (args := [a1]) hnm.2 (Rep.mk (n := 1) (c := 1) m2 (.single (r1.up u2.up) rfl) rfl (Nat.le_refl _) (by decide))⟩,rfl,s.pickT (hd := [_,_,_]) (tl := bs) (hd' := [_]) [0] rfl rfl⟩
 rw [acS_F h65]
 refine .sk<|.tN<|.sr<|.yv (.loadW Z Fx.agg33 (.tail _<|.head _) Z) Z<|.sW (.tail<|.tail<|.head) Z Z Fx.size33 (by simp [Value.oneCell',strV]) Z<|.nt<|.rt<|?_
 refine Sx.ret1 (.inl rfl) rfl (.cell rfl Fx.agg33 (.tail _<|.tail _<|.head _) rfl) fun W s => ?_
 rw [show up n gPrim q = up n gNm q by unfold gPrim;rw [up_altF h20,up_altF h24,up_altF h28,up_altF h32,up_altF h46,up_altF h38];exact last_name h12 hnm.1 h65]
 exact ⟨(.mk 5 nm 0 [],[.int .i64 5,strV nm,.int .i64 0,.slice none 0 0],H),⟨(by unfold gPrim;exact vl_altF h20 (vl_altF h24 (vl_altF h28 (vl_altF h32 (vl_altF h46 (vl_altF h38 (last_nam h12 (vl_bind (n := n) hnm.1 (vl_altF h65 vl_pure))))))))),.refl,ex_shut (op := 5) (nm := nm) (n := 0) (args := []) hnm.2 (Rep.empty (p := none) (c := 0) (by decide))⟩,rfl,s.pickT (hd := [_,_,_]) (tl := bs) (hd' := [_]) [0] rfl rfl⟩
theorem levels_r : ∀ M,(∀ lv,lv ≤ 5 → ExV 26 [.int .i64 (lv : Nat)] (gX lv) M) ∧ ExV 52 [] (gX 5) M
 | 0 => ⟨fun _ _ => ExV.zero _ _ _,ExV.zero _ _ _⟩
 | M + 1 => by
  obtain ⟨h1,h2⟩ := levels_r M
  have hu : ExV 52 [] (gX 5) (M + 1) := unary_r M h2 (primary_r M (h1 0 (by omega)))
  have key : ∀ k lv,lv + k = 5 → ExV 26 [.int .i64 (lv : Nat)] (gX lv) (M + 1) := by
   intro k
   induction k with
   | zero => exact fun lv h => expr_r (M + 1) lv (by omega) (fun _ => hu) (fun h5 => absurd h (by omega))
   | succ k ih => exact fun lv h => expr_r (M + 1) lv (by omega) (fun h5 => absurd h (by omega)) (fun _ => ih (lv + 1) (by omega))
  exact ⟨fun lv h => key (5 - lv) lv (by omega),hu⟩
theorem rexpr_all {H : Hp} {w0 W : World} {bs : List Res} {b n : Nat} {t : Str} {ts : List Tk} {tp : Option Addr} {tc : Nat} {q : Sg} (K : Tkr H t n ts tp tc) (hq : q.r <:+ ts) (s : St H w0 (.box b [strV t,.slice tp ts.length tc,.int .i64 (posN ts q : Nat),.int .i64 (q.o : Nat),.int .i64 (q.e : Nat)] 75 :: bs) W) : Calls Tryz.prog 26 #[.pointer (some ⟨b,0,none⟩),.int .i64 ((0 : Nat) : Int)] W fun e W' => ∃ z : Ex × List Value × Hp,(vl (gX 0) q z.1 ∧ HUp w0 H z.2.2 ∧ Rep z.2.2 (dEx .i64 z.1) z.2.1) ∧ e = .returned (.agg z.2.1.toArray) ∧ St z.2.2 w0 (.box b [strV t,.slice tp ts.length tc,.int .i64 (posN ts (up n (gX 0) q) : Nat),.int .i64 ((up n (gX 0) q).o : Nat),.int .i64 ((up n (gX 0) q).e : Nat)] 75 :: bs) W' := (levels_r (q.mu + 1)).1 0 (by omega) K hq (Nat.lt_succ_self _) s
def rxO (t : Str) : Nat := if (sgZ (gX 0) t).e = 0 then 0 else (sgZ (gX 0) t).o
def rxR (t : Str) (cs : List Value) : List Value := if (sgZ (gX 0) t).e = 0 then cs else [.int .i64 0,.string ⟨#[]⟩,.int .i64 0,.slice none 0 0]
set_option maxRecDepth 100000 in
theorem exprR_st {H : Hp} {w0 W : World} {bs : List Res} (t : Str) (ht : t.length ≤ 9223372036854775807) (s : St H w0 bs W) :
 Calls Tryz.prog 12 #[strV t] W fun e W' => ∃ z : Ex × List Value × Hp,(vl (gX 0) (sg0 t) z.1 ∧ HUp w0 H z.2.2 ∧ Rep z.2.2 (dEx .i64 z.1) z.2.1) ∧ e = .returned (.tuple #[.agg (rxR t z.2.1).toArray,.int .i64 (rxO t : Nat),.int .i64 ((sgZ (gX 0) t).e : Nat)]) ∧ St z.2.2 w0 bs W' := by
 refine Sx.enterS Tryz.func12 rfl Tryz.ntmps12 rfl s ?_
 refine .sr<|.al Fx.zero33 Z fun b2 => .a Z Z<|.a Z Z<|.ns<|.m Z Z<|.cs (X := Nat × Hp × Option Addr × Nat) Fx.call25 Z (fun W s => made_r t ht s) Z fun z0 hz0 => ?_
 obtain ⟨b,H0,tp,tc⟩ := z0
 obtain ⟨K0,u0⟩ := hz0
 dsimp only at K0 u0 ⊢
 refine .a Z Z<|.ns<|.m Z Z<|.cs (X := Ex × List Value × Hp) Fx.call26 Z (fun W s => rexpr_all K0 (List.suffix_refl _) (s.pickT (hd := [_,_]) (tl := bs) (hd' := [_,_]) [0,1] Z Z)) Z fun z1 hz1 => ?_
 obtain ⟨a1,c1,H1⟩ := z1
 obtain ⟨hv1,u1,r1⟩ := hz1
 dsimp only at hv1 u1 r1 ⊢
 obtain ⟨x1,x2,x3,x4,rfl⟩ := four (ex_len r1)
 have K1 := K0.up u1.up
 have u2 := u0.trans u1
 refine .al Fx.zero33 Z fun b6 => .sW .head Z Z Fx.size33 (Rep.one r1) Z<|.ns<|.m Z Z<|.cs (X := Unit) Fx.call27 Z (fun W s => end_r K1 ((Suf.ex 0).up (List.suffix_refl _))  (s.pickT (hd := [_,_,_]) (tl := bs) (hd' := [_,_,_]) [1,0,2] Z Z)) Z fun _ _ => .nt<|.sq<|.sr<|.m Z Z<|.yv (.nilCheck Z) Z<|.yv (.fieldAddr Z Fx.field75_4) Z<|.yv (.load Z Fx.agg3 (.head _) Z) Z<|.yv (.neq Z Z) Z<|.nt<|.cd Z (fun h17 => ?_) (fun h17 => ?_)
 ·try simp only [dt] at h17
  have hZ : ¬ (sgZ (gX 0) t).e = 0 := by unfold sgZ;omega
  refine .sq<|.fl (trip := [(_,_,_),(_,_,_),(_,_,_),(_,_,_),(_,_,_),(_,_,_),(_,_,_),(_,_,_),(_,_,_),(_,_,_),(_,_,_)]) 11 [(0,0),(1,0),(2,0),(3,0),(4,0),(5,0),(6,0),(7,0),(8,0),(9,3),(10,0)] (by kernel_rfl) (by kernel_rfl) Z<|.yv (.build Z Fx.bld33) Z<|.m Z Z<|.yv (.nilCheck Z) Z<|.yv (.fieldAddr Z Fx.field75_3) Z<|.yv (.load Z Fx.agg3 (.head _) Z) Z<|.m Z Z<|.yv (.nilCheck Z) Z<|.yv (.fieldAddr Z Fx.field75_4) Z<|.yv (.load Z Fx.agg3 (.head _) Z) Z<|.sW (.tail<|.tail<|.head) Z Z Fx.size33 (by simp [Value.oneCell']) Z ((.yv (.load Z Fx.agg3 (.head _) Z)<|.yv (.fieldAddr Z Fx.field75_4)<|.yv (.nilCheck Z)<|.yv (.move Z)<|.yv (.load Z Fx.agg3 (.head _) Z)<|.yv (.fieldAddr Z Fx.field75_3)<|.yv (.nilCheck Z)<|.yv (.move Z)<|.done (by kernel_rfl)<|.nl))<|.a Z Z<|.fn (tl := [_]) Z<|.a Z Z<|.nt<|.rt<|.tR<|?_
  refine Sx.retN (.inl rfl) rfl (.cons (.cell rfl Fx.agg33 (.tail _<|.tail _<|.head _) rfl) (.cons (.tmp rfl) (.cons (.tmp rfl) .nil))) rfl fun W s => ⟨(a1,[x1,x2,x3,x4],H1),⟨hv1,u2,r1⟩,?_,s.pickT (hd := [_,_,_]) (tl := bs) (hd' := []) [] rfl rfl⟩
  unfold rxR rxO
  simp only [hZ,if_false]
  rfl
 try simp only [df] at h17
 have hZ : (sgZ (gX 0) t).e = 0 := by unfold sgZ;omega
 refine .sk<|.tN<|.sr<|.yv (.loadW Z Fx.agg33 (.tail _<|.head _) Z) Z<|.sW (.tail<|.tail<|.head) Z Z Fx.size33 (Rep.one r1) Z<|.a Z Z<|.a Z Z<|.nt<|.rt<|?_
 refine Sx.retN (.inl rfl) rfl (.cons (.cell rfl Fx.agg33 (.tail _<|.tail _<|.head _) rfl) (.cons (.tmp rfl) (.cons (.tmp rfl) .nil))) rfl fun W s => ⟨(a1,[x1,x2,x3,x4],H1),⟨hv1,u2,r1⟩,?_,s.pickT (hd := [_,_,_]) (tl := bs) (hd' := []) [] rfl rfl⟩
 unfold rxR rxO
 simp only [hZ,if_true]
 rfl
theorem hup_base {H H' : Hp} {w0 W : World} {bs : List Res} (u : HUp W H H') (s : St H w0 bs W) : HUp w0 H H' := ⟨u.up,fun b e hb => u.new b e (Nat.lt_of_lt_of_le hb s.ext.size)⟩
theorem start_c {H : Hp} (G : Gl H) {w0 W : World} {bs : List Res} (t : Str) (ht : t.length ≤ 9223372036854775807) (s : St H w0 bs W) :
 Calls Tryz.prog 22 #[strV t] W fun e W' => ∃ z : Nat × Hp × Option Addr × Nat,(Tkm z.2.1 (sg0 t).r z.2.2.1 z.2.2.2 ∧ HUp w0 H z.2.1) ∧ e = .returned (.pointer (some ⟨z.1,0,none⟩)) ∧ St z.2.1 w0 (.box z.1 [.slice z.2.2.1 ((sg0 t).r).length z.2.2.2,.int .i64 (posN ((sg0 t).r) (sg0 t) : Nat),.int .i64 (t.length : Nat),.string ⟨#[]⟩,.slice none 0 0,.slice none 0 0,.slice none 0 0,.int .i64 ((sg0 t).o : Nat),.int .i64 ((sg0 t).e : Nat)] 99 :: bs) W' :=
 (start_any H G t ht W s.agr).mono fun e W' ⟨z,⟨h1,h2⟩,h3,h4⟩ => ⟨z,⟨h1,hup_base h2 s⟩,h3,s.join h2 h4⟩
def exE (t : Str) (x : Ex) : Nat := if (sgZ (gX 0) t).e = 0 then checkE x else (sgZ (gX 0) t).e
def exO (t : Str) (x : Ex) : Nat := if (sgZ (gX 0) t).e = 0 ∧ checkE x = 0 then 0 else (sgZ (gX 0) t).o
def exR (t : Str) (x : Ex) (cs : List Value) : List Value := if (sgZ (gX 0) t).e = 0 ∧ checkE x = 0 then cs else [.int .u8 0,.string ⟨#[]⟩,.int .i64 0,.slice none 0 0]
set_option maxRecDepth 100000 in
theorem exprP_st {H : Hp} (G : Gl H) {w0 W : World} {bs : List Res} (t : Str) (ht : t.length ≤ 9223372036854775807) (s : St H w0 bs W) :
 Calls Tryz.prog 11 #[strV t] W fun e W' => ∃ z : Ex × List Value × Hp,(vl (gX 0) (sg0 t) z.1 ∧ HUp w0 H z.2.2 ∧ Rep z.2.2 (dEx .u8 z.1) z.2.1) ∧ e = .returned (.tuple #[.agg (exR t z.1 z.2.1).toArray,.int .i64 (exO t z.1 : Nat),.int .i64 (exE t z.1 : Nat)]) ∧ St z.2.2 w0 bs W' := by
 refine Sx.enterS Tryz.func11 rfl Tryz.ntmps11 rfl s ?_
 refine .sr<|.al Fx.zero27 Z fun b2 => .a Z Z<|.a Z Z<|.ns<|.m Z Z<|.cs (X := Nat × Hp × Option Addr × Nat) Fx.call22 Z (fun W s => start_c G t ht s) Z fun z0 hz0 => ?_
 obtain ⟨b,H0,tp,tc⟩ := z0
 obtain ⟨K0,u0⟩ := hz0
 dsimp only at K0 u0 ⊢
 refine .a Z Z<|.ns<|.m Z Z<|.cs (X := Ex × List Value × Hp) Fx.call23 Z (fun W s => expr_all K0 (List.suffix_refl _) (s.pickT (hd := [_,_]) (tl := bs) (hd' := [_,_]) [0,1] Z Z)) Z fun z1 hz1 => ?_
 obtain ⟨a1,c1,H1⟩ := z1
 obtain ⟨hv1,u1,r1⟩ := hz1
 dsimp only at hv1 u1 r1 ⊢
 obtain ⟨x1,x2,x3,x4,rfl⟩ := four (ex_len r1)
 have K1 := K0.up u1.up
 have u2 := u0.trans u1
 refine .al Fx.zero27 Z fun b6 => .sW .head Z Z Fx.size27 (Rep.one r1) Z<|.ns<|.m Z Z<|.cs (X := Unit) Fx.call24 Z (fun W s => close_st K1 ((Suf.ex 0).up (List.suffix_refl _))  (s.pickT (hd := [_,_,_]) (tl := bs) (hd' := [_,_,_]) [1,0,2] Z Z)) Z fun _ _ => .m Z Z<|.yv (.extract Z Z) Z<|.yv (.extract Z Z) Z<|.a Z Z<|.a Z Z<|.nt<|.sq<|.sr<|.m Z Z<|.yv (.eql Z Z) Z<|.nt<|.cd Z (fun h19 => ?_) (fun h19 => ?_)
 ·try simp only [dt] at h19
  have hZ : (sgZ (gX 0) t).e = 0 := by unfold sgZ;omega
  refine .rg<|.yv (.loadW Z Fx.agg27 (.tail _<|.head _) Z) Z<|.yv (.call Fx.call15 Z (fun W s => checkExpr_any H1 (G.up u2.up) a1 _ r1 (Nat.le_trans (vl_depth hv1 hZ) (by decide)) W s.agr)) Z<|.a Z Z<|.nt<|.sq<|.sr<|.m Z Z<|.yv (.neq Z Z) Z<|.nt<|.cd Z (fun h23 => ?_) (fun h23 => ?_)
  ·try simp only [dt] at h23
   have hck : ¬ checkE a1 = 0 := by omega
   refine .sr<|.yv (.build Z Fx.bld27) Z<|.m Z Z<|.m Z Z<|.sW (.tail<|.tail<|.head) Z Z Fx.size27 (by simp [Value.oneCell']) Z<|.a Z Z<|.a Z Z<|.nt<|.rt<|.tR<|?_
   refine Sx.retN (.inl rfl) rfl (.cons (.cell rfl Fx.agg27 (.tail _<|.tail _<|.head _) rfl) (.cons (.tmp rfl) (.cons (.tmp rfl) .nil))) rfl fun W s => ⟨(a1,[x1,x2,x3,x4],H1),⟨hv1,u2,r1⟩,?_,s.pickT (hd := [_,_,_]) (tl := bs) (hd' := []) [] rfl rfl⟩
   unfold exR exO exE
   simp only [hZ,hck,if_true,if_false]
   rfl
  try simp only [df] at h23
  have hck : checkE a1 = 0 := by omega
  refine .sk<|.tN<|.sr<|.yv (.loadW Z Fx.agg27 (.tail _<|.head _) Z) Z<|.sW (.tail<|.tail<|.head) Z Z Fx.size27 (Rep.one r1) Z<|.a Z Z<|.a Z Z<|.nt<|.rt<|?_
  refine Sx.retN (.inl rfl) rfl (.cons (.cell rfl Fx.agg27 (.tail _<|.tail _<|.head _) rfl) (.cons (.tmp rfl) (.cons (.tmp rfl) .nil))) rfl fun W s => ⟨(a1,[x1,x2,x3,x4],H1),⟨hv1,u2,r1⟩,?_,s.pickT (hd := [_,_,_]) (tl := bs) (hd' := []) [] rfl rfl⟩
  unfold exR exO exE
  simp only [hZ,hck,if_true]
  rfl
 try simp only [df] at h19
 have hZ : ¬ (sgZ (gX 0) t).e = 0 := by unfold sgZ;omega
 refine .sk<|.tN<|.sq<|.sr<|.m Z Z<|.yv (.neq Z Z) Z<|.nt<|.cd Z (fun h23 => ?_) (fun h23 => ?_)
 ·skip
  refine .sr<|.yv (.build Z Fx.bld27) Z<|.m Z Z<|.m Z Z<|.sW (.tail<|.tail<|.head) Z Z Fx.size27 (by simp [Value.oneCell']) Z<|.a Z Z<|.a Z Z<|.nt<|.rt<|.tR<|?_
  refine Sx.retN (.inl rfl) rfl (.cons (.cell rfl Fx.agg27 (.tail _<|.tail _<|.head _) rfl) (.cons (.tmp rfl) (.cons (.tmp rfl) .nil))) rfl fun W s => ⟨(a1,[x1,x2,x3,x4],H1),⟨hv1,u2,r1⟩,?_,s.pickT (hd := [_,_,_]) (tl := bs) (hd' := []) [] rfl rfl⟩
  unfold exR exO exE
  simp only [hZ,if_false]
  rfl
 exact absurd (show (sgZ (gX 0) t).e = 0 by unfold sgZ;have := Classical.not_not.1 (of_decide_eq_false h23);omega) hZ
theorem exprP_ok {H : Hp} (G : Gl H) {w0 W : World} {bs : List Res} {t : Str} {x : Ex} (ht : t.length ≤ 20000) (hx : gX 0 (lexR t) = .ok x []) (hc : checkE x = 0) (s : St H w0 bs W) :
 Calls Tryz.prog 11 #[strV t] W fun e W' => ∃ z : List Value × Hp,(HUp w0 H z.2 ∧ Rep z.2 (dEx .u8 x) z.1) ∧ e = .returned (.tuple #[.agg z.1.toArray,.int .i64 0,.int .i64 0]) ∧ St z.2 w0 bs W' := by
 refine (exprP_st G t (by omega) s).mono ?_
 rintro e W' ⟨z,⟨h1,h2,h3⟩,h4,h5⟩
 have h0 : sg0 t = ⟨lexR t,0,0⟩ := by unfold sg0;rw [if_neg (by omega)]
 have hz : (sgZ (gX 0) t).e = 0 := by
  have hu : up t.length (gX 0) (sg0 t) = ⟨[],0,0⟩ := by
   rw [h0]
   unfold up
   rw [if_pos rfl,hx]
  unfold sgZ
  rw [hu]
  rfl
 have e1 : z.1 = x := h1 (by rw [h0]) x [] (by rw [h0];exact hx)
 refine ⟨(z.2.1,z.2.2),⟨h2,e1 ▸ h3⟩,?_,h5⟩
 rw [h4,e1]
 unfold exR exO exE
 simp only [hz,hc,if_true]
 rfl
theorem exprP_bad {H : Hp} (G : Gl H) {w0 W : World} {bs : List Res} {t : Str} {c o : Nat} (ht : t.length ≤ 9223372036854775807) (hc : (sgZ (gX 0) t).e = c) (ho : (sgZ (gX 0) t).o = o) (h0 : c ≠ 0) (s : St H w0 bs W) :
 Calls Tryz.prog 11 #[strV t] W fun e W' => ∃ z : Hp,HUp w0 H z ∧ e = .returned (.tuple #[.agg ([.int .u8 0,.string ⟨#[]⟩,.int .i64 0,.slice none 0 0] : List Value).toArray,.int .i64 (o : Nat),.int .i64 (c : Nat)]) ∧ St z w0 bs W' := by
 subst hc ho
 refine (exprP_st G t ht s).mono ?_
 rintro e W' ⟨z,⟨h1,h2,h3⟩,h4,h5⟩
 refine ⟨z.2.2,h2,?_,h5⟩
 rw [h4]
 unfold exR exO exE
 simp only [h0,if_false,false_and]
end Go.Proofs.YthhoebdlfjffkaaGreatDoor
namespace Go.Proofs.YthhoebdlfjffkaaGreatDoor
theorem Suf.gex : Suf gEx := Suf.ex 0
theorem Suf.blk {b : Pz (List Sm)} (h : Suf b) : Suf (gBlk b) := .bind (.nd _) fun _ => .bind h fun _ => .bind (.nd _) fun _ => .pure _
theorem Suf.els {b : Pz (List Sm)} (h : Suf b) : Suf (gEls b) := .alt (.blk h) (.pure _)
theorem Suf.oth {b : Pz (List Sm)} (h : Suf b) : Suf (gOth b) := .alt (.blk h) (.bind (.nd _) fun _ => .pure _)
theorem Suf.list {α : Type} {p : Pz α} (h : Suf p) : Suf (gList p) := .bind (.nd _) fun _ => .alt (.pure _) (.bind h fun _ => .bind (.many h) fun _ => .bind (.nd _) fun _ => .pure _)
theorem Suf.st {b : Pz (List Sm)} (h : Suf b) : Suf (gSt b) :=
 .alt (.bind .gex fun _ => .bind (.blk h) fun _ => .bind (.els h) fun _ => .pure _)<|.alt (.bind .gex fun _ => .bind (.blk h) fun _ => .pure _)<|.alt (.bind .gex fun _ => .bind (.nd _) fun _ => .bind .gex fun _ => .bind (.oth h) fun _ => .pure _)<|.alt (.bind .nm fun _ => .bind (.nd _) fun _ => .bind .gex fun _ => .bind (.oth h) fun _ => .pure _)<|.alt (.bind .nm fun _ => .bind (.nd _) fun _ => .bind .nm fun _ => .bind (.list .gex) fun _ => .bind (.nd _) fun _ => .pure _)<|.alt (.bind .gex fun _ => .bind (.nd _) fun _ => .bind .nm fun _ => .bind (.list .gex) fun _ => .bind (.nd _) fun _ => .pure _)<|.alt (.bind (.nd _) fun _ => .pure _)<|.alt (.bind .nm fun _ => .bind (.nd _) fun _ => .bind .gex fun _ => .bind (.nd _) fun _ => .bind (.nd _) fun _ => .pure _)<|.bind .nm fun _ => .alt (.bind .gex fun _ => .bind (.nd _) fun _ => .bind (.nd _) fun _ => .bind .gex fun _ => .bind (.nd _) fun _ => .pure _)
  (.bind (.nd _) fun _ => .bind .gex fun _ => .bind (.nd _) fun _ => .pure _)
theorem Suf.bF : ∀ f,Suf (gBF f)
 | 0 => fun r => ⟨fun a r' e => (by unfold gBF at e;cases e),fun r' c e => (by unfold gBF at e;injection e with e _;subst e;exact List.suffix_refl _)⟩
 | f + 1 => fun r => by
  have h1 := Suf.st (Suf.bF f)
  have h2 := Suf.bF f
  refine ⟨fun a r' e => ?_,fun r' c e => ?_⟩
  ·unfold gBF at e
   split at e
   ·injection e with _ e;subst e;exact List.suffix_refl _
   ·obtain ⟨s,q,k1,k2⟩ := Rs.bind_ok e
    obtain ⟨l,q2,k3,k4⟩ := Rs.bind_ok k2
    injection k4 with _ k4;subst k4
    exact ((h2 _).1 _ _ k3).trans ((h1 _).1 _ _ k1)
  ·unfold gBF at e
   split at e
   ·cases e
   ·rcases Rs.bind_er e with e | ⟨s,q,k1,e⟩
    ·exact (h1 _).2 _ _ e
    ·rcases Rs.bind_er e with e | ⟨l,q2,k3,e⟩
     ·exact ((h2 _).2 _ _ e).trans ((h1 _).1 _ _ k1)
     ·cases e
theorem Suf.b : Suf gB := fun r => Suf.bF _ r
theorem Suf.tr : Suf gTr := .alt (.pure _) (.bind (.nd _) fun _ => .pure _)
theorem Suf.fg : Suf gFg := .bind .nm fun _ => .bind (.nd _) fun _ => .bind .tr fun _ => .bind (.nd _) fun _ => .pure _
theorem Suf.lk : Suf gLk := .bind .nm fun _ => .bind (.nd _) fun _ => .bind .nm fun _ => .bind (.nd _) fun _ => .bind .nu fun _ => .bind (.nd _) fun _ => .pure _
theorem Suf.int : Suf gInt := .alt (.bind .nu fun _ => .pure _) .nu
theorem Suf.vr : Suf gVr := .bind .nm fun _ => .bind (.nd _) fun _ => .alt (.bind (.nd _) fun _ => .bind .int fun _ => .bind (.nd _) fun _ => .pure _)<|.alt (.bind (.nd _) fun _ => .bind .tr fun _ => .bind (.nd _) fun _ => .pure _)<|.bind (.nd _) fun _ => .bind (.nd _) fun _ => .pure _
theorem Suf.hd : Suf gHd := .bind .nm fun _ => .bind (.list .nm) fun _ => .bind (.blk .b) fun _ => .pure _
theorem Suf.vs : Suf gVs := .many .hd
theorem Suf.vn (w : Str) : Suf (gVn w) := .bind (.nn _) fun _ => .bind (.nd _) fun _ => .bind .vs fun _ => .bind (.nd _) fun _ => .pure _
theorem Suf.vm : Suf gVm := .alt (.bind (.vn _) fun _ => .alt (.bind (.vn _) fun _ => .pure _) (.pure _)) (.pure _)
theorem Suf.cp : Suf gCp := .bind .nm fun _ => .bind (.nd _) fun _ => .bind (.many .vr) fun _ => .bind .vs fun _ => .bind .vm fun _ => .bind (.nd _) fun _ => .pure _
theorem Suf.ft : Suf gFt := .bind (.nd _) fun _ => .bind .nm fun _ => .bind (.nd _) fun _ => .bind (.many .fg) fun _ => .bind (.many .lk) fun _ => .bind (.many .cp) fun _ => .bind (.nd _) fun _ => .pure _
end Go.Proofs.YthhoebdlfjffkaaGreatDoor
namespace Go.Proofs.YthhoebdlfjffkaaGreatDoor
open Go.RowKit Go.Par Go.Sx
theorem Fx.call119 : callN Tryz.prog 119 = Bool.true := by kernel_rfl
theorem Fx.field99_3 : fieldN Tryz.prog 99 3 = Option.some 3 := by kernel_rfl
theorem Fx.row45 : rowN Tryz.prog 45 = Option.some (102,2,24) := by kernel_rfl
theorem Fx.row46 : rowN Tryz.prog 46 = Option.some (105,3,40) := by kernel_rfl
theorem Fx.size4 : sizeN Tryz.prog 4 = Option.some 1 := by kernel_rfl
theorem Fx.size45 : sizeN Tryz.prog 45 = Option.some 1 := by kernel_rfl
theorem Fx.size46 : sizeN Tryz.prog 46 = Option.some 1 := by kernel_rfl
theorem Fx.bsl45_1 (x00 x01 : Value) : bslN Tryz.prog 45 1 [(0,.agg [x00,x01].toArray)] = some (102,[x00,x01]) := by kernel_rfl
theorem Fx.bsl46_1 (x00 x01 x02 : Value) : bslN Tryz.prog 46 1 [(0,.agg [x00,x01,x02].toArray)] = some (105,[x00,x01,x02]) := by kernel_rfl
def ItemC (f : FuncId) {α : Type} (g : Pz α) (d : α → D) (T : TypeId) (size : Nat) (c0 c1 c2 c3 : Value → Value) (b n : Nat) (ts : List Tk) (tp : Option Addr) (tc : Nat) : Prop :=
 ∀ {H : Hp} {w0 W : World} {bs : List Res} {q : Sg} {v : Value} {k : Nat} {xs : List Value},Tkm H ts tp tc → q.r <:+ ts → k ≤ 1000000 → St H w0 (.row T size v k xs :: .box b [.slice tp ts.length tc,.int .i64 (posN ts q : Nat),.int .i64 (n : Nat),c0 v,c1 v,c2 v,c3 v,.int .i64 (q.o : Nat),.int .i64 (q.e : Nat)] 99 :: bs) W →
  Calls Tryz.prog f #[.pointer (some ⟨b,0,none⟩)] W fun e W' => ∃ z : α × Value × List Value × Hp,(vl g q z.1 ∧ HUp w0 H z.2.2.2 ∧ RepZ z.2.2.2 size [d z.1] z.2.2.1) ∧ e = .returned (.tuple #[]) ∧ St z.2.2.2 w0 (.row T size z.2.1 (k + 1) (xs ++ z.2.2.1) :: .box b [.slice tp ts.length tc,.int .i64 (posN ts (up n g q) : Nat),.int .i64 (n : Nat),c0 z.2.1,c1 z.2.1,c2 z.2.1,c3 z.2.1,.int .i64 ((up n g q).o : Nat),.int .i64 ((up n g q).e : Nat)] 99 :: bs) W'
set_option maxRecDepth 100000 in
theorem flag_st {b n : Nat} {ts : List Tk} {tp : Option Addr} {tc : Nat} {t0 t2 t3 : Value} : ItemC 75 gFg dFg 102 2 (fun _ => t0) (fun v => v) (fun _ => t2) (fun _ => t3) b n ts tp tc := by
 intro H w0 W bs q v k xs K hq hk s
 refine Sx.enterS Tryz.func75 rfl Tryz.ntmps75 rfl s ?_
 refine .sr<|.al Fx.zero102 Z fun b2 => .ns<|.m Z Z<|.cs (X := Str) Fx.call74 Z (fun W s => name_st K hq  (s.pickT (hd := [_,_,_]) (tl := bs) (hd' := [_,_,_]) [2,0,1] Z Z)) Z fun nm hnm => .yv (.fieldAddr Z Fx.field102_0) Z<|.st (.tail<|.head) Z Z Fx.size9 Z (nb Z) Z<|.ns<|.m Z Z<|.cs (X := Unit) Fx.call73 Z (fun W s => expect_nd K (Suf.nm.up hq) [61] (by decide +kernel) (s.pickT (hd := [_,_,_]) (tl := bs) (hd' := [_,_,_]) [0,1,2] Z Z)) Z fun _ _ => .ns<|.m Z Z<|.cs (X := Bool) Fx.call119 Z (fun W s => truth_st K ((Suf.nd _).up (Suf.nm.up hq))  (s.pickT (hd := [_,_,_]) (tl := bs) (hd' := [_,_,_]) [0,1,2] Z Z)) Z fun tb htb => .yv (.fieldAddr Z Fx.field102_1) Z<|.st (.tail<|.head) Z Z Fx.size4 Z (nb Z) Z<|.ns<|.m Z Z<|.cs (X := Unit) Fx.call73 Z (fun W s => expect_nd K (Suf.tr.up ((Suf.nd _).up (Suf.nm.up hq))) [59] (by decide +kernel) (s.pickT (hd := [_,_,_]) (tl := bs) (hd' := [_,_,_]) [0,1,2] Z Z)) Z fun _ _ => .nt<|.fl (trip := [(_,_,_),(_,_,_),(_,_,_),(_,_,_),(_,_,_),(_,_,_),(_,_,_),(_,_,_),(_,_,_)]) 9 [(0,0),(1,0),(2,0),(3,0),(4,0),(5,0),(6,0),(7,1),(8,3)] (by kernel_rfl) (by kernel_rfl) Z<|.m Z Z<|.m Z Z<|.yv (.nilCheck Z) Z<|.yv (.fieldAddr Z Fx.field99_3) Z<|.yv (.fieldAddr Z Fx.field49_1) Z<|.yv (.load Z Fx.agg45 (.head _) Z) Z<|.yv (.loadW Z Fx.agg102 (.tail _<|.head _) Z) Z<|.blF Z (Fx.bsl45_1 _ _) Z fun b25 H2 u2 m2 => .apD Fx.row45 Z (fun _ _ => (.tail<|.tail<|.head)) Z (Rep.mk (n := 1) (c := 1) (ds := [dFg ⟨nm,tb⟩]) m2 (.single (fg_shut (x := ⟨nm,tb⟩) hnm.2) Z) Z (Nat.le_refl _) (by decide)) (by simp [maxLen];omega) (by omega) Z (fun _ _ => (.done (by kernel_rfl)<|.done (by kernel_rfl)<|.done (by kernel_rfl)<|.done (by kernel_rfl)<|.done (by kernel_rfl)<|.done (by kernel_rfl)<|.yv (.move Z)<|.nl)) fun xs26 p26 c26 hz26 => .fn (tl := [_,_,_,_]) Z<|.yv (.nilCheck Z) Z<|.yv (.fieldAddr Z Fx.field99_3) Z<|.yv (.fieldAddr Z Fx.field49_1) Z<|.st .head Z Z Fx.size45 Z (nb Z) Z<|.nl<|?_
 refine Sx.retN (.inr rfl) rfl .nil rfl fun W s => ⟨(⟨nm,tb⟩,.slice p26 (k + 1) c26,xs26,H2),⟨vl_bind (n := n) hnm.1 (vl_bind (n := n) (x := ()) vl_unit (vl_bind (n := n) htb (vl_bind (n := n) (x := ()) vl_unit vl_pure))),u2,hz26⟩,rfl,?_⟩
 rw [show up n gFg q = (up n (gNd [59]) (up n gTr (up n (gNd [61]) (up n gNm q)))) by unfold gFg;rw [up_bind Cz.nm hnm.1,up_bind (x := ()) (Cz.nd _) vl_unit,up_bind Cz.tr htb,up_bind (x := ()) (Cz.nd _) vl_unit,up_pure]]
 exact s.pickT (hd := [_,_,_]) (tl := bs) (hd' := [_,_]) [2,0] rfl rfl
set_option maxRecDepth 100000 in
theorem link_st {b n : Nat} {ts : List Tk} {tp : Option Addr} {tc : Nat} {t0 t1 t3 : Value} : ItemC 76 gLk dLk 105 3 (fun _ => t0) (fun _ => t1) (fun v => v) (fun _ => t3) b n ts tp tc := by
 intro H w0 W bs q v k xs K hq hk s
 refine Sx.enterS Tryz.func76 rfl Tryz.ntmps76 rfl s ?_
 refine .sr<|.al Fx.zero105 Z fun b2 => .ns<|.m Z Z<|.cs (X := Str) Fx.call74 Z (fun W s => name_st K hq  (s.pickT (hd := [_,_,_]) (tl := bs) (hd' := [_,_,_]) [2,0,1] Z Z)) Z fun mx hmx => .yv (.fieldAddr Z Fx.field105_0) Z<|.st (.tail<|.head) Z Z Fx.size9 Z (nb Z) Z<|.ns<|.m Z Z<|.cs (X := Unit) Fx.call73 Z (fun W s => expect_nd K (Suf.nm.up hq) [45,62] (by decide +kernel) (s.pickT (hd := [_,_,_]) (tl := bs) (hd' := [_,_,_]) [0,1,2] Z Z)) Z fun _ _ => .ns<|.m Z Z<|.cs (X := Str) Fx.call74 Z (fun W s => name_st K ((Suf.nd _).up (Suf.nm.up hq))  (s.pickT (hd := [_,_,_]) (tl := bs) (hd' := [_,_,_]) [0,1,2] Z Z)) Z fun my hmy => .yv (.fieldAddr Z Fx.field105_1) Z<|.st (.tail<|.head) Z Z Fx.size9 Z (nb Z) Z<|.ns<|.m Z Z<|.cs (X := Unit) Fx.call73 Z (fun W s => expect_nd K (Suf.nm.up ((Suf.nd _).up (Suf.nm.up hq))) [108,97,116,101,110,99,121] (by decide +kernel) (s.pickT (hd := [_,_,_]) (tl := bs) (hd' := [_,_,_]) [0,1,2] Z Z)) Z fun _ _ => .ns<|.m Z Z<|.cs (X := Int64) Fx.call120 Z (fun W s => number_st K ((Suf.nd _).up (Suf.nm.up ((Suf.nd _).up (Suf.nm.up hq))))  (s.pickT (hd := [_,_,_]) (tl := bs) (hd' := [_,_,_]) [0,1,2] Z Z)) Z fun nu hnu => .yv (.fieldAddr Z Fx.field105_2) Z<|.st (.tail<|.head) Z Z Fx.size3 Z (nb Z) Z<|.ns<|.m Z Z<|.cs (X := Unit) Fx.call73 Z (fun W s => expect_nd K (Suf.nu.up ((Suf.nd _).up (Suf.nm.up ((Suf.nd _).up (Suf.nm.up hq))))) [59] (by decide +kernel) (s.pickT (hd := [_,_,_]) (tl := bs) (hd' := [_,_,_]) [0,1,2] Z Z)) Z fun _ _ => .nt<|.fl (trip := [(_,_,_),(_,_,_),(_,_,_),(_,_,_),(_,_,_),(_,_,_),(_,_,_),(_,_,_),(_,_,_)]) 9 [(0,0),(1,0),(2,0),(3,0),(4,0),(5,0),(6,0),(7,1),(8,3)] (by kernel_rfl) (by kernel_rfl) Z<|.m Z Z<|.m Z Z<|.yv (.nilCheck Z) Z<|.yv (.fieldAddr Z Fx.field99_3) Z<|.yv (.fieldAddr Z Fx.field49_2) Z<|.yv (.load Z Fx.agg46 (.head _) Z) Z<|.yv (.loadW Z Fx.agg105 (.tail _<|.head _) Z) Z<|.blF Z (Fx.bsl46_1 _ _ _) Z fun b25 H2 u2 m2 => .apD Fx.row46 Z (fun _ _ => (.tail<|.tail<|.head)) Z (Rep.mk (n := 1) (c := 1) (ds := [dLk ⟨mx,my,nu⟩]) m2 (.single (lk_shut (x := ⟨mx,my,nu⟩) hmx.2 hmy.2) Z) Z (Nat.le_refl _) (by decide)) (by simp [maxLen];omega) (by omega) Z (fun _ _ => (.done (by kernel_rfl)<|.done (by kernel_rfl)<|.done (by kernel_rfl)<|.done (by kernel_rfl)<|.done (by kernel_rfl)<|.done (by kernel_rfl)<|.yv (.move Z)<|.nl)) fun xs26 p26 c26 hz26 => .fn (tl := [_,_,_,_]) Z<|.yv (.nilCheck Z) Z<|.yv (.fieldAddr Z Fx.field99_3) Z<|.yv (.fieldAddr Z Fx.field49_2) Z<|.st .head Z Z Fx.size46 Z (nb Z) Z<|.nl<|?_
 refine Sx.retN (.inr rfl) rfl .nil rfl fun W s => ⟨(⟨mx,my,nu⟩,.slice p26 (k + 1) c26,xs26,H2),⟨vl_bind (n := n) hmx.1 (vl_bind (n := n) (x := ()) vl_unit (vl_bind (n := n) hmy.1 (vl_bind (n := n) (x := ()) vl_unit (vl_bind (n := n) hnu (vl_bind (n := n) (x := ()) vl_unit vl_pure))))),u2,hz26⟩,rfl,?_⟩
 rw [show up n gLk q = (up n (gNd [59]) (up n gNu (up n (gNd [108,97,116,101,110,99,121]) (up n gNm (up n (gNd [45,62]) (up n gNm q)))))) by unfold gLk;rw [up_bind Cz.nm hmx.1,up_bind (x := ()) (Cz.nd _) vl_unit,up_bind Cz.nm hmy.1,up_bind (x := ()) (Cz.nd _) vl_unit,up_bind Cz.nu hnu,up_bind (x := ()) (Cz.nd _) vl_unit,up_pure]]
 exact s.pickT (hd := [_,_,_]) (tl := bs) (hd' := [_,_]) [2,0] rfl rfl
structure MnI {α : Type} (n : Nat) (w : Str) (g : Pz α) (q : Sg) (l : List α) (q1 : Sg) : Prop where
 eq : up n (gMany w g) q1 = up n (gMany w g) q
 val : ∀ l',vl (gMany w g) q1 l' → vl (gMany w g) q (l ++ l')
 len : l.length + q1.mu ≤ q.mu
 er : q1.e = 0 → q.e = 0
theorem MnI.start {α : Type} {n : Nat} {w : Str} {g : Pz α} {q : Sg} : MnI n w g q [] q := ⟨rfl,fun _ h => h,by simp,id⟩
theorem MnI.step {α : Type} {n : Nat} {w : Str} {g : Pz α} {q q1 : Sg} {l : List α} {a : α} (h : MnI n w g q l q1) (hs : Shr g) (hz : Cz g) (hac : ac w q1 = true) (hv : vl g q1.tl a) : MnI n w g q (l ++ [a]) (up n g q1.tl) ∧ (up n g q1.tl).mu < q1.mu := by
 have h1 := mu_up (n := n) (s := q1.tl) hs hz
 have h2 := mu_tl hac
 refine ⟨⟨?_,fun l' hl' => ?_,by have := h.len;simp;omega,fun _ => h.er (ac_e hac).1⟩,by omega⟩
 ·rw [← h.eq,many_T (n := n) hs hz hac hv]
 ·rw [List.append_assoc]
  exact h.val _ (many_Tv (n := n) hs hac hv hl')
theorem MnI.stop {α : Type} {n : Nat} {w : Str} {g : Pz α} {q q1 : Sg} {l : List α} (h : MnI n w g q l q1) (hs : Shr g) (hac : ac w q1 = false) : up n (gMany w g) q = q1 ∧ vl (gMany w g) q l := by
 refine ⟨by rw [← h.eq,many_F hs hac],?_⟩
 have := h.val [] (many_Fv hs hac)
 rwa [List.append_nil] at this
set_option maxRecDepth 100000 in
theorem many_st {α : Type} {H : Hp} {w0 W : World} {bs : List Res} {b n : Nat} {ts : List Tk} {tp : Option Addr} {tc : Nat} {q : Sg} {c0 c1 c2 c3 : Value → Value} (K : Tkm H ts tp tc) (hq : q.r <:+ ts) (hmu : q.mu ≤ 1000000)
 (f : FuncId) (hcall : callN Tryz.prog f = true) (w : Str) (hw : w ∈ words ∨ w ∈ symbols) (g : Pz α) (d : α → D) (T : TypeId) (size : Nat) (hsh : Shr g) (hcz : Cz g) (hsu : Suf g) (hit : q.e = 0 → ItemC f g d T size c0 c1 c2 c3 b n ts tp tc) (bm : Nat) (hm : MemAt H bm 0 [.pointer (some ⟨b,0,none⟩)]) (v : Value)
 (s : St H w0 (.row T size v 0 [] :: .box b [.slice tp ts.length tc,.int .i64 (posN ts q : Nat),.int .i64 (n : Nat),c0 v,c1 v,c2 v,c3 v,.int .i64 (q.o : Nat),.int .i64 (q.e : Nat)] 99 :: bs) W) :
 Calls Tryz.prog 71 #[strV w,.func (.func f) #[.pointer (some ⟨b,0,none⟩)] #[],.pointer (some ⟨bm,0,none⟩)] W fun e W' => ∃ z : List α × Value × List Value × Hp,(vl (gMany w g) q z.1 ∧ HUp w0 H z.2.2.2 ∧ RepZ z.2.2.2 size (z.1.map d) z.2.2.1 ∧ z.1.length ≤ q.mu) ∧ e = .returned (.tuple #[]) ∧ St z.2.2.2 w0 (.row T size z.2.1 z.1.length z.2.2.1 :: .box b [.slice tp ts.length tc,.int .i64 (posN ts (up n (gMany w g) q) : Nat),.int .i64 (n : Nat),c0 z.2.1,c1 z.2.1,c2 z.2.1,c3 z.2.1,.int .i64 ((up n (gMany w g) q).o : Nat),.int .i64 ((up n (gMany w g) q).e : Nat)] 99 :: bs) W' := by
 refine Sx.enterS Tryz.func71 rfl Tryz.ntmps71 rfl s ?_
 refine .bk<|.lp (X := List α × Value × List Value × Hp × Sg) [(0,_),(1,_),(2,_)] ⟨rfl,rfl,rfl,trivial⟩ (bs) (fun z => []) (fun z => z.2.2.2.1) (fun z => [.row T size z.2.1 z.1.length z.2.2.1,.box b [.slice tp ts.length tc,.int .i64 (posN ts z.2.2.2.2 : Nat),.int .i64 (n : Nat),c0 z.2.1,c1 z.2.1,c2 z.2.1,c3 z.2.1,.int .i64 (z.2.2.2.2.o : Nat),.int .i64 (z.2.2.2.2.e : Nat)] 99]) (fun z => MnI n w g q z.1 z.2.2.2.2 ∧ HUp w0 H z.2.2.2.1 ∧ RepZ z.2.2.2.1 size (z.1.map d) z.2.2.1 ∧ z.2.2.2.2.r <:+ ts) (fun z => z.2.2.2.2.mu) ([],v,[],H,q) (fun _ s => s) trivial ⟨MnI.start,.refl,RepZ.nil,hq⟩ fun z hC => ?_
 obtain ⟨l,v1,xs1,H1,q1⟩ := z
 obtain ⟨hI,u1,hz1,hq1⟩ := hC
 dsimp only at hI u1 hz1 hq1 ⊢
 have K1 := K.up u1.up
 have hk1 : l.length ≤ 1000000 := by have := hI.len;omega
 refine .sq<|.sr<|.yv (.loadM Z Fx.agg65 (hm.up u1.up) (k := 0) Z Z) Z<|.m Z Z<|.cs (X := Unit) Fx.call72 Z (fun W s => accept_ac K1 hq1 w hw (s.pickT (hd := [_,_]) (tl := bs) (hd' := [_,_]) [1,0] Z Z)) Z fun _ _ => .nt<|.cd Z (fun h7 => ?_) (fun h7 => ?_)
 ·rw [acS_T h7]
  refine .sk<|.tN<|.bk<|.rg<|.m Z Z<|.sv (X := α × Value × List Value × Hp) (fi := [.pointer (some ⟨b,0,none⟩)]) (ca := []) Z hcall Z (fun W s => hit (hI.er (ac_e h7).1) K1 (Suf.tl hq1) hk1 (s.pickT (hd := [_,_]) (tl := bs) (hd' := [_,_]) [1,0] Z Z)) Z fun z2 hz2 => ?_
  obtain ⟨a2,v2,xs2,H2⟩ := z2
  obtain ⟨hv2,u2,hz2⟩ := hz2
  dsimp only at hv2 u2 hz2 ⊢
  exact .nl<|.bN<|.tN<|.ag (x := (l,v1,xs1,H1,q1)) (l ++ [a2],v2,xs1 ++ xs2,H2,up n g q1.tl) trivial ⟨rfl,rfl,rfl,trivial⟩ (fun _ s => by have s2 := s;simpa using s2) ⟨(hI.step hsh hcz h7 hv2).1,u1.trans u2,by dsimp only;rw [List.map_append];exact (hz1.up u2.up).app hz2,hsu.up (Suf.tl hq1)⟩ (hI.step hsh hcz h7 hv2).2
 rw [acS_F h7]
 obtain ⟨e1,hv⟩ := hI.stop hsh h7
 rw [e1]
 refine .ex<|.tE<|.tE<|.bE<|?_
 refine Sx.retN (.inr rfl) rfl .nil rfl fun W s => ⟨(l,v1,xs1,H1),⟨hv,u1,hz1,Nat.le_trans (Nat.le_add_right _ _) hI.len⟩,rfl,?_⟩
 exact s.pickT (hd := [_,_]) (tl := bs) (hd' := [_,_]) [1,0] rfl rfl
theorem Fx.call38 : callN Tryz.prog 38 = Bool.true := by kernel_rfl
theorem Fx.call71 : callN Tryz.prog 71 = Bool.true := by kernel_rfl
theorem Fx.call75 : callN Tryz.prog 75 = Bool.true := by kernel_rfl
theorem Fx.call76 : callN Tryz.prog 76 = Bool.true := by kernel_rfl
theorem Fx.call77 : callN Tryz.prog 77 = Bool.true := by kernel_rfl
theorem Fx.size49 : sizeN Tryz.prog 49 = Option.some 4 := by kernel_rfl
theorem Fx.zero49 : zeroN Tryz.prog 49 = Option.some
 [Go.Value.string { data := { toList := [] } },Go.Value.slice Option.none 0 0,Go.Value.slice Option.none 0 0,
  Go.Value.slice Option.none 0 0] := by kernel_rfl
theorem Fx.bld49  : buildN Tryz.prog 49 [] = some [.string ⟨#[]⟩,.slice none 0 0,.slice none 0 0,.slice none 0 0] := by kernel_rfl
set_option maxRecDepth 100000 in
theorem fleet_st {H : Hp} {w0 W : World} {bs : List Res} {b n : Nat} {ts : List Tk} {tp : Option Addr} {tc : Nat} {q : Sg} (K : Tkm H ts tp tc) (hq : q.r <:+ ts) (hmu : q.mu ≤ 1000000) (hcp : (up n (gMany [108,105,110,107] gLk) (up n (gMany [102,108,97,103] gFg) (up n (gNd [123]) (up n gNm (up n (gNd [102,108,101,101,116]) q))))).e = 0 → ∀ {t0 t1 t2 : Value},ItemC 77 gCp (dCp .u8) 110 3 (fun _ => t0) (fun _ => t1) (fun _ => t2) (fun v => v) b n ts tp tc) (s : St H w0 (.box b [.slice tp ts.length tc,.int .i64 (posN ts q : Nat),.int .i64 (n : Nat),.string ⟨#[]⟩,.slice none 0 0,.slice none 0 0,.slice none 0 0,.int .i64 (q.o : Nat),.int .i64 (q.e : Nat)] 99 :: bs) W) :
 Calls Tryz.prog 38 #[.pointer (some ⟨b,0,none⟩)] W fun e W' => ∃ z : Ft × (Value × Value × Value × Value) × Hp,(vl gFt q z.1 ∧ HUp w0 H z.2.2 ∧ Rep z.2.2 (dFt .u8 z.1) [z.2.1.1,z.2.1.2.1,z.2.1.2.2.1,z.2.1.2.2.2]) ∧ e = .returned (.tuple #[]) ∧ St z.2.2 w0 (.box b [.slice tp ts.length tc,.int .i64 (posN ts (up n gFt q) : Nat),.int .i64 (n : Nat),z.2.1.1,z.2.1.2.1,z.2.1.2.2.1,z.2.1.2.2.2,.int .i64 ((up n gFt q).o : Nat),.int .i64 ((up n gFt q).e : Nat)] 99 :: bs) W' := by
 refine Sx.enterS Tryz.func38 rfl Tryz.ntmps38 rfl s ?_
 refine .sr<|.bx Z Z Z fun b1 => ?_
 refine Sx.freezeBox fun H1 u1 m1 => ?_
 have K1 := K.up u1.up
 refine .ns<|.yv (.mkF Z Z) Z<|.a Z Z<|.ns<|.yv (.loadM Z Fx.agg65 m1 (k := 0) Z Z) Z<|.cs (X := Unit) Fx.call73 Z (fun W s => expect_nd K1 hq [102,108,101,101,116] (by decide +kernel) (s.pickT (hd := [_]) (tl := bs) (hd' := [_]) [0] Z Z)) Z fun _ _ => .nt<|.sq<|.fl (trip := [(_,_,_),(_,_,_),(_,_,_),(_,_,_),(_,_,_),(_,_,_)]) 6 [(0,0),(1,0),(2,3),(3,0),(4,0),(5,0)] (by kernel_rfl) (by kernel_rfl) Z<|.yv (.loadM Z Fx.agg65 m1 (k := 0) Z Z) Z<|.yv (.loadM Z Fx.agg65 m1 (k := 0) Z Z) Z<|.c3 (X := Str) Fx.call74 Z (fun W s => name_st K1 ((Suf.nd _).up hq)  (s.pickT (hd := [_]) (tl := bs) (hd' := [_]) [0] Z Z)) Z (fun _ _ => (.done (by kernel_rfl)<|.yv (.loadM Z Fx.agg65 m1 (k := 0) Z Z)<|.nl)) fun nm hnm => .yv (.nilCheck Z) Z<|.yv (.fieldAddr Z Fx.field99_3) Z<|.yv (.fieldAddr Z Fx.field49_0) Z<|.fn (tl := [_]) Z<|.st .head Z Z Fx.size9 Z (nb Z) Z<|.ns<|.yv (.loadM Z Fx.agg65 m1 (k := 0) Z Z) Z<|.cs (X := Unit) Fx.call73 Z (fun W s => expect_nd K1 (Suf.nm.up ((Suf.nd _).up hq)) [123] (by decide +kernel) (s.pickT (hd := [_]) (tl := bs) (hd' := [_]) [0] Z Z)) Z fun _ _ => ?_
 have hq3 : (up n (gNd [123]) (up n gNm (up n (gNd [102,108,101,101,116]) q))).r <:+ ts := (Suf.nd _).up (Suf.nm.up ((Suf.nd _).up hq))
 have hm3 : (up n (gNd [123]) (up n gNm (up n (gNd [102,108,101,101,116]) q))).mu ≤ 1000000 := Nat.le_trans (mu_up (Shs.nd _).le (Cz.nd _)) (Nat.le_trans (mu_up Shs.nm.le Cz.nm) (Nat.le_trans (mu_up (Shs.nd _).le (Cz.nd _)) hmu))
 refine Sx.row0 110 3 ?_
 refine Sx.row0 105 3 ?_
 refine Sx.row0 102 2 ?_
 refine .ns<|.m Z Z<|.yv (.loadM Z Fx.agg65 m1 (k := 0) Z Z) Z<|.yv (.mkF Z Z) Z<|.sv (X := List Fg × Value × List Value × Hp) (fi := []) (ca := [.pointer (some ⟨b1,0,none⟩)]) Z Fx.call71 Z (fun W s => many_st K1 hq3 hm3 75 Fx.call75 [102,108,97,103] (by decide +kernel) gFg dFg 102 2 Shs.fg.le Cz.fg Suf.fg (fun _ => flag_st) b1 m1 _ (s.pickT (hd := [_,_,_,_]) (tl := bs) (hd' := [_,_,_,_]) [0,3,1,2] Z Z)) Z fun z2 hz2 => ?_
 obtain ⟨fs,v1,xs1,H2⟩ := z2
 obtain ⟨hv1,u2,hz1,_⟩ := hz2
 dsimp only at hv1 u2 hz1 ⊢
 have K2 := K1.up u2.up
 have hq4 : (up n (gMany [102,108,97,103] gFg) (up n (gNd [123]) (up n gNm (up n (gNd [102,108,101,101,116]) q)))).r <:+ ts := (Suf.many Suf.fg).up hq3
 have hm4 : (up n (gMany [102,108,97,103] gFg) (up n (gNd [123]) (up n gNm (up n (gNd [102,108,101,101,116]) q)))).mu ≤ 1000000 := Nat.le_trans (mu_up (Shr.many Shs.fg.le) (Cz.many Cz.fg)) hm3
 refine .ns<|.m Z Z<|.yv (.loadM Z Fx.agg65 (m1.up u2.up) (k := 0) Z Z) Z<|.yv (.mkF Z Z) Z<|.sv (X := List Lk × Value × List Value × Hp) (fi := []) (ca := [.pointer (some ⟨b1,0,none⟩)]) Z Fx.call71 Z (fun W s => many_st K2 hq4 hm4 76 Fx.call76 [108,105,110,107] (by decide +kernel) gLk dLk 105 3 Shs.lk.le Cz.lk Suf.lk (fun _ => link_st) b1 (m1.up u2.up) _ (s.pickT (hd := [_,_,_,_]) (tl := bs) (hd' := [_,_,_,_]) [2,1,0,3] Z Z)) Z fun z2 hz2 => ?_
 obtain ⟨ls,v2,xs2,H3⟩ := z2
 obtain ⟨hv2,u3,hz2,_⟩ := hz2
 dsimp only at hv2 u3 hz2 ⊢
 have K3 := K2.up u3.up
 have hq5 : (up n (gMany [108,105,110,107] gLk) (up n (gMany [102,108,97,103] gFg) (up n (gNd [123]) (up n gNm (up n (gNd [102,108,101,101,116]) q))))).r <:+ ts := (Suf.many Suf.lk).up hq4
 have hm5 : (up n (gMany [108,105,110,107] gLk) (up n (gMany [102,108,97,103] gFg) (up n (gNd [123]) (up n gNm (up n (gNd [102,108,101,101,116]) q))))).mu ≤ 1000000 := Nat.le_trans (mu_up (Shr.many Shs.lk.le) (Cz.many Cz.lk)) hm4
 refine .ns<|.m Z Z<|.yv (.loadM Z Fx.agg65 (m1.up (u2.trans u3).up) (k := 0) Z Z) Z<|.yv (.mkF Z Z) Z<|.sv (X := List Cp × Value × List Value × Hp) (fi := []) (ca := [.pointer (some ⟨b1,0,none⟩)]) Z Fx.call71 Z (fun W s => many_st K3 hq5 hm5 77 Fx.call77 [99,111,109,112,111,110,101,110,116] (by decide +kernel) gCp (dCp .u8) 110 3 Shs.cp.le Cz.cp Suf.cp (fun h => hcp h) b1 (m1.up (u2.trans u3).up) _ (s.pickT (hd := [_,_,_,_]) (tl := bs) (hd' := [_,_,_,_]) [3,1,0,2] Z Z)) Z fun z2 hz2 => ?_
 obtain ⟨cs,v3,xs3,H4⟩ := z2
 obtain ⟨hv3,u4,hz3,_⟩ := hz2
 dsimp only at hv3 u4 hz3 ⊢
 have K4 := K3.up u4.up
 have hq6 : (up n (gMany [99,111,109,112,111,110,101,110,116] gCp) (up n (gMany [108,105,110,107] gLk) (up n (gMany [102,108,97,103] gFg) (up n (gNd [123]) (up n gNm (up n (gNd [102,108,101,101,116]) q)))))).r <:+ ts := (Suf.many Suf.cp).up hq5
 refine .nt<|.rg<|.yv (.loadM Z Fx.agg65 (m1.up (u2.trans (u3.trans u4)).up) (k := 0) Z Z) Z<|.cs (X := Unit) Fx.call73 Z (fun W s => expect_nd K4 hq6 [125] (by decide +kernel) (s.pickT (hd := [_,_,_,_]) (tl := bs) (hd' := [_,_,_,_]) [1,0,2,3] Z Z)) Z fun _ _ => .nl<|?_
 refine Sx.reSt (fun W s => s.pickT (hd := [_,_,_,_]) (tl := bs) (hd' := [_,_,_,_]) [3,2,1,0] rfl rfl) ?_
 refine Sx.freezeSeq (ds := fs.map dFg) (by simp) (hz1.up (u3.trans u4).up) fun H5 p5 c5 u5 e5 h5 => ?_
 refine Sx.freezeSeq (ds := ls.map dLk) (by simp) (hz2.up (u4.trans u5).up) fun H6 p6 c6 u6 e6 h6 => ?_
 refine Sx.freezeSeq (ds := cs.map (dCp .u8)) (by simp) (hz3.up (u5.trans u6).up) fun H7 p7 c7 u7 e7 h7 => ?_
 refine Sx.retN (.inr rfl) rfl .nil rfl fun W s => ⟨(⟨nm,fs,ls,cs⟩,(strV nm,v1,v2,v3),H7),⟨vl_bind (n := n) (x := ()) vl_unit (vl_bind (n := n) hnm.1 (vl_bind (n := n) (x := ()) vl_unit (vl_bind (n := n) hv1 (vl_bind (n := n) hv2 (vl_bind (n := n) hv3 (vl_bind (n := n) (x := ()) vl_unit vl_pure)))))),u1.trans (u2.trans (u3.trans (u4.trans (u5.trans (u6.trans u7))))),ft_shut (x := ⟨nm,fs,ls,cs⟩) hnm.2 (h5.up (u6.trans u7).up) (h6.up u7.up) h7⟩,rfl,?_⟩
 rw [show up n gFt q = (up n (gNd [125]) (up n (gMany [99,111,109,112,111,110,101,110,116] gCp) (up n (gMany [108,105,110,107] gLk) (up n (gMany [102,108,97,103] gFg) (up n (gNd [123]) (up n gNm (up n (gNd [102,108,101,101,116]) q))))))) by unfold gFt;rw [up_bind (x := ()) (Cz.nd _) vl_unit,up_bind Cz.nm hnm.1,up_bind (x := ()) (Cz.nd _) vl_unit,up_bind (Cz.many Cz.fg) hv1,up_bind (Cz.many Cz.lk) hv2,up_bind (Cz.many Cz.cp) hv3,up_bind (x := ()) (Cz.nd _) vl_unit,up_pure]]
 exact s
theorem sg0_mu (t : Str) : (sg0 t).mu ≤ 1000000 := by
 unfold sg0
 split
 ·rw [Sg.mu_er (by decide)];omega
 ·have := lexR_len t
  unfold Sg.mu
  simp only [if_true]
  omega
def pzE (t : Str) (x : Ft) : Nat := if (sgZ gFt t).e = 0 then checkF x else (sgZ gFt t).e
def pzO (t : Str) (x : Ft) : Nat := if (sgZ gFt t).e = 0 ∧ checkF x = 0 then 0 else (sgZ gFt t).o
def pzR (t : Str) (x : Ft) (cs : List Value) : List Value := if (sgZ gFt t).e = 0 ∧ checkF x = 0 then cs else [.string ⟨#[]⟩,.slice none 0 0,.slice none 0 0,.slice none 0 0]
set_option maxRecDepth 100000 in
theorem parse_st {H : Hp} (G : Gl H) {w0 W : World} {bs : List Res} (t : Str) (ht : t.length ≤ 9223372036854775807) (hok : ∀ f,vl gFt (sg0 t) f → (sgZ gFt t).e = 0 → evH okH f = true)
 (hcp : (up t.length (gMany [108,105,110,107] gLk) (up t.length (gMany [102,108,97,103] gFg) (up t.length (gNd [123]) (up t.length gNm (up t.length (gNd [102,108,101,101,116]) (sg0 t)))))).e = 0 → ∀ {b : Nat} {tp : Option Addr} {tc : Nat} {t0 t1 t2 : Value},ItemC 77 gCp (dCp .u8) 110 3 (fun _ => t0) (fun _ => t1) (fun _ => t2) (fun v => v) b t.length (sg0 t).r tp tc) (s : St H w0 bs W) :
 Calls Tryz.prog 19 #[strV t] W fun e W' => ∃ z : Ft × List Value × Hp,(vl gFt (sg0 t) z.1 ∧ HUp w0 H z.2.2 ∧ Rep z.2.2 (dFt .u8 z.1) z.2.1) ∧ e = .returned (.tuple #[.agg (pzR t z.1 z.2.1).toArray,.int .i64 (pzO t z.1 : Nat),.int .i64 (pzE t z.1 : Nat)]) ∧ St z.2.2 w0 bs W' := by
 refine Sx.enterS Tryz.func19 rfl Tryz.ntmps19 rfl s ?_
 refine .sr<|.al Fx.zero49 Z fun b2 => .a Z Z<|.a Z Z<|.ns<|.m Z Z<|.cs (X := Nat × Hp × Option Addr × Nat) Fx.call22 Z (fun W s => start_c G t ht s) Z fun z0 hz0 => ?_
 obtain ⟨b,H0,tp,tc⟩ := z0
 obtain ⟨K0,u0⟩ := hz0
 dsimp only at K0 u0 ⊢
 refine .a Z Z<|.ns<|.m Z Z<|.cs (X := Ft × (Value × Value × Value × Value) × Hp) Fx.call38 Z (fun W s => fleet_st K0 (List.suffix_refl _) (sg0_mu t) (fun h => hcp h) (s.pickT (hd := [_,_]) (tl := bs) (hd' := [_,_]) [0,1] Z Z)) Z fun z1 hz1 => ?_
 obtain ⟨a1,⟨x1,x2,x3,x4⟩,H1⟩ := z1
 obtain ⟨hv1,u1,r1⟩ := hz1
 dsimp only at hv1 u1 r1 ⊢
 have K1 := K0.up u1.up
 have u2 := u0.trans u1
 refine .ns<|.m Z Z<|.cs (X := Unit) Fx.call24 Z (fun W s => close_st K1 (Suf.ft.up (List.suffix_refl _))  (s.pickT (hd := [_,_]) (tl := bs) (hd' := [_,_]) [0,1] Z Z)) Z fun _ _ => .m Z Z<|.yv (.extract Z Z) Z<|.yv (.extract Z Z) Z<|.a Z Z<|.a Z Z<|.nt<|.sq<|.sr<|.m Z Z<|.yv (.eql Z Z) Z<|.nt<|.cd Z (fun h18 => ?_) (fun h18 => ?_)
 ·try simp only [dt] at h18
  have hZ : (sgZ gFt t).e = 0 := by unfold sgZ;omega
  refine .rg<|.m Z Z<|.yv (.nilCheck Z) Z<|.yv (.fieldAddr Z Fx.field99_3) Z<|.yv (.loadS (vs := [_,_,_,_]) Z Fx.agg49 (.head _) Z (subL Z)) Z<|.yv (.call Fx.call35 Z (fun W s => check_any H1 (G.up u2.up) a1 _ r1 (hok a1 hv1 hZ) W s.agr)) Z<|.a Z Z<|.nt<|.sq<|.sr<|.m Z Z<|.yv (.neq Z Z) Z<|.nt<|.cd Z (fun h25 => ?_) (fun h25 => ?_)
  ·try simp only [dt] at h25
   have hck : ¬ checkF a1 = 0 := by omega
   refine .sr<|.yv (.build Z Fx.bld49) Z<|.m Z Z<|.m Z Z<|.sW (.tail<|.head) Z Z Fx.size49 (by simp [Value.oneCell']) Z<|.a Z Z<|.a Z Z<|.nt<|.rt<|.tR<|?_
   refine Sx.retN (.inl rfl) rfl (.cons (.cell rfl Fx.agg49 (.tail _<|.head _) rfl) (.cons (.tmp rfl) (.cons (.tmp rfl) .nil))) rfl fun W s => ⟨(a1,[x1,x2,x3,x4],H1),⟨hv1,u2,r1⟩,?_,s.pickT (hd := [_,_]) (tl := bs) (hd' := []) [] rfl rfl⟩
   unfold pzR pzO pzE
   simp only [hZ,hck,if_true,if_false]
   rfl
  try simp only [df] at h25
  have hck : checkF a1 = 0 := by omega
  refine .sk<|.tN<|.sr<|.m Z Z<|.yv (.nilCheck Z) Z<|.yv (.fieldAddr Z Fx.field99_3) Z<|.yv (.loadS (vs := [_,_,_,_]) Z Fx.agg49 (.head _) Z (subL Z)) Z<|.sW (.tail<|.head) Z Z Fx.size49 (Rep.one r1) Z<|.a Z Z<|.a Z Z<|.nt<|.rt<|?_
  refine Sx.retN (.inl rfl) rfl (.cons (.cell rfl Fx.agg49 (.tail _<|.head _) rfl) (.cons (.tmp rfl) (.cons (.tmp rfl) .nil))) rfl fun W s => ⟨(a1,[x1,x2,x3,x4],H1),⟨hv1,u2,r1⟩,?_,s.pickT (hd := [_,_]) (tl := bs) (hd' := []) [] rfl rfl⟩
  unfold pzR pzO pzE
  simp only [hZ,hck,if_true]
  rfl
 try simp only [df] at h18
 have hZ : ¬ (sgZ gFt t).e = 0 := by unfold sgZ;omega
 refine .sk<|.tN<|.sq<|.sr<|.m Z Z<|.yv (.neq Z Z) Z<|.nt<|.cd Z (fun h25 => ?_) (fun h25 => ?_)
 ·skip
  refine .sr<|.yv (.build Z Fx.bld49) Z<|.m Z Z<|.m Z Z<|.sW (.tail<|.head) Z Z Fx.size49 (by simp [Value.oneCell']) Z<|.a Z Z<|.a Z Z<|.nt<|.rt<|.tR<|?_
  refine Sx.retN (.inl rfl) rfl (.cons (.cell rfl Fx.agg49 (.tail _<|.head _) rfl) (.cons (.tmp rfl) (.cons (.tmp rfl) .nil))) rfl fun W s => ⟨(a1,[x1,x2,x3,x4],H1),⟨hv1,u2,r1⟩,?_,s.pickT (hd := [_,_]) (tl := bs) (hd' := []) [] rfl rfl⟩
  unfold pzR pzO pzE
  simp only [hZ,if_false]
  rfl
 exact absurd (show (sgZ gFt t).e = 0 by unfold sgZ;have := Classical.not_not.1 (of_decide_eq_false h25);omega) hZ
end Go.Proofs.YthhoebdlfjffkaaGreatDoor
namespace Go.Proofs.YthhoebdlfjffkaaGreatDoor
section
variable {α β : Type}
def En (p : Pz α) : Prop := p [] = .er [] 8 ∨ ∃ b,p [] = .ok b []
def Pf (N : Nat) (p : Pz α) : Prop := ∀ r a q,r.length ≤ N → p r = .ok a q → ∃ u,r = u ++ q ∧ (∀ v w,u = v ++ w → p v = .er [] 8 ∨ ∃ b,p v = .ok b []) ∧ (∀ v,v ≠ [] → v.head? = q.head? → p (u ++ v) = .ok a v)
theorem Pf.le {N M : Nat} {p : Pz α} (h : Pf N p) (k : M ≤ N) : Pf M p := fun r a q hr e => h r a q (Nat.le_trans hr k) e
theorem Pf.zero {p : Pz α} (h : Shr p) : Pf 0 p := fun r a q hr e => by
 obtain rfl : r = [] := List.eq_nil_of_length_eq_zero (by omega)
 have := h _ _ _ e
 obtain rfl : q = [] := List.eq_nil_of_length_eq_zero (by simpa using this)
 refine ⟨[],rfl,fun v w h => ?_,fun v hv h => ?_⟩
 ·obtain rfl := (List.append_eq_nil_iff.1 h.symm).1
  exact .inr ⟨a,e⟩
 ·cases v with
  | nil => exact absurd rfl hv
  | cons x v => cases h
theorem En.pure (a : α) : En (gPure a) := .inr ⟨a,rfl⟩
theorem En.bind {p : Pz α} {f : α → Pz β} (h : En p) (k : ∀ a,En (f a)) : En (gBind p f) := by
 rcases h with h | ⟨b,h⟩
 ·exact .inl (by unfold gBind;rw [h];rfl)
 ·have e : gBind p f [] = f b [] := by unfold gBind;rw [h];rfl
  rcases k b with k | ⟨c,k⟩
  ·exact .inl (e.trans k)
  ·exact .inr ⟨c,e.trans k⟩
theorem En.nd (w : Str) : En (gNd w) := .inl rfl
theorem En.nm : En gNm := .inl rfl
theorem En.nu : En gNu := .inl rfl
theorem En.alt {w : Str} {p q : Pz α} (h : En q) : En (gAlt w p q) := h
theorem En.many {w : Str} {p : Pz α} : En (gMany w p) := .inr ⟨[],rfl⟩
theorem Pf.pure {N : Nat} (a : α) : Pf N (gPure a) := fun r b q _ e => by
 injection e with e1 e2
 subst e1;subst e2
 refine ⟨[],rfl,fun v w h => ?_,fun v _ _ => rfl⟩
 obtain rfl := (List.append_eq_nil_iff.1 h.symm).1
 exact .inr ⟨a,rfl⟩
theorem Pf.bindS {N M : Nat} {p : Pz α} {f : α → Pz β} (hp : Pf N p) (hM : ∀ r a q,r.length ≤ N → p r = .ok a q → q.length ≤ M) (hf : ∀ a,Pf M (f a)) (he : ∀ a,En (f a)) : Pf N (gBind p f) := by
 intro r b q' hr e
 obtain ⟨a,q,h1,h2⟩ := Rs.bind_ok e
 obtain ⟨u1,rfl,A1,B1⟩ := hp _ _ _ hr h1
 obtain ⟨u2,rfl,A2,B2⟩ := hf a _ _ _ (hM _ _ _ hr h1) h2
 have go : ∀ x c y,p x = .ok c y → gBind p f x = f c y := fun x c y h => by unfold gBind;rw [h];rfl
 have fst : ∀ v w,u1 = v ++ w → gBind p f v = .er [] 8 ∨ ∃ b,gBind p f v = .ok b [] := fun v w h => by
  rcases A1 v w h with h3 | ⟨b',h3⟩
  ·exact .inl (by unfold gBind;rw [h3];rfl)
  ·rw [go _ _ _ h3]
   exact he b'
 have hd : ∀ (x y z : List Tk),(y.head? = z.head?) → (x ++ y).head? = (x ++ z).head? := fun x y z h => by
  cases x with
  | nil => exact h
  | cons t x => rfl
 refine ⟨u1 ++ u2,(List.append_assoc ..).symm,fun v w h => ?_,fun v hv h => ?_⟩
 ·rcases List.append_eq_append_iff.1 h with ⟨a',rfl,rfl⟩ | ⟨c,rfl,rfl⟩
  ·cases a' with
   | nil =>
    rw [List.append_nil]
    exact fst u1 [] (List.append_nil _).symm
   | cons t a' =>
    rw [go _ _ _ (B1 (t :: a') (by simp) rfl)]
    exact A2 (t :: a') w rfl
  ·exact fst v c rfl
 ·rw [List.append_assoc,go _ _ _ (B1 (u2 ++ v) (fun k => hv (List.append_eq_nil_iff.1 k).2) (hd _ _ _ h))]
  exact B2 v hv h
theorem Pf.bind {N : Nat} {p : Pz α} {f : α → Pz β} (hp : Pf N p) (hf : ∀ a,Pf N (f a)) (he : ∀ a,En (f a)) : Pf N (gBind p f) := .bindS hp (fun r a q hr e => by
 obtain ⟨u,rfl,_⟩ := hp r a q hr e
 rw [List.length_append] at hr
 omega) hf he
theorem Pf.one {N : Nat} {p : Pz α} (h0 : p [] = .er [] 8) (h1 : ∀ t,(∃ a,∀ r,p (t :: r) = .ok a r) ∨ ∀ r,∃ r' c,p (t :: r) = .er r' c) : Pf N p := by
 intro r a q _ e
 cases r with
 | nil => rw [h0] at e;cases e
 | cons t r =>
  rcases h1 t with ⟨b,h⟩ | h
  ·rw [h] at e
   injection e with e1 e2
   subst e1;subst e2
   refine ⟨[t],rfl,fun v w hv => ?_,fun v _ _ => h v⟩
   cases v with
   | nil => exact .inl h0
   | cons x v =>
    injection hv with hx hv
    subst hx
    obtain rfl := (List.append_eq_nil_iff.1 hv.symm).1
    exact .inr ⟨b,h []⟩
  ·obtain ⟨r',c,h⟩ := h r
   rw [h] at e
   cases e
theorem Pf.nd {N : Nat} (w : Str) : Pf N (gNd w) := .one rfl fun t => by
 cases e : isT w [t] with
 | true => exact .inl ⟨(),fun r => by show (if isT w [t] = true then _ else _) = _;rw [if_pos e];rfl⟩
 | false => exact .inr fun r => ⟨_,_,by show (if isT w [t] = true then _ else _) = _;rw [if_neg (by rw [e];decide)]⟩
theorem Pf.nm {N : Nat} : Pf N gNm := .one rfl fun t => by
 by_cases e : t.k = 1
 ·exact .inl ⟨t.t,fun r => by unfold gNm;simp only [e,if_true]⟩
 ·exact .inr fun r => ⟨t :: r,8,by unfold gNm;simp only [e,if_false]⟩
theorem Pf.nu {N : Nat} : Pf N gNu := .one rfl fun t => by
 by_cases e : t.k = 3
 ·by_cases e2 : numV t.t ≤ 9223372036854775807
  ·exact .inl ⟨Int64.ofNat (numV t.t),fun r => by unfold gNu;simp only [e,e2,if_true]⟩
  ·exact .inr fun r => ⟨t :: r,2,by unfold gNu;simp only [e,e2,if_true,if_false]⟩
 ·exact .inr fun r => ⟨t :: r,8,by unfold gNu;simp only [e,if_false]⟩
theorem Pf.choice {N : Nat} {c : List Tk → Bool} {p : Tk → Pz α} {q g : Pz α} (hc0 : c [] = false) (hc : ∀ t r r',c (t :: r) = c (t :: r')) (hT : ∀ t r,c (t :: r) = true → g (t :: r) = p t r) (hF : ∀ r,c r = false → g r = q r)
 (hp : ∀ t M,M + 1 ≤ N → Pf M (p t)) (hq : Pf N q) (he : En q) : Pf N g := by
 intro r a z hr e
 cases h : c r with
 | true =>
  cases r with
  | nil => rw [hc0] at h;cases h
  | cons t r =>
   rw [hT _ _ h] at e
   obtain ⟨u,rfl,A,B⟩ := hp t r.length (by simpa using hr) _ _ _ (Nat.le_refl _) e
   refine ⟨t :: u,rfl,fun v w hv => ?_,fun v hn hv => ?_⟩
   ·cases v with
    | nil => rw [hF _ hc0];exact he
    | cons x v =>
     injection hv with hx hv
     subst hx
     rw [hT _ _ ((hc ..).trans h)]
     exact A v w hv
   ·show g (t :: (u ++ v)) = _
    rw [hT _ _ ((hc ..).trans h)]
    exact B v hn hv
 | false =>
  rw [hF _ h] at e
  obtain ⟨u,rfl,A,B⟩ := hq _ _ _ hr e
  have pre : ∀ v,(v = [] ∨ v.head? = (u ++ z).head?) → c v = false := fun v hv => by
   cases v with
   | nil => exact hc0
   | cons x v =>
    rcases hv with hv | hv
    ·cases hv
    ·cases k : u ++ z with
     | nil => rw [k] at hv;cases hv
     | cons y s =>
      rw [k] at hv h
      injection hv with hv
      subst hv
      exact (hc x v s).trans h
  refine ⟨u,rfl,fun v w hv => ?_,fun v hn hv => ?_⟩
  ·rw [hF _ (pre v (by rw [hv];cases v <;> simp))]
   exact A v w hv
  ·rw [hF _ (pre (u ++ v) (.inr (by cases u <;> first | exact hv | rfl)))]
   exact B v hn hv
theorem Pf.look {N : Nat} {c : List Tk → Bool} {p q g : Pz α} (hc0 : c [] = false) (hc : ∀ t r r',c (t :: r) = c (t :: r')) (hT : ∀ r,c r = true → g r = p r) (hF : ∀ r,c r = false → g r = q r)
 (hp : Pf N p) (hq : Pf N q) (he : En q) : Pf N g := by
 intro r a z hr e
 have pre : ∀ (x : Bool) (v : List Tk),v ≠ [] → v.head? = r.head? → c r = x → c v = x := fun x v hn h2 h3 => by
  cases v with
  | nil => exact absurd rfl hn
  | cons y v =>
   cases r with
   | nil => cases h2
   | cons t r =>
    injection h2 with h2
    subst h2
    exact (hc ..).trans h3
 have h1 : ∀ (u v w : List Tk),r = u ++ z → u = v ++ w → v ≠ [] → v.head? = r.head? := fun u v w h2 h3 hn => by
  cases v with
  | nil => exact absurd rfl hn
  | cons y v => rw [h2,h3];rfl
 have h2 : ∀ (u v : List Tk),r = u ++ z → v.head? = z.head? → (u ++ v).head? = r.head? := fun u v h3 h4 => by
  rw [h3]
  cases u with
  | nil => exact h4
  | cons y u => rfl
 cases h : c r with
 | true =>
  rw [hT _ h] at e
  obtain ⟨u,hu,A,B⟩ := hp _ _ _ hr e
  refine ⟨u,hu,fun v w hv => ?_,fun v hn hv => ?_⟩
  ·by_cases hn : v = []
   ·subst hn;rw [hF _ hc0];exact he
   ·rw [hT _ (pre _ v hn (h1 u v w hu hv hn) h)]
    exact A v w hv
  ·rw [hT _ (pre _ (u ++ v) (fun k => hn (List.append_eq_nil_iff.1 k).2) (h2 u v hu hv) h)]
   exact B v hn hv
 | false =>
  rw [hF _ h] at e
  obtain ⟨u,hu,A,B⟩ := hq _ _ _ hr e
  refine ⟨u,hu,fun v w hv => ?_,fun v hn hv => ?_⟩
  ·by_cases hn : v = []
   ·subst hn;rw [hF _ hc0];exact he
   ·rw [hF _ (pre _ v hn (h1 u v w hu hv hn) h)]
    exact A v w hv
  ·rw [hF _ (pre _ (u ++ v) (fun k => hn (List.append_eq_nil_iff.1 k).2) (h2 u v hu hv) h)]
   exact B v hn hv
theorem Pf.alt {N : Nat} {w : Str} {p q : Pz α} (hp : ∀ M,M + 1 ≤ N → Pf M p) (hq : Pf N q) (he : En q) : Pf N (gAlt w p q) :=
 .choice (c := isT w) (p := fun _ => p) rfl (fun _ _ _ => rfl) (fun t r h => by unfold gAlt;rw [if_pos h];rfl) (fun r h => by unfold gAlt;rw [if_neg (by rw [h];decide)]) (fun _ => hp) hq he
theorem Pf.many {w : Str} {p : Pz α} (hs : Shr p) : ∀ (N : Nat),(∀ M,M + 1 ≤ N → Pf M p) → Pf N (gMany w p)
 | 0,_ => .zero (.many hs)
 | N + 1,h => by
  rw [gMany_eq hs]
  refine .alt (fun M hM => ?_) (.pure _) (.pure _)
  exact .bind (h M hM) (fun a => .bind ((Pf.many hs N fun M hM => h M (by omega)).le (by omega)) (fun _ => .pure _) (fun _ => .pure _)) (fun a => .bind .many fun _ => .pure _)
end
section
variable {α β : Type}
structure PE (N : Nat) (p : Pz α) : Prop where
 pf : Pf N p
 en : En p
theorem PE.le {N M : Nat} {p : Pz α} (h : PE N p) (k : M ≤ N) : PE M p := ⟨h.pf.le k,h.en⟩
theorem PE.pure {N : Nat} (a : α) : PE N (gPure a) := ⟨.pure a,.pure a⟩
theorem PE.bind {N : Nat} {p : Pz α} {f : α → Pz β} (hp : PE N p) (hf : ∀ a,PE N (f a)) : PE N (gBind p f) := ⟨.bind hp.pf (fun a => (hf a).pf) (fun a => (hf a).en),.bind hp.en fun a => (hf a).en⟩
theorem PE.nd {N : Nat} (w : Str) : PE N (gNd w) := ⟨.nd w,.nd w⟩
theorem PE.nm {N : Nat} : PE N gNm := ⟨.nm,.nm⟩
theorem PE.nu {N : Nat} : PE N gNu := ⟨.nu,.nu⟩
theorem PE.alt {N : Nat} {w : Str} {p q : Pz α} (hp : ∀ M,M + 1 ≤ N → PE M p) (hq : PE N q) : PE N (gAlt w p q) := ⟨.alt (fun M h => (hp M h).pf) hq.pf hq.en,.alt hq.en⟩
theorem PE.many {N : Nat} {w : Str} {p : Pz α} (hs : Shr p) (hp : ∀ M,M + 1 ≤ N → PE M p) : PE N (gMany w p) := ⟨.many hs N fun M h => (hp M h).pf,.many⟩
theorem PE.list {N : Nat} {p : Pz α} (hs : Shr p) (hp : ∀ M,M ≤ N → PE M p) : PE N (gList p) := .bind (.nd _) fun _ => .alt (fun M _ => .pure _) (.bind (hp N (Nat.le_refl _)) fun _ => .bind (.many hs fun M h => hp M (by omega)) fun _ => .bind (.nd _) fun _ => .pure _)
end
theorem opAt_nil (lv : Nat) : opAt lv [] = none := by
 have h : (opsL lv).find? (fun x => isT x.1 []) = none := List.find?_eq_none.2 (fun x _ => Bool.false_ne_true)
 unfold opAt
 rw [h]
 rfl
theorem En.l (lv : Nat) (a : Ex) : En (gL lv a) := .inr ⟨a,pL_none (opAt_nil lv)⟩
theorem En.nam : En gNam := .bind .nm fun _ => .alt (.pure _)
theorem En.prim : En gPrim := .alt<|.alt<|.alt<|.alt<|.alt<|.alt En.nam
theorem En.x : ∀ (d lv : Nat),lv + d = 5 → En (gX lv)
 | 0,lv,h => by
  obtain rfl : lv = 5 := by omega
  rw [gX_un,prim_eq]
  exact .alt (.alt En.prim)
 | d + 1,lv,h => by
  rw [gX_low (by omega)]
  exact .bind (En.x d (lv + 1) (by omega)) fun a => En.l lv a
theorem Shr.l (lv : Nat) (a : Ex) : Shr (gL lv a) := fun r b r' e => (pE_len _).2 _ _ _ _ _ e
theorem Pf.xl : ∀ (N : Nat),(∀ lv,lv ≤ 5 → Pf N (gX lv)) ∧ (∀ lv,lv ≤ 4 → ∀ a,Pf N (gL lv a))
 | 0 => ⟨fun lv _ => .zero (Shs.gx lv).le,fun lv _ a => .zero (Shr.l lv a)⟩
 | N + 1 => by
  obtain ⟨ih1,ih2⟩ := Pf.xl N
  have x : ∀ lv,lv ≤ 5 → ∀ M,M + 1 ≤ N + 1 → PE M (gX lv) := fun lv h M hM => ⟨(ih1 lv h).le (by omega),En.x (5 - lv) lv (by omega)⟩
  have hk : ∀ lv op a b,lv ≤ 4 → ∀ M,M + 1 ≤ N + 1 → PE M (gK lv op a b) := fun lv op a b h M hM => by
   unfold gK
   split
   ·exact .pure _
   ·exact ⟨(ih2 lv h _).le (by omega),En.l lv _⟩
  have hl : ∀ lv,lv ≤ 4 → ∀ a,Pf (N + 1) (gL lv a) := fun lv h a => by
   refine .choice (c := fun r => (opAt lv r).isSome) (p := fun t => match opAt lv [t] with | some op => gBind (gX (lv + 1)) (gK lv op a) | none => gPure a) (q := gPure a) ?_ (fun _ _ _ => rfl) ?_ ?_ ?_ (.pure _) (.pure _)
   ·show (opAt lv []).isSome = false
    rw [opAt_nil]
    rfl
   ·intro t r e
    obtain ⟨op,e⟩ := Option.isSome_iff_exists.1 e
    have e2 : opAt lv [t] = some op := e
    simp only [e2]
    show pL lv a (t :: r) = _
    rw [pL_some h e]
    refine Rs.bind_congr rfl fun b q _ => ?_
    unfold gK
    split <;> rfl
   ·intro r e
    have e2 : opAt lv r = none := by
     cases k : opAt lv r with
     | none => rfl
     | some op => rw [k] at e;cases e
    exact pL_none e2
   ·intro t M hM
    show Pf M (match opAt lv [t] with | some op => gBind (gX (lv + 1)) (gK lv op a) | none => gPure a)
    cases opAt lv [t] with
    | none => exact .pure _
    | some op => exact (PE.bind (x (lv + 1) (by omega) M hM) fun b => hk lv op a b h M hM).pf
  have key : ∀ op nm M,M + 1 ≤ N + 1 → PE M (gKey op nm) := fun op nm M hM => .bind (x 0 (by omega) M hM) fun _ => .bind (.nd _) fun _ => .pure _
  have nam : PE (N + 1) gNam := .bind .nm fun s => .alt (fun M hM => key 6 s M hM) (.pure _)
  have last : PE (N + 1) gLast := ⟨.look (c := isNum) (p := gNum) (q := gNam) rfl (fun _ _ _ => rfl) (fun r h => by unfold gLast;rw [if_pos h]) (fun r h => by unfold gLast;rw [if_neg (by rw [h];decide)]) (PE.bind .nu fun _ => .pure _).pf nam.pf nam.en,nam.en⟩
  have prim : PE (N + 1) gPrim := .alt (fun _ _ => .pure _)<|.alt (fun _ _ => .pure _)<|.alt (fun _ _ => .pure _)<|.alt (fun _ _ => .bind .nm fun _ => .pure _)<|.alt (fun M hM => .bind .nm fun s => .bind (.nd _) fun _ => key 7 s M hM)<|.alt (fun M hM => .bind (x 0 (by omega) M hM) fun _ => .bind (.nd _) fun _ => .pure _) last
  have h5 : PE (N + 1) (gX 5) := by
   rw [gX_un,prim_eq]
   exact .alt (fun M hM => .bind (x 5 (by omega) M hM) fun _ => .pure _)<|.alt (fun M hM => .bind (x 5 (by omega) M hM) fun _ => .pure _) prim
  have all : ∀ d lv,lv + d = 5 → PE (N + 1) (gX lv) := fun d => by
   induction d with
   | zero =>
    intro lv h
    obtain rfl : lv = 5 := by omega
    exact h5
   | succ d ih =>
    intro lv h
    rw [gX_low (by omega)]
    exact .bind (ih (lv + 1) (by omega)) fun a => ⟨hl lv (by omega) a,En.l lv a⟩
  exact ⟨fun lv h => (all (5 - lv) lv (by omega)).pf,hl⟩
theorem PE.ex {N : Nat} : PE N gEx := ⟨(Pf.xl N).1 0 (by omega),En.x 5 0 rfl⟩
theorem PE.st {N : Nat} {b : Pz (List Sm)} (hb : ∀ M,M + 1 ≤ N → PE M b) : PE N (gSt b) := by
 have blk : ∀ M,M + 1 ≤ N → PE M (gBlk b) := fun M h => .bind (.nd _) fun _ => .bind (hb M h) fun _ => .bind (.nd _) fun _ => .pure _
 have els : ∀ M,M + 1 ≤ N → PE M (gEls b) := fun M h => .alt (fun M' h' => blk M' (by omega)) (.pure _)
 have oth : ∀ M,M + 1 ≤ N → PE M (gOth b) := fun M h => .alt (fun M' h' => blk M' (by omega)) (.bind (.nd _) fun _ => .pure _)
 have lst : ∀ M,PE M (gList gEx) := fun M => .list Shs.ex.le fun _ _ => .ex
 exact .alt (fun M h => .bind .ex fun _ => .bind (blk M h) fun _ => .bind (els M h) fun _ => .pure _)<|.alt (fun M h => .bind .ex fun _ => .bind (blk M h) fun _ => .pure _)<|.alt (fun M h => .bind .ex fun _ => .bind (.nd _) fun _ => .bind .ex fun _ => .bind (oth M h) fun _ => .pure _)<|.alt (fun M h => .bind .nm fun _ => .bind (.nd _) fun _ => .bind .ex fun _ => .bind (oth M h) fun _ => .pure _)<|.alt (fun M h => .bind .nm fun _ => .bind (.nd _) fun _ => .bind .nm fun _ => .bind (lst M) fun _ => .bind (.nd _) fun _ => .pure _)<|.alt (fun M h => .bind .ex fun _ => .bind (.nd _) fun _ => .bind .nm fun _ => .bind (lst M) fun _ => .bind (.nd _) fun _ => .pure _)<|.alt (fun M h => .bind (.nd _) fun _ => .pure _)<|.alt (fun M h => .bind .nm fun _ => .bind (.nd _) fun _ => .bind .ex fun _ => .bind (.nd _) fun _ => .bind (.nd _) fun _ => .pure _)<|.bind .nm fun _ => .alt (fun M h => .bind .ex fun _ => .bind (.nd _) fun _ => .bind (.nd _) fun _ => .bind .ex fun _ => .bind (.nd _) fun _ => .pure _)
  (.bind (.nd _) fun _ => .bind .ex fun _ => .bind (.nd _) fun _ => .pure _)
theorem En.b : En gB := .inl (by rw [gB_eq];rfl)
theorem PE.b : ∀ N,PE N gB
 | 0 => ⟨.zero Shr.b,En.b⟩
 | N + 1 => by
  have st : PE (N + 1) (gSt gB) := .st fun M h => (PE.b N).le (by omega)
  have rest : ∀ a : Sm,PE N (gBind gB fun l => gPure (a :: l)) := fun a => .bind (PE.b N) fun _ => .pure _
  refine ⟨.look (c := isT [125]) (p := gPure []) (q := gBind (gSt gB) fun s => gBind gB fun l => gPure (s :: l)) rfl (fun _ _ _ => rfl) (fun r h => ?_) (fun r h => ?_) (.pure _)
   (.bindS st.pf (fun r a q hr e => ?_) (fun a => (rest a).pf) (fun a => (rest a).en)) (.bind st.en fun a => (rest a).en),En.b⟩
  ·rw [gB_eq,if_pos h]
   rfl
  ·rw [gB_eq,if_neg (by rw [h];decide)]
   rfl
  ·have := Shs.st Shr.b _ _ _ e
   omega
theorem PE.blk {N : Nat} : PE N (gBlk gB) := .bind (.nd _) fun _ => .bind (.b N) fun _ => .bind (.nd _) fun _ => .pure _
theorem PE.int {N : Nat} : PE N gInt := .alt (fun _ _ => .bind .nu fun _ => .pure _) .nu
theorem PE.hd {N : Nat} : PE N gHd := .bind .nm fun _ => .bind (.list Shs.nm.le fun _ _ => .nm) fun _ => .bind .blk fun _ => .pure _
structure Xf {α : Type} (p : Pz α) : Prop where
 no : p [] = .er [] 8
 go : ∀ r a q w,p r = .ok a q → p (r ++ w) = .ok a (q ++ w)
theorem Xf.nd (w : Str) : Xf (gNd w) := ⟨rfl,fun r a q z e => by
 cases r with
 | nil => cases e
 | cons t r =>
  unfold gNd at e
  split at e
  ·rename_i h
   injection e with _ e
   subst e
   show (if isT w (t :: (r ++ z)) = true then _ else _) = _
   have h2 : isT w (t :: (r ++ z)) = true := h
   rw [if_pos h2]
   rfl
  ·cases e⟩
theorem Xf.pure {α β : Type} {p : Pz α} {f : α → β} (h : Xf p) : Xf (gBind p fun a => gPure (f a)) := ⟨by unfold gBind;rw [h.no];rfl,fun r b q w e => by
 obtain ⟨a,q1,h1,h2⟩ := Rs.bind_ok e
 injection h2 with h2 h3
 subst h2;subst h3
 unfold gBind
 rw [h.go r a q1 w h1]
 rfl⟩
theorem Xf.bind {α β : Type} {p : Pz α} {f : α → Pz β} (hp : ∀ N,PE N p) (hf : ∀ a,Xf (f a)) : Xf (gBind p f) := ⟨by
 unfold gBind
 rcases (hp 0).en with h | ⟨b,h⟩
 ·rw [h];rfl
 ·rw [h]
  exact (hf b).no,fun r b q' w e => by
 obtain ⟨a,q,h1,h2⟩ := Rs.bind_ok e
 have hq : q ≠ [] := fun k => by
  subst k
  rw [(hf a).no] at h2
  cases h2
 obtain ⟨u,rfl,_,B⟩ := (hp r.length).pf _ _ _ (Nat.le_refl _) h1
 have h3 := B (q ++ w) (fun k => hq (List.append_eq_nil_iff.1 k).1) (by cases q with | nil => exact absurd rfl hq | cons t q => rfl)
 unfold gBind
 rw [List.append_assoc,h3]
 exact (hf a).go q b q' w h2⟩
def exB : Nat → Ex → Ex → Bool
 | 0,_,_ => false
 | f + 1,.mk o n v l,.mk o' n' v' l' => decide (o = o') && decide (n = n') && decide (v = v') && (decide (l.length = l'.length) && (l.zip l').all fun p => exB f p.1 p.2)
theorem zip_eq {α : Type} {r : α → α → Bool} (h : ∀ a b,r a b = true → a = b) : ∀ (l m : List α),l.length = m.length → ((l.zip m).all fun p => r p.1 p.2) = true → l = m
 | [],[],_,_ => rfl
 | [],_ :: _,e,_ => by cases e
 | _ :: _,[],e,_ => by cases e
 | a :: l,b :: m,e,k => by
  rw [List.zip_cons_cons,List.all_cons,Bool.and_eq_true] at k
  rw [h a b k.1,zip_eq h l m (by simpa using e) k.2]
theorem exB_eq : ∀ (f : Nat) (a b : Ex),exB f a b = true → a = b
 | 0,_,_,h => by cases h
 | f + 1,.mk o n v l,.mk o' n' v' l',h => by
  unfold exB at h
  simp only [Bool.and_eq_true,decide_eq_true_eq] at h
  obtain ⟨⟨⟨rfl,rfl⟩,rfl⟩,h1,h2⟩ := h
  rw [zip_eq (r := exB f) (exB_eq f) l l' h1 h2]
def nmE (c : UInt8) : Ex := .mk 5 [c] 0 []
def txA : Str := [110,111,116,32,97,32,61,61,32,98]
def txB : Str := [97,32,60,32,98,32,60,32,99]
def txC : Str := [102,108,101,101,116] ++ [32,102,32,123,32] ++ [108,105,110,107] ++ [32,97,32,45,62,32,98,32] ++ [108,97,116,101,110,99,121] ++ [32] ++ [57,50,50,51,51,55,50,48,51,54,56,53,52,55,55,53,56,48,56] ++ [59,32,125]
def txD : Str := [40,97]
def okB (x : Rs Ex) (a : Ex) : Bool := match x with | .ok b r => r.isEmpty && exB 5 b a | .er _ _ => false
theorem okB_eq {x : Rs Ex} {a : Ex} (h : okB x a = true) : x = .ok a [] := by
 unfold okB at h
 cases x with
 | er r c => cases h
 | ok b r =>
  simp only [Bool.and_eq_true,List.isEmpty_iff] at h
  rw [h.1,exB_eq 5 _ _ h.2]
theorem awA : gX 0 (lexR txA) = .ok (opE 16 [opE 10 [nmE 97],nmE 98]) [] := okB_eq (by decide +kernel)
theorem awB : (sgZ (gX 0) txB).e = 8 ∧ (sgZ (gX 0) txB).o = 6 := by decide +kernel
theorem awC : (sgZ gFt txC).e = 2 ∧ (sgZ gFt txC).o = 30 := by decide +kernel
theorem awD : (sgZ (gX 0) txD).e = 8 ∧ (sgZ (gX 0) txD).o = 2 := by decide +kernel
end Go.Proofs.YthhoebdlfjffkaaGreatDoor
namespace Go.Proofs.YthhoebdlfjffkaaGreatDoor
open Go.RowKit Go.Par Go.Sx
theorem Fx.call11 : callN Tryz.prog 11 = Bool.true := by kernel_rfl
theorem Fx.call19 : callN Tryz.prog 19 = Bool.true := by kernel_rfl
theorem awA_check : checkE (opE 16 [opE 10 [nmE 97],nmE 98]) = 0 := by decide +kernel
theorem parse_bad {H : Hp} (G : Gl H) {w0 W : World} {bs : List Res} {t : Str} {c o : Nat} (ht : t.length ≤ 9223372036854775807) (hc : (sgZ gFt t).e = c) (ho : (sgZ gFt t).o = o) (h0 : c ≠ 0)
 (hcp : (up t.length (gMany [108,105,110,107] gLk) (up t.length (gMany [102,108,97,103] gFg) (up t.length (gNd [123]) (up t.length gNm (up t.length (gNd [102,108,101,101,116]) (sg0 t)))))).e = 0 → False) (s : St H w0 bs W) :
 Calls Tryz.prog 19 #[strV t] W fun e W' => ∃ z : Hp,HUp w0 H z ∧ e = .returned (.tuple #[.agg ([.string ⟨#[]⟩,.slice none 0 0,.slice none 0 0,.slice none 0 0] : List Value).toArray,.int .i64 (o : Nat),.int .i64 (c : Nat)]) ∧ St z w0 bs W' := by
 subst hc ho
 refine (parse_st G t ht (fun f _ h => absurd h h0) (fun h => (hcp h).elim) s).mono ?_
 rintro e W' ⟨z,⟨h1,h2,h3⟩,h4,h5⟩
 refine ⟨z.2.2,h2,?_,h5⟩
 rw [h4]
 unfold pzR pzO pzE
 simp only [h0,if_false,false_and]
set_option maxRecDepth 100000 in
theorem awake_any (H : Hp) (G : Gl H) (w : World) (hA : Agr H w) : Calls Tryz.prog 9 #[] w fun r w' => r = .returned (.bool true) ∧ Ext w w' := by
 refine Sx.enter (H := H) Tryz.func9 rfl Tryz.ntmps9 rfl hA ?_
 refine .sr<|.a Z Z<|.ns<|.cs (X := List Value × Hp) Fx.call11 Z (fun W s => exprP_ok (t := txA) G (by decide) awA awA_check s) Z fun z1 hz1 => ?_
 obtain ⟨c1,H1⟩ := z1
 obtain ⟨u1,r1⟩ := hz1
 dsimp only at u1 r1 ⊢
 obtain ⟨p,c,rfl,hs,_⟩ := ex_open r1
 obtain ⟨bE,oE,cE,hpE,rE,lE,mE⟩ := hs.elem (i := 0) (d := dEx .u8 (opE 10 [nmE 97])) rfl
 obtain ⟨bF,oF,cF,hpF,rF,lF,mF⟩ := hs.elem (i := 1) (d := dEx .u8 (nmE 98)) rfl
 cases hpE
 cases hpF
 obtain ⟨p2,c2,rfl,_,_⟩ := ex_open rE
 obtain ⟨p3,c3,rfl,_,_⟩ := ex_open rF
 refine .m Z Z<|.yv (.extract Z Z) Z<|.yv (.extract Z Z) Z<|.yv (.extract Z Z) Z<|.al Fx.zero27 Z fun b1 => .sW .head Z Z Fx.size27 (Rep.one r1) Z<|.a Z Z<|.a Z Z<|.nt<|.sq<|.sr<|.m Z Z<|.yv (.cast (.neq Z Z) (congrArg Value.bool (decide_eq_false (fun h => h Z)))) Z<|.m Z Z<|.gd Z Z<|.yv (.move Z) Z<|.gd Z Z<|.yv (.cast (.neq Z Z) (congrArg Value.bool (decide_eq_false (fun h => h Z)))) Z<|.yv (.pickF Z Z) Z<|.m Z Z<|.gd Z Z<|.yv (.fieldAddr Z Fx.field27_0) Z<|.gd Z Z<|.yv (.load Z Fx.agg24 (.head _) Z) Z<|.gd Z Z<|.yv (.cast (.neq Z Z) (congrArg Value.bool (decide_eq_false (fun h => h Z)))) Z<|.yv (.pickF Z Z) Z<|.m Z Z<|.gd Z Z<|.yv (.fieldAddr Z Fx.field27_3) Z<|.gd Z Z<|.yv (.load Z Fx.agg25 (.head _) Z) Z<|.gd Z Z<|.yv (.lenSl Fx.sl25 Z) Z<|.gd Z Z<|.yv (.cast (.neq Z Z) (congrArg Value.bool (decide_eq_false (fun h => h Z)))) Z<|.yv (.pickF Z Z) Z<|.m Z Z<|.gd Z Z<|.yv (.fieldAddr Z Fx.field27_3) Z<|.gd Z Z<|.yv (.load Z Fx.agg25 (.head _) Z) Z<|.gd Z Z<|.yv (.indexSl Fx.sl25 Z Z (i := 0) Z (by decide) (q := oE + 0 * 4) (by omega)) Z<|.gd Z Z<|.yv (.fieldAddr Z Fx.field27_0) Z<|.gd Z Z<|.yv (.loadM Z Fx.agg24 mE (k := 0) Z Z) Z<|.gd Z Z<|.yv (.cast (.neq Z Z) (congrArg Value.bool (decide_eq_false (fun h => h Z)))) Z<|.yv (.pickF Z Z) Z<|.m Z Z<|.gd Z Z<|.yv (.fieldAddr Z Fx.field27_3) Z<|.gd Z Z<|.yv (.load Z Fx.agg25 (.head _) Z) Z<|.gd Z Z<|.yv (.indexSl Fx.sl25 Z Z (i := 1) Z (by decide) (q := oE + 1 * 4) (by omega)) Z<|.gd Z Z<|.yv (.fieldAddr Z Fx.field27_1) Z<|.gd Z Z<|.yv (.loadM Z Fx.agg9 mF (k := 1) Z Z) Z<|.gd Z Z<|.yv (.cast (.neS Z Z) (congrArg Value.bool (decide_eq_false (fun h => h Z)))) Z<|.yv (.pickF Z Z) Z<|.nt<|.cF Z<|.sk<|.tN<|.sr<|.cs (X := Hp) Fx.call11 Z (fun W s => exprP_bad (t := txB) (G.up u1.up) (by decide) awB.1 awB.2 (by decide) s) Z fun H2 u2 => .m Z Z<|.yv (.extract Z Z) Z<|.yv (.extract Z Z) Z<|.yv (.extract Z Z) Z<|.a Z Z<|.a Z Z<|.ns<|.cs (X := Hp) Fx.call19 Z (fun W s => parse_bad (t := txC) ((G.up u1.up).up u2.up) (by decide) awC.1 awC.2 (by decide) (fun h => absurd h (by decide +kernel)) s) Z fun H3 u3 => .m Z Z<|.yv (.extract Z Z) Z<|.yv (.extract Z Z) Z<|.yv (.extract Z Z) Z<|.al Fx.zero49 Z fun b4 => .sW .head Z Z Fx.size49 (by simp [Value.oneCell']) Z<|.a Z Z<|.a Z Z<|.ns<|.cs (X := Hp) Fx.call11 Z (fun W s => exprP_bad (t := txD) (((G.up u1.up).up u2.up).up u3.up) (by decide) awD.1 awD.2 (by decide) s) Z fun H4 u4 => .m Z Z<|.yv (.extract Z Z) Z<|.yv (.extract Z Z) Z<|.yv (.extract Z Z) Z<|.al Fx.zero27 Z fun b7 => .sW .head Z Z Fx.size27 (by simp [Value.oneCell']) Z<|.a Z Z<|.a Z Z<|.ns<|.m Z Z<|.yv (.cast (.eql Z Z) (congrArg Value.bool (decide_eq_true Z))) Z<|.m Z Z<|.gd Z Z<|.yv (.move Z) Z<|.gd Z Z<|.yv (.cast (.eql Z Z) (congrArg Value.bool (decide_eq_true Z))) Z<|.yv (.pickT Z Z) Z<|.m Z Z<|.gd Z Z<|.yv (.move Z) Z<|.gd Z Z<|.yv (.cast (.eql Z Z) (congrArg Value.bool (decide_eq_true Z))) Z<|.yv (.pickT Z Z) Z<|.m Z Z<|.gd Z Z<|.yv (.move Z) Z<|.gd Z Z<|.yv (.cast (.eql Z Z) (congrArg Value.bool (decide_eq_true Z))) Z<|.yv (.pickT Z Z) Z<|.m Z Z<|.gd Z Z<|.yv (.move Z) Z<|.gd Z Z<|.yv (.cast (.eql Z Z) (congrArg Value.bool (decide_eq_true Z))) Z<|.yv (.pickT Z Z) Z<|.m Z Z<|.gd Z Z<|.yv (.move Z) Z<|.gd Z Z<|.yv (.cast (.eql Z Z) (congrArg Value.bool (decide_eq_true Z))) Z<|.yv (.pickT Z Z) Z<|.a Z Z<|.nt<|.rt<|?_
 exact Sx.ret1 (.inl rfl) rfl (.tmp rfl) fun W s => ⟨rfl,s.ext⟩
noncomputable def eqP (p : Prop) : Bool := @decide p (Classical.propDecidable p)
theorem eqP_iff {p : Prop} : eqP p = true ↔ p := by unfold eqP;exact @decide_eq_true_iff p (Classical.propDecidable p)
def EqAt (gf : FuncId) {α : Type} (d : α → D) (H : Hp) (a b : α) : Prop := ∀ (ca cb : List Value) (w : World),Rep H (d a) ca → Rep H (d b) cb → Agr H w → Calls Tryz.prog gf #[.agg ca.toArray,.agg cb.toArray] w fun r w' => r = .returned (.bool (eqP (a = b))) ∧ Ext w w'
theorem take_eq_succ {α : Type} {l m : List α} {k : Nat} (h : k < l.length) (h2 : k < m.length) (ht : l.take k = m.take k) (he : l[k] = m[k]) : l.take (k + 1) = m.take (k + 1) := by rw [take_snoc h,take_snoc h2,ht,he]
set_option maxRecDepth 100000 in
theorem eqFuncE (H : Hp) (gf : FuncId) (hgf : callN Tryz.prog gf = true) (l m : List Ex) (hq : ∀ a ∈ l,∀ b,EqAt gf (dEx .u8) H a b) (v u : Value) (hs : Rep H (.seq 4 (l.map (dEx .u8))) [v]) (ht : Rep H (.seq 4 (m.map (dEx .u8))) [u]) (w : World) (hA : Agr H w) :
 Calls Tryz.prog 28 #[v,u,.func (.func gf) #[] #[]] w fun r w' => r = .returned (.bool (eqP (l = m))) ∧ Ext w w' := by
 obtain ⟨p,c,e,_⟩ := hs.sl
 simp only [List.cons.injEq,and_true,List.length_map] at e
 subst e
 obtain ⟨p2,c2,e,_⟩ := ht.sl
 simp only [List.cons.injEq,and_true,List.length_map] at e
 subst e
 have hcap := hs.cap
 have hcap2 := ht.cap
 refine Sx.enter (H := H) Tryz.func28 rfl Tryz.ntmps28 rfl hA ?_
 refine .sr<|.a Z Z<|.nt<|.sq<|.sr<|.m Z Z<|.yv (.lenSl Fx.sl25 Z) Z<|.m Z Z<|.yv (.lenSl Fx.sl25 Z) Z<|.yv (.neq Z Z) Z<|.nt<|.cd Z (fun h14 => ?_) (fun h14 => ?_)
 ·try simp only [dt] at h14
  have hne : ¬ l = m := fun e => by rw [e] at h14;exact h14 rfl
  refine .sr<|.a Z Z<|.nt<|.rt<|.tR<|?_
  refine Sx.ret1 (.inl rfl) rfl (.tmp rfl) fun W s => ⟨retB ?_,s.ext⟩
  first
   | (rw [eqP_iff];exact ⟨fun h => (by cases h),fun h => absurd h hne⟩)
   | (rw [eqP_iff];exact ⟨fun _ => heq,fun _ => rfl⟩)
 try simp only [df] at h14
 have hlen : l.length = m.length := by omega
 refine .sk<|.tN<|.sq<|.sr<|.m Z Z<|.yv (.lenSl Fx.sl25 Z) Z<|.m Z Z<|.nt<|.bk<|.lp (X := Nat) [(1,_),(2,_),(15,_),(16,_)] ⟨rfl,rfl,rfl,rfl,trivial⟩ [] (fun k => [(17,.int .i64 (k : Nat))]) (fun k => H) (fun k => []) (fun k => k ≤ l.length ∧ l.take k = m.take k) (fun k => l.length - k) 0 (fun _ s => s) ⟨rfl,trivial⟩ ⟨by omega,rfl⟩ fun k hC => ?_
 obtain ⟨hk0,hal⟩ := hC
 refine .sr<|.yv (.lss Z Z) Z<|.nt<|.sq<|.cd Z (fun h18 => ?_) (fun h18 => ?_)
 ·try simp only [dt] at h18
  have hk : k < l.length := by omega
  have hkm : k < m.length := by omega
  obtain ⟨bE,oE,cE,hpE,rE,lE,mE⟩ := hs.elem (map_at hk)
  cases hpE
  obtain ⟨bF,oF,cF,hpF,rF,lF,mF⟩ := ht.elem (map_at hkm)
  cases hpF
  refine .sk<|.tN<|.sq<|.bk<|.sr<|.m Z Z<|.yv (.indexSl Fx.sl25 Z Z Z (by omega) (q := oE + k * 4) Z) Z<|.yv (.loadMW Z Fx.agg27 mE lE) Z<|.al Fx.zero27 Z fun b8 => .a Z Z<|.sV .head Z Z Fx.size27 lE rE.one Z<|.ns<|.m Z Z<|.m Z Z<|.yv (.indexSl Fx.sl25 Z Z Z (by omega) (q := oF + k * 4) Z) Z<|.yv (.loadMW Z Fx.agg27 mF lF) Z<|.al Fx.zero27 Z fun b9 => .sV .head Z Z Fx.size27 lF rF.one Z<|.ns<|.m Z Z<|.yv (.loadW Z Fx.agg27 (.tail _<|.head _) lE) Z<|.yv (.loadW Z Fx.agg27 (.head _) lF) Z<|.yv (.callV (fi := []) (ca := []) Z hgf Z (fun W s => hq _ (List.getElem_mem hk) _ cE cF W rE rF s.agr)) Z<|.yv (.not Z) Z<|.nt<|.cd Z (fun h30 => ?_) (fun h30 => ?_)
  ·try simp only [dt] at h30
   have hne : ¬ l = m := fun e => by subst e;rw [eqP_iff.2 rfl] at h30;cases h30
   refine .sr<|.a Z Z<|.nt<|.rt<|.bR<|.tR<|.tR<|.bR<|.tR<|?_
   refine Sx.ret1 (.inl rfl) rfl (.tmp rfl) fun W s => ⟨retB ?_,s.ext⟩
   first
    | (rw [eqP_iff];exact ⟨fun h => (by cases h),fun h => absurd h hne⟩)
    | (rw [eqP_iff];exact ⟨fun _ => heq,fun _ => rfl⟩)
  try simp only [df] at h30
  have heq : l[k] = m[k] := eqP_iff.1 (by simpa using h30)
  exact .sk<|.bN<|.tN<|.rg<|.yv (.add Z Z (w6 (by omega))) Z<|.m Z Z<|.nt<|.ag (k + 1) ⟨rfl,trivial⟩ ⟨rfl,rfl,rfl,rfl,trivial⟩ (fun _ s => s.pick [] [] Z Z) ⟨by omega,take_eq_succ hk hkm hal heq⟩ (by omega)
 try simp only [df] at h18
 have heq : l = m := by
  have e : k = l.length := by omega
  have e2 : k = m.length := by omega
  have h1 := hal
  rw [e,List.take_length,hlen,List.take_length] at h1
  exact h1
 refine .ex<|.tE<|.tE<|.bE<|.tN<|.sr<|.a Z Z<|.nt<|.rt<|?_
 refine Sx.ret1 (.inl rfl) rfl (.tmp rfl) fun W s => ⟨retB ?_,s.ext⟩
 first
  | (rw [eqP_iff];exact ⟨fun h => (by cases h),fun h => absurd h hne⟩)
  | (rw [eqP_iff];exact ⟨fun _ => heq,fun _ => rfl⟩)
set_option maxRecDepth 100000 in
theorem equalExpr_any (H : Hp) (a : Ex) : ∀ b,EqAt 13 (dEx .u8) H a b := by
 induction a using Ex.ind with | _ op nm n args ih
 intro b ca cb w ha hb hA
 obtain ⟨op2,nm2,n2,args2⟩ := b
 obtain ⟨p,c,rfl,hs,hnm⟩ := ex_open ha
 obtain ⟨p2,c2,rfl,hs2,hnm2⟩ := ex_open hb
 refine Sx.enter (H := H) Tryz.func13 rfl Tryz.ntmps13 rfl hA ?_
 refine .sr<|.bx Z Z Z fun b2 => .bx Z Z Z fun b3 => .a Z Z<|.ns<|.yv (.fieldAddr Z Fx.field27_0) Z<|.yv (.load Z Fx.agg24 (.tail _<|.head _) Z) Z<|.yv (.fieldAddr Z Fx.field27_0) Z<|.yv (.load Z Fx.agg24 (.head _) Z) Z<|.yv (.eql Z Z) Z<|.m Z Z<|.b2 (fun h10 => ?_) (fun h10 => ?_)
 ·try simp only [dt] at h10
  have e1 : op = op2 := UInt8.toNat_inj.1 (by omega)
  refine .gd Z Z<|.yv (.fieldAddr Z Fx.field27_1) Z<|.gd Z Z<|.yv (.load Z Fx.agg9 (.tail _<|.head _) Z) Z<|.gd Z Z<|.yv (.fieldAddr Z Fx.field27_1) Z<|.gd Z Z<|.yv (.load Z Fx.agg9 (.head _) Z) Z<|.gd Z Z<|.yv (.eqS Z Z) Z<|.yv (.pickT Z Z) Z<|.m Z Z<|.b2 (fun h17 => ?_) (fun h17 => ?_)
  ·try simp only [dt] at h17
   have e2 : nm = nm2 := h17
   refine .gd Z Z<|.yv (.fieldAddr Z Fx.field27_2) Z<|.gd Z Z<|.yv (.load Z Fx.agg2 (.tail _<|.head _) Z) Z<|.gd Z Z<|.yv (.fieldAddr Z Fx.field27_2) Z<|.gd Z Z<|.yv (.load Z Fx.agg2 (.head _) Z) Z<|.gd Z Z<|.yv (.eql Z Z) Z<|.yv (.pickT Z Z) Z<|.m Z Z<|.b2 (fun h24 => ?_) (fun h24 => ?_)
   ·try simp only [dt] at h24
    have e3 : n = n2 := Int64.toInt_inj.1 h24
    refine .gd Z Z<|.yv (.fieldAddr Z Fx.field27_3) Z<|.gd Z Z<|.yv (.load Z Fx.agg25 (.tail _<|.head _) Z) Z<|.gd Z Z<|.yv (.fieldAddr Z Fx.field27_3) Z<|.gd Z Z<|.yv (.load Z Fx.agg25 (.head _) Z) Z<|.gd Z Z<|.yv (.call Fx.call28 Z (fun W s => eqFuncE H 13 Fx.call13 args args2 ih _ _ hs hs2 W s.agr)) Z<|.yv (.pickT Z Z) Z<|.a Z Z<|.nt<|.rt<|?_
    refine Sx.ret1 (.inl rfl) rfl (.tmp rfl) fun W s => ⟨retB ?_,s.ext⟩
    first
     | (rw [eqP_iff,eqP_iff,Ex.mk.injEq];exact ⟨fun d => ⟨e1,e2,e3,d⟩,fun h => h.2.2.2⟩)
     | (rw [eqP_iff,Ex.mk.injEq];exact ⟨fun h => (by cases h),fun h => absurd h.1 e1⟩)
     | (rw [eqP_iff,Ex.mk.injEq];exact ⟨fun h => (by cases h),fun h => absurd h.2.1 e2⟩)
     | (rw [eqP_iff,Ex.mk.injEq];exact ⟨fun h => (by cases h),fun h => absurd h.2.2.1 e3⟩)
   try simp only [df] at h24
   have e3 : ¬ n = n2 := fun e => h24 (by rw [e])
   refine .gF Z Z Z Z<|.gF Z Z Z Z<|.gF Z Z Z Z<|.gF Z Z Z Z<|.gF Z Z Z Z<|.yv (.pickF Z Z) Z<|.a Z Z<|.nt<|.rt<|?_
   refine Sx.ret1 (.inl rfl) rfl (.tmp rfl) fun W s => ⟨retB ?_,s.ext⟩
   first
    | (rw [eqP_iff,eqP_iff,Ex.mk.injEq];exact ⟨fun d => ⟨e1,e2,e3,d⟩,fun h => h.2.2.2⟩)
    | (rw [eqP_iff,Ex.mk.injEq];exact ⟨fun h => (by cases h),fun h => absurd h.1 e1⟩)
    | (rw [eqP_iff,Ex.mk.injEq];exact ⟨fun h => (by cases h),fun h => absurd h.2.1 e2⟩)
    | (rw [eqP_iff,Ex.mk.injEq];exact ⟨fun h => (by cases h),fun h => absurd h.2.2.1 e3⟩)
  try simp only [df] at h17
  have e2 : ¬ nm = nm2 := h17
  refine .gF Z Z Z Z<|.gF Z Z Z Z<|.gF Z Z Z Z<|.gF Z Z Z Z<|.gF Z Z Z Z<|.yv (.pickF Z Z) Z<|.m Z Z<|.gF Z Z Z Z<|.gF Z Z Z Z<|.gF Z Z Z Z<|.gF Z Z Z Z<|.gF Z Z Z Z<|.yv (.pickF Z Z) Z<|.a Z Z<|.nt<|.rt<|?_
  refine Sx.ret1 (.inl rfl) rfl (.tmp rfl) fun W s => ⟨retB ?_,s.ext⟩
  first
   | (rw [eqP_iff,eqP_iff,Ex.mk.injEq];exact ⟨fun d => ⟨e1,e2,e3,d⟩,fun h => h.2.2.2⟩)
   | (rw [eqP_iff,Ex.mk.injEq];exact ⟨fun h => (by cases h),fun h => absurd h.1 e1⟩)
   | (rw [eqP_iff,Ex.mk.injEq];exact ⟨fun h => (by cases h),fun h => absurd h.2.1 e2⟩)
   | (rw [eqP_iff,Ex.mk.injEq];exact ⟨fun h => (by cases h),fun h => absurd h.2.2.1 e3⟩)
 try simp only [df] at h10
 have e1 : ¬ op = op2 := fun e => h10 (by rw [e])
 refine .gF Z Z Z Z<|.gF Z Z Z Z<|.gF Z Z Z Z<|.gF Z Z Z Z<|.gF Z Z Z Z<|.yv (.pickF Z Z) Z<|.m Z Z<|.gF Z Z Z Z<|.gF Z Z Z Z<|.gF Z Z Z Z<|.gF Z Z Z Z<|.gF Z Z Z Z<|.yv (.pickF Z Z) Z<|.m Z Z<|.gF Z Z Z Z<|.gF Z Z Z Z<|.gF Z Z Z Z<|.gF Z Z Z Z<|.gF Z Z Z Z<|.yv (.pickF Z Z) Z<|.a Z Z<|.nt<|.rt<|?_
 refine Sx.ret1 (.inl rfl) rfl (.tmp rfl) fun W s => ⟨retB ?_,s.ext⟩
 first
  | (rw [eqP_iff,eqP_iff,Ex.mk.injEq];exact ⟨fun d => ⟨e1,e2,e3,d⟩,fun h => h.2.2.2⟩)
  | (rw [eqP_iff,Ex.mk.injEq];exact ⟨fun h => (by cases h),fun h => absurd h.1 e1⟩)
  | (rw [eqP_iff,Ex.mk.injEq];exact ⟨fun h => (by cases h),fun h => absurd h.2.1 e2⟩)
  | (rw [eqP_iff,Ex.mk.injEq];exact ⟨fun h => (by cases h),fun h => absurd h.2.2.1 e3⟩)
end Go.Proofs.YthhoebdlfjffkaaGreatDoor
namespace Go.Proofs.YthhoebdlfjffkaaGreatDoor
theorem nar0 {op : UInt8} {nm : Str} {n : Int64} : Ex.all narrow (.mk op nm n []) = true := by rw [all_mk,narrow_mk];rfl
theorem nar1 {op : UInt8} {nm : Str} {n : Int64} {a : Ex} (h : Ex.all narrow a = true) : Ex.all narrow (.mk op nm n [a]) = true := by rw [all_mk,narrow_mk];simp [Ex.alls,h]
theorem nar2 {op : UInt8} {nm : Str} {n : Int64} {a b : Ex} (h : Ex.all narrow a = true) (k : Ex.all narrow b = true) : Ex.all narrow (.mk op nm n [a,b]) = true := by rw [all_mk,narrow_mk];simp [Ex.alls,h,k]
theorem primE_nar {rec : List Tk → Rs Ex} (hr : ∀ q a r',rec q = .ok a r' → Ex.all narrow a = true) {r : List Tk} {a : Ex} {r' : List Tk} (h : primE rec r = .ok a r') : Ex.all narrow a = true := by
 unfold primE at h
 cases r with
 | nil => cases h
 | cons t q =>
  simp only at h
  have fin : ∀ {b : Ex} {l : List Tk},(Rs.ok b l : Rs Ex) = .ok a r' → Ex.all narrow b = true → Ex.all narrow a = true := by
   intro b l e hl
   injection e with e1 e2
   subst e1
   exact hl
  split at h
  ·split at h
   ·exact fin h nar0
   ·cases h
  split at h
  ·exact fin h nar0
  split at h
  ·exact fin h nar0
  split at h
  ·exact fin h nar0
  split at h
  ·obtain ⟨t2,r2,rfl,_,h⟩ := nameT_ok h
   exact fin h nar0
  split at h
  ·obtain ⟨x,r2,h1,h⟩ := Rs.bind_ok h
   obtain ⟨h2,h⟩ := needT_ok h
   exact fin h (hr _ _ _ h1)
  split at h
  ·obtain ⟨t2,r2,rfl,_,h⟩ := nameT_ok h
   obtain ⟨h2,h⟩ := needT_ok h
   obtain ⟨x,r4,h1,h⟩ := Rs.bind_ok h
   obtain ⟨h3,h⟩ := needT_ok h
   exact fin h (nar1 (hr _ _ _ h1))
  split at h
  ·split at h
   ·obtain ⟨x,r4,h1,h⟩ := Rs.bind_ok h
    obtain ⟨h3,h⟩ := needT_ok h
    exact fin h (nar1 (hr _ _ _ h1))
   ·exact fin h nar0
  ·cases h
theorem pE_nar : ∀ f,(∀ lv r a r',pE f (.ex lv) r = .ok a r' → Ex.all narrow a = true) ∧ (∀ lv x r a r',pE f (.lp lv x) r = .ok a r' → Ex.all narrow x = true → Ex.all narrow a = true)
 | 0 => ⟨fun lv r a r' e => (by unfold pE at e;cases e),fun lv x r a r' e => (by unfold pE at e;cases e)⟩
 | f + 1 => by
  obtain ⟨ih1,ih2⟩ := pE_nar f
  refine ⟨fun lv r a r' h => ?_,fun lv x r a r' h hK => ?_⟩
  ·rw [pE_ex] at h
   split at h
   ·obtain ⟨b,q,h1,h2⟩ := Rs.bind_ok h
    exact ih2 _ _ _ _ _ h2 (ih1 _ _ _ _ h1)
   split at h
   ·obtain ⟨b,q,h1,h2⟩ := Rs.bind_ok h
    injection h2 with e1 e2;subst e1;exact nar1 (ih1 _ _ _ _ h1)
   split at h
   ·obtain ⟨b,q,h1,h2⟩ := Rs.bind_ok h
    injection h2 with e1 e2;subst e1;exact nar1 (ih1 _ _ _ _ h1)
   ·exact primE_nar (fun q b r2 e => ih1 _ _ _ _ e) h
  ·rw [pE_lp] at h
   split at h
   ·injection h with e1 e2;subst e1;exact hK
   ·rename_i op e
    obtain ⟨b,q,h1,h2⟩ := Rs.bind_ok h
    have h4 : Ex.all narrow (opE op [x,b]) = true := nar2 hK (ih1 _ _ _ _ h1)
    split at h2
    ·injection h2 with e1 e2;subst e1;exact h4
    ·exact ih2 _ _ _ _ _ h2 h4
theorem gX_nar {lv : Nat} {r r' : List Tk} {a : Ex} (h : gX lv r = .ok a r') : Ex.all narrow a = true := (pE_nar _).1 _ _ _ _ h
theorem sgZ_zero {α : Type} {g : Pz α} {t : Str} (hz : Cz g) (h : (sgZ g t).e = 0) : (∃ a,g (sg0 t).r = .ok a []) ∧ (sgZ g t).o = 0 := by
 have h0 : sg0 t = ⟨(sg0 t).r,0,0⟩ := by
  by_cases k : 20000 < t.length
  ·exfalso
   have e0 : sg0 t = ⟨[],3,0⟩ := by unfold sg0;rw [if_pos k]
   unfold sgZ at h
   rw [e0,up_er (by decide)] at h
   unfold Sg.cl at h
   rw [if_pos rfl] at h
   exact absurd (show (3 : Nat) = 0 from h) (by decide)
  ·unfold sg0;rw [if_neg k]
 cases hg : g (sg0 t).r with
 | er r c =>
  have hu : up t.length g (sg0 t) = ⟨r,c,offT t.length r⟩ := by
   rw [h0]
   unfold up
   rw [if_pos rfl]
   show (match g (sg0 t).r with | .ok _ r => _ | .er r c => _) = _
   rw [hg]
  unfold sgZ at h
  rw [hu] at h
  have hc := hz _ _ _ hg
  unfold Sg.cl at h
  split at h
  ·exact absurd h hc
  ·unfold Sg.fail at h
   rw [if_neg hc] at h
   exact absurd h hc
 | ok a r =>
  have hu : up t.length g (sg0 t) = ⟨r,0,0⟩ := by
   rw [h0]
   unfold up
   rw [if_pos rfl]
   show (match g (sg0 t).r with | .ok _ r => _ | .er r c => _) = _
   rw [hg]
  unfold sgZ at h ⊢
  rw [hu] at h ⊢
  by_cases hr : r = []
  ·subst hr
   exact ⟨⟨a,rfl⟩,rfl⟩
  ·exfalso
   unfold Sg.cl at h
   rw [if_neg hr] at h
   exact absurd h (by unfold Sg.fail;simp)
theorem vl_nar {t : Str} {x : Ex} (hx : vl (gX 0) (sg0 t) x) (h : (sgZ (gX 0) t).e = 0) : Ex.all narrow x = true := by
 obtain ⟨⟨a,ha⟩,_⟩ := sgZ_zero (Cz.ex 0) h
 have h0 : (sg0 t).e = 0 := by
  by_cases k : 20000 < t.length
  ·exfalso
   have e0 : sg0 t = ⟨[],3,0⟩ := by unfold sg0;rw [if_pos k]
   unfold sgZ at h
   rw [e0,up_er (by decide)] at h
   unfold Sg.cl at h
   rw [if_pos rfl] at h
   exact absurd (show (3 : Nat) = 0 from h) (by decide)
  ·unfold sg0;rw [if_neg k]
 rw [hx h0 a [] ha]
 exact gX_nar ha
end Go.Proofs.YthhoebdlfjffkaaGreatDoor
namespace Go.Proofs.YthhoebdlfjffkaaGreatDoor
open Go.RowKit Go.Par Go.Sx
theorem Fx.call9 : callN Tryz.prog 9 = Bool.true := by kernel_rfl
theorem Fx.call10 : callN Tryz.prog 10 = Bool.true := by kernel_rfl
theorem Fx.call12 : callN Tryz.prog 12 = Bool.true := by kernel_rfl
set_option maxRecDepth 100000 in
theorem short_any (l : Str) (w : World) : Calls Tryz.prog 10 #[strV l] w fun r w' => r = .returned (strV (l.take 5000)) ∧ Ext w w' := by
 refine Sx.enter (H := (fun _ => none)) Tryz.func10 rfl Tryz.ntmps10 rfl (fun _ _ e => by cases e) ?_
 refine .sr<|.a Z Z<|.ns<|.m Z Z<|.m Z Z<|.yv (.lenS Fx.str9 Z) Z<|.yv (.min2 Z Z (c := ((min l.length 5000 : Nat) : Int)) (by omega)) Z<|.yv (.takeS Fx.str9 Z Z (hi := min l.length 5000) Z (by omega)) Z<|.a Z Z<|.nt<|.rt<|?_
 refine Sx.ret1 (.inl rfl) rfl (.tmp rfl) fun W s => ⟨?_,s.ext⟩
 rw [show l.take (min l.length 5000) = l.take 5000 by rw [Nat.min_comm,← List.take_take,List.take_length]]
 rfl
theorem eqx_same (H : Hp) (a : Ex) (ca cb : List Value) (w : World) (ha : Rep H (dEx .u8 a) ca) (hb : Rep H (dEx .u8 a) cb) (hA : Agr H w) : Calls Tryz.prog 13 #[.agg ca.toArray,.agg cb.toArray] w fun r w' => r = .returned (.bool true) ∧ Ext w w' :=
 (equalExpr_any H a a ca cb w ha hb hA).mono fun e W' ⟨h1,h2⟩ => ⟨by rw [h1,eqP_iff.2 rfl],h2⟩
theorem zx_rep (H : Hp) : Rep H (dEx .u8 (opE 0 [])) [.int .u8 0,.string ⟨#[]⟩,.int .i64 0,.slice none 0 0] := ex_shut (op := 0) (nm := []) (n := 0) (args := []) (by decide) (Rep.empty (p := none) (c := 0) (by decide))
theorem zx_repR (H : Hp) : Rep H (dEx .i64 (opE 0 [])) [.int .i64 0,.string ⟨#[]⟩,.int .i64 0,.slice none 0 0] := ex_shut (op := 0) (nm := []) (n := 0) (args := []) (by decide) (Rep.empty (p := none) (c := 0) (by decide))
noncomputable def exT (t : Str) (a : Ex) : Ex := if (sgZ (gX 0) t).e = 0 ∧ checkE a = 0 then a else opE 0 []
noncomputable def rxT (t : Str) (a : Ex) : Ex := if (sgZ (gX 0) t).e = 0 then a else opE 0 []
theorem exR_rep {H : Hp} {t : Str} {a : Ex} {cs : List Value} (h : Rep H (dEx .u8 a) cs) : Rep H (dEx .u8 (exT t a)) (exR t a cs) := by
 unfold exT exR
 split
 ·exact h
 ·exact zx_rep H
theorem rxR_rep {H : Hp} {t : Str} {a : Ex} {cs : List Value} (h : Rep H (dEx .i64 a) cs) : Rep H (dEx .i64 (rxT t a)) (rxR t cs) := by
 unfold rxT rxR
 split
 ·exact h
 ·exact zx_repR H
set_option maxRecDepth 100000 in
theorem parserExprs_any (H : Hp) (G : Gl H) (t : Str) (w : World) (hA : Agr H w) : Calls Tryz.prog 3 #[strV t] w fun r w' => r = .returned (.bool true) ∧ Ext w w' := by
 refine Sx.enter (H := H) Tryz.func3 rfl Tryz.ntmps3 rfl hA ?_
 refine .sr<|.a Z Z<|.nt<|.sq<|.sr<|.yv (.call Fx.call9 Z (fun W s => awake_any H G W s.agr)) Z<|.yv (.not Z) Z<|.nt<|.cF Z<|.sk<|.tN<|.sr<|.m Z Z<|.yv (.call Fx.call10 Z (fun W s => short_any t W)) Z<|?_
 obtain ⟨u,hu⟩ : ∃ u,u = t.take 5000 := ⟨_,rfl⟩
 have hul : u.length ≤ 5000 := by rw [hu,List.length_take];omega
 rw [← hu]
 refine .a Z Z<|.ns<|.m Z Z<|.cs (X := Ex × List Value × Hp) Fx.call11 Z (fun W s => exprP_st G u (by omega) s) Z fun z1 hz1 => ?_
 obtain ⟨a1,c1,H1⟩ := z1
 obtain ⟨hv1,u1,r1⟩ := hz1
 dsimp only at hv1 u1 r1 ⊢
 have r1 := exR_rep (t := u) r1
 obtain ⟨y1,y2,y3,y4,ey⟩ := four (ex_len r1)
 rw [ey] at r1 ⊢
 refine .m Z Z<|.yv (.extract Z Z) Z<|.yv (.extract Z Z) Z<|.yv (.extract Z Z) Z<|.al Fx.zero27 Z fun b3 => .sW .head Z Z Fx.size27 (Rep.one r1) Z<|.a Z Z<|.a Z Z<|.ns<|.m Z Z<|.cs (X := Ex × List Value × Hp) Fx.call12 Z (fun W s => exprR_st u (by omega) s) Z fun z2 hz2 => ?_
 obtain ⟨a2,c2,H2⟩ := z2
 obtain ⟨hv2,u2,r2⟩ := hz2
 dsimp only at hv2 u2 r2 ⊢
 have r2 := rxR_rep (t := u) r2
 obtain ⟨w1,w2,w3,w4,ew⟩ := four (ex_len r2)
 rw [ew] at r2 ⊢
 refine .m Z Z<|.yv (.extract Z Z) Z<|.yv (.extract Z Z) Z<|.yv (.extract Z Z) Z<|.al Fx.zero33 Z fun b6 => .sW .head Z Z Fx.size33 (Rep.one r2) Z<|.a Z Z<|.a Z Z<|.nt<|.sq<|.sr<|.m Z Z<|.yv (.neq Z Z) Z<|.nt<|.cd Z (fun h28 => ?_) (fun h28 => ?_)
 ·try simp only [dt] at h28
  have hZ : ¬ (sgZ (gX 0) u).e = 0 := by omega
  have hE : exE u a1 = (sgZ (gX 0) u).e := if_neg hZ
  have hO : exO u a1 = (sgZ (gX 0) u).o := if_neg (fun h => hZ h.1)
  have hX : rxO u = (sgZ (gX 0) u).o := if_neg hZ
  rw [show exT u a1 = opE 0 [] from if_neg (fun h => hZ h.1)] at r1
  refine .sr<|.m Z Z<|.m Z Z<|.yv (.cast (.eql Z Z) (congrArg Value.bool (decide_eq_true (by rw [hE])))) Z<|.m Z Z<|.gd Z Z<|.yv (.move Z) Z<|.gd Z Z<|.yv (.move Z) Z<|.gd Z Z<|.yv (.cast (.eql Z Z) (congrArg Value.bool (decide_eq_true (by rw [hO,hX])))) Z<|.yv (.pickT Z Z) Z<|.m Z Z<|.gd Z Z<|.yv (.loadW Z Fx.agg27 (.tail _<|.head _) Z) Z<|.gd Z Z<|.yv (.build Z Fx.bld27) Z<|.gd Z Z<|.yv (.call Fx.call13 Z (fun W s => eqx_same _ (opE 0 []) _ _ W (r1.up u2.up) (zx_rep _) s.agr)) Z<|.yv (.pickT Z Z) Z<|.a Z Z<|.nt<|.rt<|.tR<|?_
  exact Sx.ret1 (.inl rfl) rfl (.tmp rfl) fun W s => ⟨rfl,s.ext⟩
 try simp only [df] at h28
 have hZ : (sgZ (gX 0) u).e = 0 := by omega
 obtain ⟨_,hZo⟩ := sgZ_zero (Cz.ex 0) hZ
 obtain rfl : a1 = a2 := sgZ_ok hv1 hv2 (Cz.ex 0) hZ
 rw [show rxT u a1 = a1 from if_pos hZ] at r2
 have hdp := vl_depth hv1 hZ
 refine .sk<|.tN<|.sr<|.yv (.loadW Z Fx.agg33 (.head _) Z) Z<|.ct (X := List Value) Fx.call14 Z (fun W s => expr_any a1 (vl_nar hv1 hZ) H2 _ W r2 s.agr) Z fun c3 H3 r3 u3 => ?_
 obtain ⟨z1,z2,z3,z4,rfl⟩ := four (ex_len r3)
 refine .al Fx.zero27 Z fun b9 => .sW .head Z Z Fx.size27 (Rep.one r3) Z<|.nt<|.sq<|.sr<|.yv (.loadW Z Fx.agg27 (.head _) Z) Z<|.yv (.call Fx.call15 Z (fun W s => checkExpr_any H3 (((G.up u1.up).up u2.up).up u3.up) a1 _ r3 (Nat.le_trans hdp (by decide)) W s.agr)) Z<|.a Z Z<|.ns<|.m Z Z<|.yv (.neq Z Z) Z<|.nt<|.cd Z (fun h47 => ?_) (fun h47 => ?_)
 ·try simp only [dt] at h47
  have hck : ¬ checkE a1 = 0 := by omega
  have hE : exE u a1 = checkE a1 := if_pos hZ
  have hO : exO u a1 = 0 := by unfold exO;rw [if_neg (fun h => hck h.2),hZo]
  rw [show exT u a1 = opE 0 [] from if_neg (fun h => hck h.2)] at r1
  refine .sr<|.m Z Z<|.m Z Z<|.yv (.cast (.eql Z Z) (congrArg Value.bool (decide_eq_true (by rw [hE])))) Z<|.m Z Z<|.gd Z Z<|.yv (.move Z) Z<|.gd Z Z<|.yv (.cast (.eql Z Z) (congrArg Value.bool (decide_eq_true (by rw [hO];rfl)))) Z<|.yv (.pickT Z Z) Z<|.m Z Z<|.gd Z Z<|.yv (.loadW Z Fx.agg27 (.tail _<|.tail _<|.head _) Z) Z<|.gd Z Z<|.yv (.build Z Fx.bld27) Z<|.gd Z Z<|.yv (.call Fx.call13 Z (fun W s => eqx_same _ (opE 0 []) _ _ W (r1.up (u2.trans u3).up) (zx_rep _) s.agr)) Z<|.yv (.pickT Z Z) Z<|.a Z Z<|.nt<|.rt<|.tR<|?_
  exact Sx.ret1 (.inl rfl) rfl (.tmp rfl) fun W s => ⟨rfl,s.ext⟩
 try simp only [df] at h47
 have hck : checkE a1 = 0 := by omega
 have hE : exE u a1 = 0 := by unfold exE;rw [if_pos hZ,hck]
 have hO : exO u a1 = 0 := if_pos ⟨hZ,hck⟩
 rw [show exT u a1 = a1 from if_pos ⟨hZ,hck⟩] at r1
 refine .sk<|.tN<|.sr<|.m Z Z<|.yv (.cast (.eql Z Z) (congrArg Value.bool (decide_eq_true (by rw [hE];rfl)))) Z<|.m Z Z<|.gd Z Z<|.yv (.move Z) Z<|.gd Z Z<|.yv (.cast (.eql Z Z) (congrArg Value.bool (decide_eq_true (by rw [hO];rfl)))) Z<|.yv (.pickT Z Z) Z<|.m Z Z<|.gd Z Z<|.yv (.loadW Z Fx.agg27 (.tail _<|.tail _<|.head _) Z) Z<|.gd Z Z<|.yv (.loadW Z Fx.agg27 (.head _) Z) Z<|.gd Z Z<|.yv (.call Fx.call13 Z (fun W s => eqx_same _ a1 _ _ W (r1.up (u2.trans u3).up) r3 s.agr)) Z<|.yv (.pickT Z Z) Z<|.a Z Z<|.nt<|.rt<|?_
 exact Sx.ret1 (.inl rfl) rfl (.tmp rfl) fun W s => ⟨rfl,s.ext⟩
variable {H : Type} {enc : TypeId × Value → H}
theorem wrap {a : Assume} {C : Checked} {os : Os} {f : FuncId} {fn : Func} {s : ChangeSpec} {conds : List PathCond} {apart fresh handsOn again : Bool} {X : World → Array Value → Prop}
 (hX : ∀ (w w' : World) (args : Array Value),w.heap = w'.heap → X w args → X w' args)
 (own : ownKnob C.prog.godebug = none) (started : os.Started) (noInit : C.prog.inits.idxOf? f = none) (hfn : C.prog.funcs[f]? = some fn)
 (witness : ∃ (w : World) (tape : Tape) (i : Input),w.os = os ∧ (w.forCall tape i).Shaped C.prog ∧ i.vars = [] ∧ Input.okWide C.prog (w.forCall tape i) .any w.heap.size f i ∧
  ((s.pre enc C.prog fn conds apart (w.forCall tape i).memory i.args ∧ X (w.forCall tape i).memory i.args) ∧ sizedMet enc C.prog fn (OpenSpec.ofChange s) apart (w.forCall tape i).memory i.args) ∧ a.holds C.prog (lone (Frame.enter C.prog f i.args .normal) [] (w.forCall tape i)))
 (contract : ∀ (W : World) (base : Nat) (args : Array Value) (ds gs : List (DataW H)) (before : List MemPlace),
  (∀ (j : Nat) t v,fn.params[j]? = some t → args[j]? = some v → Value.okWide C.prog W .any base t v) →
  DataW.Whole enc C.prog fn.params.toList s.vars apart W args.toList ds gs before →
  X W args → W.ShapedOpen C.prog →
  Calls C.prog f args W fun e W' => ∃ v,e = .returned v ∧ s.post enc C.prog fn apart fresh handsOn again W args v W') :
 ReturnsInHanded a C os f .any (fun w args => (s.pre enc C.prog fn conds apart w args ∧ X w args) ∧ sizedMet enc C.prog fn (OpenSpec.ofChange s) apart w args) (s.post enc C.prog fn apart fresh handsOn again) := by
 refine returnsInHanded_of_calls own started noInit witness ?_
 intro w tape i _ hsh _ hok hpre _
 obtain ⟨_,_,_,fn',hfn',_,_,_,_,hval⟩ := hok
 have e : fn' = fn := Option.some.inj (hfn'.symm.trans hfn)
 subst e
 obtain ⟨⟨⟨ds,gs,before,hw,_⟩,hx⟩,_⟩ := hpre
 have hw' := DataW.Whole.of_heap (w' := w.forCall tape i) (by rfl) hw
 refine (contract (w.forCall tape i) w.heap.size i.args ds gs before hval hw' (hX _ _ _ (by rfl) hx) hsh).mono fun e W' ⟨v,he,hp⟩ => ?_
 subst he
 exact ChangeSpec.post_blind hp

theorem own : ownKnob Tryz.prog.godebug = none := by kernel_rfl
def laids : List (String × DataW Unit) := [("rootcause/lexer.words",Rows.laid_rootcause_lexer_words),("rootcause/lexer.symbols",Rows.laid_rootcause_lexer_symbols),("rootcause/syntax.shapes",Rows.laid_rootcause_syntax_shapes),("rootcause/syntax.forms",Rows.laid_rootcause_syntax_forms)]
theorem gl_of {W : World} (h : laidMet Tryz.prog laids W) : Gl (allH W) :=
 ⟨laid_mem (t := 201) (.arr 24 (.str [.int .i64,.bool,.int .i64,.strg])) _ (by kernel_rfl) (by kernel_rfl) (by kernel_rfl) (by kernel_rfl) (by kernel_rfl) h.tail.tail,
  laid_mem (t := 257) (.arr 11 (.str [.bool,.bool,.int .i64,.int .i64,.bool,.bool])) _ (by kernel_rfl) (by kernel_rfl) (by kernel_rfl) (by kernel_rfl) (by kernel_rfl) h.tail.tail.tail,
  laid_mem (t := 242) (.arr 39 .strg) _ (by kernel_rfl) (by kernel_rfl) (by kernel_rfl) (by kernel_rfl) (by kernel_rfl) h,
  laid_mem (t := 220) (.arr 25 .strg) _ (by kernel_rfl) (by kernel_rfl) (by kernel_rfl) (by kernel_rfl) (by kernel_rfl) h.tail⟩
theorem laid_met (os : Os) (args : Array Value) : laidMet Tryz.prog laids ((World.laidAll Tryz.prog os laids).forCall (fun _ _ => 0) ⟨#[],args,[]⟩).memory :=
 laidMet_laidAll _ (by kernel_rfl) (by kernel_rfl)
theorem laid_shaped (os : Os) (args : Array Value) : ((World.laidAll Tryz.prog os laids).forCall (fun _ _ => 0) ⟨#[],args,[]⟩).Shaped Tryz.prog :=
 World.shaped_of_ZipB (by kernel_rfl) (by kernel_rfl)
theorem ext_kept {W W' : World} (h : Ext W W') : ∀ may,W.keptBut W' may := fun may => (Ext.below h).frame may
theorem laidOut : laidOutB Tryz.prog = true := by kernel_rfl
end Go.Proofs.YthhoebdlfjffkaaGreatDoor
