/- Texts of the proof, one behind the other. -/
import Derived.Test.YtohfacbajcenoaaGreatDoorMb
import Derived.Shelf.Strconv.Itoa0
import Derived.Shelf.Strconv.Itoa1
import Derived.Shelf.LaysM
import Derived.Shelf.Strconv.Itoa2
import Derived.Shelf.Strconv.Itoa3
import Derived.Shelf.Strings.Prefix
import Derived.Test.YtohfacbajcenoaaGreatDoorProg
import Derived.ProofKit
import Derived.Lib.LaidTab
import Derived.Deep.Slices
import Derived.Deep.Fields
import Derived.OpenShut
import Derived.ChangeKeysEq
set_option linter.all false
set_option maxRecDepth 100000
namespace Go.Proofs
open Go.Shelf
def Tryz.lays171_ren : Go.Shelf.Ren := ⟨fun | 171 => 59 | 243 => 87 | 246 => 103 | 283 => 116 | 284 => 117 | 285 => 118 | 286 => 119 | 129 => 125 | 317 => 124 | 318 => 126 | 319 => 127 | 320 => 128 | 337 => 129 | 338 => 130 | n => n,fun | 3 => 3 | 9 => 9 | 2 => 2 | 4 => 4 | 171 => 222 | 0 => 0 | 53 => 223 | 37 => 22 | 5 => 5 | 173 => 226 | 212 => 233 | 51 => 234 | 20 => 20 | 213 => 235 | 46 => 237 | 232 => 240 | 233 => 241 | n => n,fun | 17 => 4 | 18 => 5 | 19 => 6 | n => n⟩
theorem Tryz.lays171 : Go.Proofs.Lays.n171 Tryz.prog Tryz.lays171_ren := {
 mixed := by kernel_rfl
 f129 := Tryz.func125.trans (congrArg some (by kernel_rfl))
 f171 := Tryz.func59.trans (congrArg some (by kernel_rfl))
 f243 := Tryz.func87.trans (congrArg some (by kernel_rfl))
 f246 := Tryz.func103.trans (congrArg some (by kernel_rfl))
 f283 := Tryz.func116.trans (congrArg some (by kernel_rfl))
 f284 := Tryz.func117.trans (congrArg some (by kernel_rfl))
 f285 := Tryz.func118.trans (congrArg some (by kernel_rfl))
 f286 := Tryz.func119.trans (congrArg some (by kernel_rfl))
 f317 := Tryz.func124.trans (congrArg some (by kernel_rfl))
 f318 := Tryz.func126.trans (congrArg some (by kernel_rfl))
 f319 := Tryz.func127.trans (congrArg some (by kernel_rfl))
 f320 := Tryz.func128.trans (congrArg some (by kernel_rfl))
 f337 := Tryz.func129.trans (congrArg some (by kernel_rfl))
 f338 := Tryz.func130.trans (congrArg some (by kernel_rfl))
 t0 := Tryz.underlying0
 a0 := Tryz.isAgg0
 z0 := Tryz.sizeOf0
 v0 := Tryz.zeroValue0
 t2 := Tryz.underlying2
 a2 := Tryz.isAgg2
 z2 := Tryz.sizeOf2
 v2 := Tryz.zeroValue2
 t3 := Tryz.underlying3
 a3 := Tryz.isAgg3
 z3 := Tryz.sizeOf3
 v3 := Tryz.zeroValue3
 t4 := Tryz.underlying4
 a4 := Tryz.isAgg4
 z4 := Tryz.sizeOf4
 v4 := Tryz.zeroValue4
 t5 := Tryz.underlying5
 a5 := Tryz.isAgg5
 z5 := Tryz.sizeOf5
 v5 := Tryz.zeroValue5
 t9 := Tryz.underlying9
 a9 := Tryz.isAgg9
 z9 := Tryz.sizeOf9
 v9 := Tryz.zeroValue9
 t20 := Tryz.underlying20
 a20 := Tryz.isAgg20
 z20 := Tryz.sizeOf20
 v20 := Tryz.zeroValue20
 t37 := Tryz.underlying22
 a37 := Tryz.isAgg22
 z37 := Tryz.sizeOf22
 v37 := Tryz.zeroValue22
 t46 := Tryz.underlying237
 a46 := Tryz.isAgg237
 z46 := Tryz.sizeOf237
 v46 := Tryz.zeroValue237
 t51 := Tryz.underlying234
 a51 := Tryz.isAgg234
 z51 := Tryz.sizeOf234
 v51 := Tryz.zeroValue234
 t53 := Tryz.underlying223
 a53 := Tryz.isAgg223
 z53 := Tryz.sizeOf223
 v53 := Tryz.zeroValue223
 t171 := Tryz.underlying222
 a171 := Tryz.isAgg222
 z171 := Tryz.sizeOf222
 v171 := Tryz.zeroValue222
 t173 := Tryz.underlying226
 a173 := Tryz.isAgg226
 z173 := Tryz.sizeOf226
 v173 := Tryz.zeroValue226
 t212 := Tryz.underlying233
 a212 := Tryz.isAgg233
 z212 := Tryz.sizeOf233
 v212 := Tryz.zeroValue233
 t213 := Tryz.underlying235
 a213 := Tryz.isAgg235
 z213 := Tryz.sizeOf235
 t232 := Tryz.underlying240
 a232 := Tryz.isAgg240
 z232 := Tryz.sizeOf240
 v232 := Tryz.zeroValue240
 t233 := Tryz.underlying241
 a233 := Tryz.isAgg241
 z233 := Tryz.sizeOf241
 v233 := Tryz.zeroValue241
 g17 := by kernel_rfl
 g18 := by kernel_rfl
 g19 := by kernel_rfl }
open Go.RowKit Go.Sort Go.Lib in
theorem Tryz.strconv_Itoa_small (i : Nat) (hi : i < 100) (w : World) :
 Calls Tryz.prog 59 #[.int .i64 i] w fun e w' => e = .returned (.string ⟨(Lib.decDigits i).toArray⟩) ∧ w' = w := Any.strconv_Itoa_small Tryz.lays171 i hi w
end Go.Proofs
namespace Go.Proofs.YtohfacbajcenoaaGreatDoor
open Go.RowKit Go.Par Go.Sx
def Gt (H : Hp) : Prop := ∀ W,Agr H W → Lib.TabIs Tryz.prog W "internal/strconv.uint64pow10" .u64 Lib.pow10Tab
theorem lalls_at {q : Ex → Bool} {l : List Ex} {k : Nat} (h : k < l.length) (ha : Ex.alls q l = true) : Ex.all q l[k] = true := by
 cases hb : Ex.all q l[k] with
 | true => rfl
 | false => rw [alls_bad h hb] at ha;cases ha
theorem Fx.agg56 : aggN Tryz.prog 56 = Option.some Option.none := by kernel_rfl
theorem Fx.agg58 : aggN Tryz.prog 58 = Option.some (Option.some 4) := by kernel_rfl
theorem Fx.call51 : callN Tryz.prog 51 = Bool.true := by kernel_rfl
theorem Fx.field58_0 : fieldN Tryz.prog 58 0 = Option.some 0 := by kernel_rfl
theorem Fx.field58_1 : fieldN Tryz.prog 58 1 = Option.some 1 := by kernel_rfl
theorem Fx.field58_2 : fieldN Tryz.prog 58 2 = Option.some 2 := by kernel_rfl
theorem Fx.field58_3 : fieldN Tryz.prog 58 3 = Option.some 3 := by kernel_rfl
theorem Fx.int3 : intN Tryz.prog 3 = Option.some Go.IntKind.i64 := by kernel_rfl
theorem Fx.int65 : intN Tryz.prog 65 = Option.some Go.IntKind.u8 := by kernel_rfl
theorem Fx.row66 : rowN Tryz.prog 66 = Option.some (68,4,56) := by kernel_rfl
theorem Fx.size58 : sizeN Tryz.prog 58 = Option.some 4 := by kernel_rfl
theorem Fx.size66 : sizeN Tryz.prog 66 = Option.some 1 := by kernel_rfl
theorem Fx.sl56 : slN Tryz.prog 56 = Option.some 4 := by kernel_rfl
theorem Fx.zero58 : zeroN Tryz.prog 58 = Option.some
 [Go.Value.int Go.IntKind.i64 (Int.ofNat 0),Go.Value.string { data := { toList := [] } },
  Go.Value.int Go.IntKind.i64 (Int.ofNat 0),Go.Value.slice Option.none 0 0] := by kernel_rfl
theorem Fx.bld68_0_1_2 (x0 : Int) (x1 : ByteArray) (x2 : Int) : buildN Tryz.prog 68 [(0,.int .u8 x0),(1,.string x1),(2,.int .i64 x2)] = some [.int .u8 x0,.string x1,.int .i64 x2,.slice none 0 0] := by kernel_rfl
theorem Fx.bsl66_1 (x00 x01 x02 x03 : Value) : bslN Tryz.prog 66 1 [(0,.agg [x00,x01,x02,x03].toArray)] = some (68,[x00,x01,x02,x03]) := by kernel_rfl
def ExprOf (e : Ex) : Prop := Ex.all narrow e = true → ∀ (H : Hp) (cs : List Value) (w : World),Rep H (dEx .i64 e) cs → Agr H w →
 Calls Tryz.prog 51 #[.agg cs.toArray] w fun r w' => ∃ x H',Rep H' (dEx .u8 e) x ∧ r = .returned (.agg x.toArray) ∧ Grow H w H' w'
set_option maxRecDepth 100000 in
theorem expr_any (e : Ex) : ExprOf e := by
 induction e using Ex.ind with | _ op nm nn args ih
 intro hnr H cs w h hA;rw [all_mk,Bool.and_eq_true,narrow_mk,decide_eq_true_eq] at hnr;obtain ⟨p,c,rfl,hs,hnm⟩ := ex_open h;have hcap := hs.cap;have hn3 := hnr.1;refine Sx.enter (H := H) Tryz.func51 rfl Tryz.ntmps51 rfl hA ?_;refine .sr<|.bx Z Z Z fun b1 => .al Fx.zero68 Z fun b2 => ?_
 refine Sx.row0 68 4 ?_;refine .ns<|.yv (.fieldAddr Z Fx.field58_0) Z<|.yv (.load Z Fx.agg3 (.tail _<|.tail _<|.head _) Z) Z<|.yv (.conv Z Fx.int3 Fx.int65 (c := (op.toNat : Nat)) (by have := op.toNat_lt;simp only [IntKind.wrap,IntKind.signed,IntKind.bits];simp;omega)) Z<|.yv (.fieldAddr Z Fx.field58_1) Z<|.yv (.load Z Fx.agg9 (.tail _<|.tail _<|.head _) Z) Z<|.yv (.fieldAddr Z Fx.field58_2) Z<|.yv (.load Z Fx.agg2 (.tail _<|.tail _<|.head _) Z) Z<|.yv (.build Z (Fx.bld68_0_1_2 _ _ _)) Z<|.al Fx.zero68 Z fun b3 => .sW .head Z Z Fx.size68 (by simp [Value.oneCell',strV]) Z<|.nt<|.sq<|.sr<|.yv (.fieldAddr Z Fx.field58_3) Z<|.yv (.load Z Fx.agg56 (.tail _<|.tail _<|.tail _<|.head _) Z) Z<|.yv (.lenSl Fx.sl56 Z) Z<|.m Z Z<|.nt<|.bk<|.lp (X := Nat × Hp × Value × List Value) [(2,_),(3,_),(15,_),(16,_)] ⟨rfl,rfl,rfl,rfl,trivial⟩ [_,_] (fun z => [(17,.int .i64 (z.1 : Nat))]) (fun z => z.2.1) (fun z => [.box b3 [.int .u8 op.toNat,strV nm,.int .i64 nn.toInt,z.2.2.1] 68,.row 68 4 z.2.2.1 z.1 z.2.2.2]) (fun z => z.1 ≤ args.length ∧ HUp w H z.2.1 ∧ RepZ z.2.1 4 ((args.take z.1).map (dEx .u8)) z.2.2.2) (fun z => args.length - z.1) (0,H,.slice none 0 0,[]) (fun _ s => s) ⟨rfl,trivial⟩ ⟨by simp,.refl,RepZ.nil⟩ fun z hC => ?_
 obtain ⟨k,H1,r,xs⟩ := z;dsimp only at hC ⊢;obtain ⟨hk0,u1,hz⟩ := hC;refine .sr<|.yv (.lss Z Z) Z<|.nt<|.sq<|.cd Z (fun h18 => ?_) (fun h18 => ?_)
 ·try simp only [dt] at h18
  have hk : k < args.length := by omega
  obtain ⟨bE,oE,cE,hpE,rE,lE,mE⟩ := (hs.up u1.up).elem (map_at hk);cases hpE;have hnr1 := lalls_at hk hnr.2;refine .sk<|.tN<|.sq<|.bk<|.sr<|.yv (.indexSl Fx.sl56 Z Z Z (by omega) (q := oE + k * 4) Z) Z<|.yv (.loadMW Z Fx.agg58 mE lE) Z<|.al Fx.zero58 Z fun b5 => .sV .head Z Z Fx.size58 lE rE.one Z<|.nt<|.fl (trip := [(_,_,_),(_,_,_),(_,_,_),(_,_,_),(_,_,_)]) 5 [(0,0),(1,0),(2,0),(3,1),(4,1)] (by kernel_rfl) (by kernel_rfl) Z<|.yv (.fieldAddr Z Fx.field68_3) Z<|.yv (.load Z Fx.agg66 (.tail _<|.head _) Z) Z<|.yv (.loadW Z Fx.agg58 (.head _) lE) Z<|.ct (X := List Value) Fx.call51 Z (fun W s => ih _ (List.getElem_mem hk) hnr1 H1 cE W rE s.agr) Z fun x2 H2 hc2 u2 => ?_
  generalize hx : args[k] = x at hc2;obtain ⟨op2,nm2,n2,args2⟩ := x;obtain ⟨p2,c2,rfl,hs2,hnm2⟩ := ex_open hc2;refine .bl Z (Fx.bsl66_1 _ _ _ _) Z fun b25 => .fn (tl := [_,_,_]) Z<|.ap (news := [.int .u8 op2.toNat,strV nm2,.int .i64 n2.toInt,.slice p2 args2.length c2]) Fx.row66 Z (fun _ => (.tail<|.tail<|.tail<|.head)) Z (.box (.head _) z0) Z (by simp [Value.oneCell',strV]) (by simp [maxLen];omega) (by omega) Z fun r26 _ => ?_
  refine At.ra (.tail _ (.tail _ (.tail _ (.head _)))) fun p26 c26 e26 => ?_;exact .yv (.fieldAddr Z Fx.field68_3) Z<|.st (.tail<|.tail<|.head) Z Z Fx.size66 (by rw [e26];rfl) (nb Z) Z<|.nl<|.bN<|.tN<|.rg<|.yv (.add Z Z (w6 (by omega))) Z<|.m Z Z<|.nt<|.ag (x := (k,H1,r,xs)) (k + 1,H2,r26,xs ++ [.int .u8 op2.toNat,strV nm2,.int .i64 n2.toInt,.slice p2 args2.length c2]) ⟨rfl,trivial⟩ ⟨rfl,rfl,rfl,rfl,trivial⟩ (fun _ s => (s.pick [2,3,4,5] _ Z Z)) ⟨by dsimp only;omega,u1.trans u2,by dsimp only;rw [take_snoc hk,hx,List.map_append];exact (hz.up u2.up).snoc hc2 Z⟩ (by dsimp only;omega)
 try simp only [df] at h18
 obtain rfl : k = args.length := by omega
 rw [List.take_length] at hz;refine At.ra (.tail _ (.head _)) fun p26 c26 e26 => ?_;subst e26;refine .ex<|.tE<|.tE<|.bE<|.tN<|.sr<|.yv (.loadW Z Fx.agg68 (.head _) Z) Z<|.sW (.tail<|.tail<|.head) Z Z Fx.size68 (by simp [Value.oneCell',strV]) Z<|.nt<|.rt<|?_
 refine At.pm [1,2] [_,_] rfl rfl ?_;refine Sx.freezeSeq (ds := args.map (dEx .u8)) (by simp) hz fun H3 p3 c3 u3 hr3 hs3 => ?_;refine Sx.ret1 (.inl rfl) rfl (.cell rfl Fx.agg68 (.head _) rfl) fun W s => ⟨_,H3,ex_shut hnm hs3,rfl,(u1.trans u3).grow s⟩
end Go.Proofs.YtohfacbajcenoaaGreatDoor
namespace Go.Sx
open Go.RowKit Go.Par
section
variable {dfs : List Deferred} {P : Program} {n : Nat} {L : Sl} {H : Hp} {w0 : World} {bs : List Res} {Q : Exit → Act → World → Prop} {ops : Array Oper} {K : Act → World → Prop}
theorem Yl.cutHi2 {d : Option Tmp} {ty : TypeId} {pos : String} {aft : Array Edge} {g : Option (Nat × Bool)} {x y : Operand} {T : TypeId} {p : Option Addr} {len c z h : Nat} {k : IntKind} {i : Int} (hT : slN P T = some z) (hx : ev L x = some (.slice p len c)) (hy : ev L y = some (.int k i)) (e : i = (h : Int)) (hh : h ≤ c) :
 Yl P L H w0 bs ⟨d,.slice T x none (some y) none,ty,pos,aft,g⟩ (.slice (if c = 0 then p else p.map fun q => q.add 0) h c) := .of_run fun a W f _ => by
 subst e;obtain ⟨el,hu,hz⟩ := slN_spec hT;unfold execOp;simp [f x _ hx,f y _ hy,Instr.sliceAt,Instr.slice,underlying,program,Sem.run,Result.andThen,hu,Instr.sliceBounds,Instr.sliceBound,asIntOf,hh,run_sizeOf hz]
theorem rep_take2 {z n c hi : Nat} {ds : List D} {p : Option Addr} (h : Rep H (.seq z ds) [.slice p n c]) (hl : hi ≤ n) : Rep H (.seq z (ds.take hi)) [.slice (if c = 0 then p else p.map fun q => q.add 0) hi c] := by
 have hn := h.len
 by_cases hc : c = 0
 ·have h0 : ds = [] := List.eq_nil_of_length_eq_zero (by omega);rw [if_pos hc,h0,List.take_nil,show hi = 0 by omega];exact .empty (by omega)
 rw [if_neg hc];unfold Rep at h;obtain ⟨p',c',h1,h2,h3,h4⟩ := h;injection h1 with h1 _
 injection h1 with h5 h6 h7
 subst h5 h7;rcases h4 with h4 | ⟨b',off',cs,rfl,h9,h10,h11⟩
 ·subst h4;obtain rfl : hi = 0 := by simp only [List.length_nil] at h6;omega
  exact .empty (by omega)
 ·exact .mkM (h9.take (hi * z)) (h10.take hi) (by rw [List.length_take];omega) (by omega) (by omega) fun e => h11 (D.txtL_sub (fun x => List.mem_of_mem_take) e)
end
end Go.Sx
namespace Go.Proofs.YtohfacbajcenoaaGreatDoor
open Go.RowKit Go.Par Go.Sx
theorem Fx.int5 : intN Tryz.prog 5 = Option.some Go.IntKind.u8 := by kernel_rfl
end Go.Proofs.YtohfacbajcenoaaGreatDoor
namespace Go.Proofs.YtohfacbajcenoaaGreatDoor
open Go.RowKit Go.Par Go.Sx
end Go.Proofs.YtohfacbajcenoaaGreatDoor
namespace Go.Proofs.YtohfacbajcenoaaGreatDoor
open Go.RowKit Go.Par Go.Sx
structure Sp where
 wh : UInt8
 i : UInt8
 nm : UInt8
 n : Int64
 nodes : List Nd
def okE (e : Ex) : Bool := decide (e.depth ≤ 64) && Ex.all narrow e
def okS2 (N : Nat) : Sm → Bool
 | .mk _ _ _ ex _ _ => decide (ex.length ≤ N) && ex.all okE
structure okL (N : Nat) (l : List Sm) : Prop where
 cnt : Sm.counts l ≤ N
 dep : Sm.deeps l ≤ N
 all : Sm.alls (okS2 N) l = true
mutual
theorem sall_imp {q q' : Sm → Bool} (h : ∀ s,q s = true → q' s = true) : ∀ s,Sm.all q s = true → Sm.all q' s = true
 | .mk kd nm hd ex th el,hh => by
  rw [sall_mk] at hh ⊢;simp only [Bool.and_eq_true] at hh ⊢;exact ⟨⟨h _ hh.1.1,salls_imp h th hh.1.2⟩,salls_imp h el hh.2⟩
theorem salls_imp {q q' : Sm → Bool} (h : ∀ s,q s = true → q' s = true) : ∀ l,Sm.alls q l = true → Sm.alls q' l = true
 | [],_ => rfl
 | s :: r,hh => by
  rw [Sm.alls,Bool.and_eq_true] at hh ⊢;exact ⟨sall_imp h s hh.1,salls_imp h r hh.2⟩
end
theorem okS2_mono {N M : Nat} (h : N ≤ M) : ∀ s,okS2 N s = true → okS2 M s = true
 | .mk _ _ _ ex _ _,hh => by
  simp only [okS2,Bool.and_eq_true,decide_eq_true_eq] at hh ⊢;exact ⟨by omega,hh.2⟩
theorem okL.mono {N M : Nat} {l : List Sm} (h : okL N l) (k : N ≤ M) : okL M l := ⟨by have := h.cnt;omega,by have := h.dep;omega,salls_imp (okS2_mono k) l h.all⟩
theorem okL.len {N : Nat} {l : List Sm} (h : okL N l) : l.length ≤ N := Nat.le_trans (scounts_len l) h.cnt
theorem okL.left {N : Nat} {a b : List Sm} (h : okL N (a ++ b)) : okL N a := by
 obtain ⟨h1,h2,h3⟩ := h;rw [scounts_app] at h1;rw [sdeeps_app] at h2;rw [salls_app,Bool.and_eq_true] at h3;exact ⟨by omega,by omega,h3.1⟩
theorem okL.right {N : Nat} {a b : List Sm} (h : okL N (a ++ b)) : okL N b := by
 obtain ⟨h1,h2,h3⟩ := h;rw [scounts_app] at h1;rw [sdeeps_app] at h2;rw [salls_app,Bool.and_eq_true] at h3;exact ⟨by omega,by omega,h3.2⟩
theorem split_at {α : Type} {l : List α} {j : Nat} (h : j < l.length) : l = l.take j ++ ([l[j]] ++ l.drop (j + 1)) := by simp
theorem set_at {α : Type} {l : List α} {j : Nat} (h : j < l.length) (s : α) : l.set j s = l.take j ++ ([s] ++ l.drop (j + 1)) := by
 rw [List.set_eq_take_append_cons_drop,if_pos h];rfl
theorem okL.at {N : Nat} {l : List Sm} (h : okL N l) {j : Nat} (hj : j < l.length) : okL N [l[j]] := by
 have h2 := h;rw [split_at hj] at h2;exact h2.right.left
theorem okL.put {N M : Nat} {l : List Sm} (h : okL N l) {j : Nat} (hj : j < l.length) {s : Sm} (k : okL (N + M) [s]) : okL (N + (N + M)) (l.set j s) := by
 have h2 := h;rw [split_at hj] at h2
 have h3 : okL N (l.take j ++ l.drop (j + 1)) := by
  obtain ⟨a1,a2,a3⟩ := h2;simp only [scounts_app,sdeeps_app,salls_app,Bool.and_eq_true] at a1 a2 a3;refine ⟨?_,?_,?_⟩
  ·rw [scounts_app];omega
  ·rw [sdeeps_app];omega
  ·rw [salls_app,a3.1,a3.2.2];rfl
 rw [set_at hj];obtain ⟨a1,a2,a3⟩ := h3;obtain ⟨b1,b2,b3⟩ := k;rw [scounts_app] at a1;rw [sdeeps_app] at a2;rw [salls_app,Bool.and_eq_true] at a3;have m1 := okS2_mono (N := N) (M := N + (N + M)) (by omega);have m2 := okS2_mono (N := N + M) (M := N + (N + M)) (by omega);refine ⟨?_,?_,?_⟩
 ·rw [scounts_app,scounts_app];omega
 ·rw [sdeeps_app,sdeeps_app];omega
 ·rw [salls_app,salls_app,salls_imp m1 _ a3.1,salls_imp m2 _ b3,salls_imp m1 _ a3.2];rfl
structure okHd (N : Nat) (h : Hd) : Prop where
 ps : h.ps.length ≤ N
 body : okL N h.body
theorem okHd.mono {N M : Nat} {h : Hd} (k : okHd N h) (l : N ≤ M) : okHd M h := ⟨by have := k.ps;omega,k.body.mono l⟩
structure okV2 (N : Nat) (v : List Hd) : Prop where
 len : v.length ≤ N
 all : ∀ h ∈ v,okHd N h
theorem okV2.mono {N M : Nat} {v : List Hd} (k : okV2 N v) (l : N ≤ M) : okV2 M v := ⟨by have := k.len;omega,fun h m => (k.all h m).mono l⟩
structure okCp (N : Nat) (c : Cp) : Prop where
 vars : c.vars.length ≤ N
 vers : c.vers.length ≤ N
 all : ∀ v ∈ c.vers,okV2 N v
theorem okCp.mono {N M : Nat} {c : Cp} (k : okCp N c) (l : N ≤ M) : okCp M c := ⟨by have := k.vars;omega,by have := k.vers;omega,fun v m => (k.all v m).mono l⟩
structure okFt (N : Nat) (f : Ft) : Prop where
 flags : f.flags.length ≤ N
 links : f.links.length ≤ N
 comps : f.comps.length ≤ N
 pos : 0 < f.comps.length
 all : ∀ c ∈ f.comps,okCp N c
theorem okFt.mono {N M : Nat} {f : Ft} (k : okFt N f) (l : N ≤ M) : okFt M f := ⟨by have := k.flags;omega,by have := k.links;omega,by have := k.comps;omega,k.pos,fun c m => (k.all c m).mono l⟩
end Go.Proofs.YtohfacbajcenoaaGreatDoor
namespace Go.Proofs.YtohfacbajcenoaaGreatDoor
def okD (D : Nat) (e : Ex) : Prop := e.depth ≤ D ∧ Ex.all narrow e = true
theorem okD.mono {D D' : Nat} {e : Ex} (h : okD D e) (k : D ≤ D') : okD D' e := ⟨Nat.le_trans h.1 k,h.2⟩
theorem okD0 {D : Nat} {op : UInt8} {nm : Str} {n : Int64} : okD (D + 1) (.mk op nm n []) := ⟨by rw [depth_mk];simp [Ex.deeps],by rw [all_mk,narrow_mk];rfl⟩
theorem okD1 {D : Nat} {op : UInt8} {nm : Str} {n : Int64} {a : Ex} (h : okD D a) : okD (D + 1) (.mk op nm n [a]) := by
 refine ⟨?_,?_⟩
 ·rw [depth_mk];simp only [Ex.deeps];have := h.1;omega
 ·rw [all_mk,narrow_mk];simp [Ex.alls,h.2]
theorem okD2 {D : Nat} {op : UInt8} {nm : Str} {n : Int64} {a b : Ex} (h : okD D a) (k : okD D b) : okD (D + 1) (.mk op nm n [a,b]) := by
 refine ⟨?_,?_⟩
 ·rw [depth_mk];simp only [Ex.deeps];have := h.1;have := k.1;omega
 ·rw [all_mk,narrow_mk];simp [Ex.alls,h.2,k.2]
theorem numT_ok {M : Mk} {d D k : Nat} {rec : Bs → Ex × Bs} (h : ∀ b,okD D (rec b).1) (b : Bs) : okD (D + 1) (numT M d rec k b).1 := by
 unfold numT
 split
 ·exact okD0
 split
 ·exact okD0
 split
 ·exact okD0
 split
 ·exact okD0
 split
 ·exact okD1 (h _)
 split
 ·exact okD0
 split
 ·exact okD1 (h _)
 ·exact okD2 (h _) (h _)
theorem numE_ok (M : Mk) : ∀ f b,okD (f + 2) (numE M f b).1
 | 0,b => numT_ok (fun _ => okD0) _
 | f + 1,b => numT_ok (numE_ok M f) _
theorem numL_ok (M : Mk) : ∀ n b,(numL M n b).1.length = n ∧ ∀ e ∈ (numL M n b).1,okD 4 e
 | 0,b => ⟨rfl,fun _ h => by cases h⟩
 | n + 1,b => by
  obtain ⟨h1,h2⟩ := numL_ok M n (numE M 2 b).2;refine ⟨by simp [numL,h1],fun e he => ?_⟩;rcases List.mem_cons.1 he with rfl | he
  ·exact numE_ok M 2 b
  ·exact h2 e he
theorem truT_ok {M : Mk} {d D k : Nat} {rec : Bs → Ex × Bs} (hD : 4 ≤ D) (h : ∀ b,okD D (rec b).1) (b : Bs) : okD (D + 1) (truT M d rec k b).1 := by
 have hn : ∀ b,okD D (numE M 2 b).1 := fun b => (numE_ok M 2 b).mono hD;unfold truT
 split
 ·exact okD0
 split
 ·exact okD0
 split
 ·exact okD0
 split
 ·exact okD1 (hn _)
 split
 ·exact okD1 (h _)
 split
 ·exact okD2 (h _) (h _)
 ·exact okD2 (hn _) (hn _)
theorem truE_ok (M : Mk) : ∀ f b,okD (f + 6) (truE M f b).1
 | 0,b => truT_ok (D := 5) (by omega) (fun _ => okD0 (D := 4)) _
 | f + 1,b => truT_ok (by omega) (truE_ok M f) _
mutual
theorem sdepth_le : ∀ s : Sm,Sm.depth s ≤ Sm.count s
 | .mk kd nm hd ex th el => by
  rw [sdepth_mk,scount_mk];have := sdeeps_le th;have := sdeeps_le el;omega
theorem sdeeps_le : ∀ l : List Sm,Sm.deeps l ≤ Sm.counts l
 | [] => by simp [Sm.deeps]
 | s :: r => by
  simp only [Sm.deeps,Sm.counts];have := sdepth_le s;have := sdeeps_le r;omega
end
structure Made (lf : Nat) (l : List Sm) (lf' : Nat) : Prop where
 cnt : Sm.counts l + lf' ≤ lf
 all : Sm.alls (okS2 10) l = true
theorem made_one {lf lf' : Nat} {kd : UInt8} {nm hd : Str} {ex : List Ex} {th el : List Sm} (h1 : Sm.counts th + Sm.counts el + lf' ≤ lf) (h2 : ex.length ≤ 10) (h3 : ∀ e ∈ ex,okD 40 e) (h4 : Sm.alls (okS2 10) th = true) (h5 : Sm.alls (okS2 10) el = true) :
 Made (lf + 1) [.mk kd nm hd ex th el] lf' := by
 refine ⟨by simp only [Sm.counts,scount_mk];omega,?_⟩;simp only [Sm.alls,sall_mk,okS2,Bool.and_eq_true,decide_eq_true_eq,List.all_eq_true];refine ⟨⟨⟨⟨h2,fun e he => ?_⟩,h4⟩,h5⟩,trivial⟩;simp only [okE,Bool.and_eq_true,decide_eq_true_eq];have := h3 e he;exact ⟨by have := this.1;omega,this.2⟩
theorem leaf_one {e : Ex} (h : okD 40 e) : ∀ x ∈ [e],okD 40 x := fun x hx => by rw [List.mem_singleton.1 hx];exact h
theorem leaf_two {e e2 : Ex} (h : okD 40 e) (k : okD 40 e2) : ∀ x ∈ [e,e2],okD 40 x := fun x hx => by
 rcases List.mem_cons.1 hx with rfl | hx
 ·exact h
 ·rw [List.mem_singleton.1 hx];exact k
theorem leaf_num {M : Mk} {n : Nat} {b : Bs} : ∀ x ∈ (numL M n b).1,okD 40 x := fun x hx => ((numL_ok M n b).2 x hx).mono (by omega)
theorem leaf_more {e : Ex} (h : okD 40 e) {M : Mk} {n : Nat} {b : Bs} : ∀ x ∈ e :: (numL M n b).1,okD 40 x := fun x hx => by
 rcases List.mem_cons.1 hx with rfl | hx
 ·exact h
 ·exact leaf_num x hx
theorem stmT_made {M : Mk} (hM : ∀ c h,arN M c h ≤ 2) (k d : Nat) {bd : Bs × Nat → List Sm × (Bs × Nat)} (hb : ∀ x,Made x.2 (bd x).1 (bd x).2.2) (b : Bs) (lf : Nat) : Made (lf + 1) [(stmT M k d bd b lf).1] (stmT M k d bd b lf).2.2 := by
 have hn : ∀ f b,f ≤ 30 → okD 40 (numE M f b).1 := fun f b hf => (numE_ok M f b).mono (by omega);have ht : ∀ b,okD 40 (truE M 2 b).1 := fun b => (truE_ok M 2 b).mono (by omega);have z : Sm.counts [] = 0 := rfl;unfold stmT
 split
 ·exact made_one (lf' := lf) (by simp only [z];omega) (by simp) (leaf_one (ht _)) rfl rfl
 split
 ·exact made_one (lf' := lf) (by simp only [z];omega) (by simp) (leaf_two (hn _ _ (by omega)) (hn _ _ (by omega))) rfl rfl
 split
 ·exact made_one (lf' := lf) (by simp only [z];omega) (by simp) (leaf_one (hn _ _ (by omega))) rfl rfl
 split
 ·have h1 := hb ((truE M 2 b).2,lf);have h2 := hb (bd ((truE M 2 b).2,lf)).2;exact made_one (by have := h1.cnt;have := h2.cnt;simp only at *;omega) (by simp) (leaf_one (ht _)) h1.all h2.all
 split
 ·have h1 := hb ((truE M 2 b).2,lf);exact made_one (by have := h1.cnt;simp only at *;omega) (by simp) (leaf_one (ht _)) h1.all rfl
 split
 ·exact made_one (lf' := lf) (by simp only [z];omega) (by rw [(numL_ok _ _ _).1];have := hM (nextB b M.ars.length).1 (nextB (nextB b M.ars.length).2 (arL M (nextB b M.ars.length).1)).1;omega) leaf_num rfl rfl
 split
 ·exact made_one (lf' := lf) (by simp only [z];omega) (by rw [List.length_cons,(numL_ok _ _ _).1];have := hM M.own (nextB b (arL M M.own)).1;omega) (leaf_more (hn _ _ (by omega))) rfl rfl
 split
 ·split
  ·have h1 := hb ((numL M 2 (nextB b 2).2).2,lf);exact made_one (by have := h1.cnt;simp only at *;omega) (by rw [(numL_ok _ _ _).1];omega) leaf_num rfl h1.all
  ·have h1 := hb ((numE M 3 (nextB (nextB b 2).2 M.ints).2).2,lf);exact made_one (lf' := (bd ((numE M 3 (nextB (nextB b 2).2 M.ints).2).2,lf)).2.2) (by have := h1.cnt;simp only at *;omega) (by simp) (leaf_one (hn _ _ (by omega))) rfl h1.all
 split
 ·exact made_one (lf' := lf) (by simp only [z];omega) (by simp) (fun _ h => by cases h) rfl rfl
 ·exact made_one (lf' := lf) (by simp only [z];omega) (by simp) (leaf_one (hn _ _ (by omega))) rfl rfl
theorem bodL_made {st : Nat → Bs → Nat → Sm × (Bs × Nat)} (hs : ∀ k b lf,Made (lf + 1) [(st k b lf).1] (st k b lf).2.2) : ∀ f x,Made x.2 (bodL st f x).1 (bodL st f x).2.2
 | 0,x => ⟨by simp [bodL,Sm.counts],rfl⟩
 | f + 1,(b,lf) => by
  unfold bodL
  split
  ·exact ⟨by simp [Sm.counts],rfl⟩
  ·rename_i hne
   split
   ·exact ⟨by simp [Sm.counts],rfl⟩
   ·have h1 := hs (nextB b 14).1 (nextB b 14).2 (lf - 1);have h2 := bodL_made hs f (st (nextB b 14).1 (nextB b 14).2 (lf - 1)).2;have hl : lf ≠ 0 := fun e => hne (.inr e);refine ⟨?_,?_⟩
    ·have a1 := h1.cnt;have a2 := h2.cnt;simp only [Sm.counts] at a1 ⊢;omega
    ·have a1 := h1.all;simp only [Sm.alls,Bool.and_eq_true] at a1 ⊢;exact ⟨a1.1,h2.all⟩
theorem bodE_made {M : Mk} (hM : ∀ c h,arN M c h ≤ 2) : ∀ f x,Made x.2 (bodE M f x).1 (bodE M f x).2.2
 | 0,x => bodL_made (fun k b lf => stmT_made hM k 3 (fun x => ⟨by simp [Sm.counts],rfl⟩) b lf) 13 x
 | f + 1,x => bodL_made (fun k b lf => stmT_made hM k (2 - f) (bodE_made hM f) b lf) 13 x
theorem hdS_ok {M : Mk} (hM : ∀ c h,arN M c h ≤ 2) (k : Nat) (c : Cd) : okHd 100 (hdS M k c) := by
 have h := bodE_made (M := M.at k) hM 3 (c.bytes.take 40,12);have hc := h.cnt;simp only at hc;refine ⟨by simp only [hdS,namesB_len];have := hM M.own k;omega,?_,?_,?_⟩
 ·simp only [hdS];omega
 ·simp only [hdS];have := sdeeps_le (bodE (M.at k) 3 (c.bytes.take 40,12)).1;omega
 ·exact salls_imp (okS2_mono (by omega)) _ h.all
theorem hdsP_ok {M : Mk} (hM : ∀ c h,arN M c h ≤ 2) : ∀ (l : List Cd) (k : Nat),∀ h ∈ hdsP M k l,okHd 100 h
 | [],k,h,hh => by cases hh
 | c :: r,k,h,hh => by
  rcases List.mem_cons.1 hh with rfl | hh
  ·exact hdS_ok hM k c
  ·exact hdsP_ok hM r (k + 1) h hh
theorem arN_le {p : Pln} {nf i : Nat} {x : Prt} (c h : Nat) : arN (mkP (arsP p) nf i x) c h ≤ 2 := by
 show ((arsP p).getD c []).getD h 0 ≤ 2
 by_cases hc : c < (arsP p).length
 ·rw [getD_at hc];have hm := List.getElem_mem hc;generalize (arsP p)[c] = l at hm;obtain ⟨y,_,rfl⟩ := List.mem_map.1 hm
  by_cases hh : h < (arP y).length
  ·rw [getD_at hh];exact arP_mem (List.getElem_mem hh)
  ·have e : (arP y)[h]? = none := List.getElem?_eq_none_iff.2 (by omega);rw [List.getD_eq_getElem?_getD,e];simp
 ·have e : (arsP p)[c]? = none := List.getElem?_eq_none_iff.2 (by omega);rw [List.getD_eq_getElem?_getD,List.getD_eq_getElem?_getD,e];simp
theorem fstP_len (x : Prt) : (fstP x).length ≤ 3 := by
 unfold fstP
 split
 ·simp
 ·rw [List.length_take];omega
theorem buildF_ok (p : Pln) : okFt 100 (buildF p) := by
 have hp := prtsP_len p;refine ⟨?_,?_,?_,?_,?_⟩
 ·simp only [buildF,flgsP_len];omega
 ·have := lnksP_len (prtsP p).length p.links (min p.links.length ((prtsP p).length * (prtsP p).length));have h9 : (prtsP p).length * (prtsP p).length ≤ 9 := Nat.mul_le_mul hp.2 hp.2;simp only [buildF];have : min p.links.length ((prtsP p).length * (prtsP p).length) ≤ (prtsP p).length * (prtsP p).length := Nat.min_le_right _ _;omega
 ·simp only [buildF,cmpsP_len];omega
 ·simp only [buildF,cmpsP_len];omega
 ·intro c hc;simp only [buildF,cmpsP] at hc;obtain ⟨i,hi,rfl⟩ := List.mem_mapIdx.1 hc;generalize (prtsP p)[i] = x;refine ⟨?_,?_,?_⟩
  ·simp only [cmpP,varsP,List.length_append,vrsI_len,vrsT_len,List.length_singleton,intsP,tabsP];omega
  ·simp only [cmpP,vssP];split <;> simp
  ·intro v hv;simp only [cmpP,vssP] at hv;rcases List.mem_cons.1 hv with rfl | hv
   ·exact ⟨by rw [hdsP_len];have := fstP_len x;omega,hdsP_ok arN_le _ _⟩
   ·split at hv
    ·rw [List.mem_singleton.1 hv];exact ⟨by rw [hdsP_len,List.length_take];omega,hdsP_ok arN_le _ _⟩
    ·cases hv
end Go.Proofs.YtohfacbajcenoaaGreatDoor
namespace Go.Proofs.YtohfacbajcenoaaGreatDoor
open Go.RowKit Go.Par Go.Sx
def wfE (D : Nat) (e : Ex) : Prop := e.depth ≤ D ∧ Ex.all frmE e = true ∧ Ex.all namE e = true
theorem wfE.mono {D D' : Nat} {e : Ex} (h : wfE D e) (k : D ≤ D') : wfE D' e := ⟨Nat.le_trans h.1 k,h.2⟩
theorem wfE0 {D : Nat} {op : UInt8} {nm : Str} {n : Int64} (h : frmE (.mk op nm n []) = true) (h2 : namE (.mk op nm n []) = true) : wfE (D + 1) (.mk op nm n []) :=
 ⟨by rw [depth_mk];simp [Ex.deeps],by rw [all_mk,h];rfl,by rw [all_mk,h2];rfl⟩
theorem frm_arg (op : UInt8) (nm : Str) (n : Int64) (l m : List Ex) (h : l.length = m.length) : frmE (.mk op nm n l) = frmE (.mk op nm n m) := by simp only [frmE,h]
def e0 : Ex := .mk 4 [] 0 []
theorem wfE1 {D : Nat} {op : UInt8} {nm : Str} {a : Ex} (h : frmE (.mk op nm 0 [e0]) = true) (h2 : namE (.mk op nm 0 []) = true) (ha : wfE D a) : wfE (D + 1) (.mk op nm 0 [a]) := by
 refine ⟨?_,?_,?_⟩
 ·rw [depth_mk];simp only [Ex.deeps];have := ha.1;omega
 ·rw [all_mk,frm_arg op nm 0 [a] [e0] rfl,h];simp [Ex.alls,ha.2.1]
 ·rw [all_mk,show namE (.mk op nm 0 [a]) = namE (.mk op nm 0 []) from rfl,h2];simp [Ex.alls,ha.2.2]
theorem wfE2 {D : Nat} {op : UInt8} {a b : Ex} (h : frmE (.mk op [] 0 [e0,e0]) = true) (h2 : namE (.mk op [] 0 []) = true) (ha : wfE D a) (hb : wfE D b) : wfE (D + 1) (.mk op [] 0 [a,b]) := by
 refine ⟨?_,?_,?_⟩
 ·rw [depth_mk];simp only [Ex.deeps];have := ha.1;have := hb.1;omega
 ·rw [all_mk,frm_arg op [] 0 [a,b] [e0,e0] rfl,h];simp [Ex.alls,ha.2.1,hb.2.1]
 ·rw [all_mk,show namE (.mk op [] 0 [a,b]) = namE (.mk op [] 0 []) from rfl,h2];simp [Ex.alls,ha.2.2,hb.2.2]
theorem nm_ok : ∀ c ∈ ([120,112,102,104] : List UInt8),∀ k ∈ List.range 3,nameB (nmB c k) = true := by decide +kernel
theorem nm_x {k : Nat} (h : k < 3) : nameB (nmB 120 k) = true := nm_ok 120 (by decide) k (List.mem_range.2 h)
theorem nm_p {k : Nat} (h : k < 3) : nameB (nmB 112 k) = true := nm_ok 112 (by decide) k (List.mem_range.2 h)
theorem nm_f {k : Nat} (h : k < 3) : nameB (nmB 102 k) = true := nm_ok 102 (by decide) k (List.mem_range.2 h)
theorem nm_h {k : Nat} (h : k < 3) : nameB (nmB 104 k) = true := nm_ok 104 (by decide) k (List.mem_range.2 h)
theorem nm_abc {k : Nat} (h : k < 3) : nameB [UInt8.ofNat (97 + k)] = true := by
 have : ∀ k ∈ List.range 3,nameB [UInt8.ofNat (97 + k)] = true := by decide +kernel
 exact this k (List.mem_range.2 h)
theorem nm_t0 : nameB [116,48] = true := by decide +kernel
theorem nm_b0 : nameB [98,48] = true := by decide +kernel
structure MkOk (M : Mk) : Prop where
 i0 : 0 < M.ints
 i3 : M.ints ≤ 3
 p2 : M.params ≤ 2
 f2 : M.flags ≤ 2
 a3 : M.ars.length ≤ 3
 a0 : 0 < M.ars.length
 ar2 : ∀ c h,arN M c h ≤ 2
 al : ∀ c,c < M.ars.length → 0 < arL M c ∧ arL M c ≤ 3
 own : M.own < M.ars.length
theorem frm5 (nm : Str) : frmE (.mk 5 nm 0 []) = true := by simp [frmE,okOp,shapeOf,shapes]
theorem nam5 {nm : Str} (h : nameB nm = true) : namE (.mk 5 nm 0 []) = true := by simp [namE,h]
theorem wfV {D : Nat} {nm : Str} (h : nameB nm = true) : wfE (D + 1) (.mk 5 nm 0 []) := wfE0 (frm5 nm) (nam5 h)
theorem numT_wf {M : Mk} (hM : MkOk M) {d D k : Nat} {rec : Bs → Ex × Bs} (h : ∀ b,wfE D (rec b).1) (b : Bs) : wfE (D + 1) (numT M d rec k b).1 := by
 unfold numT
 split
 ·have h9 := nextB_lt b (n := 9) (by omega);refine wfE0 ?_ rfl;simp only [frmE,Bool.and_eq_true];refine ⟨by decide,?_⟩;simp only [if_true];rw [decide_eq_true_eq,Int64.toInt_ofNat_of_lt (by omega)];omega
 split
 ·exact wfV (nm_x (by have := nextB_lt b hM.i0;have := hM.i3;omega))
 split
 ·rename_i h1 h2;exact wfV (nm_p (by have := nextB_lt b (n := M.params) (by omega);have := hM.p2;omega))
 split
 ·exact wfE0 (by decide) (by decide)
 split
 ·exact wfE1 (by decide +kernel) (by decide +kernel) (h _)
 split
 ·exact wfE0 (by decide +kernel) (by decide +kernel)
 split
 ·exact wfE1 (by decide +kernel) (by decide +kernel) (h _)
 ·have key : ∀ i ∈ List.range 6,frmE (.mk (([14,15,11,12,13,14] : List UInt8).getD i 14) [] 0 [e0,e0]) = true ∧ namE (.mk (([14,15,11,12,13,14] : List UInt8).getD i 14) [] 0 []) = true := by decide +kernel
  obtain ⟨k1,k2⟩ := key _ (List.mem_range.2 (nextB_lt b (n := 6) (by omega)));exact wfE2 k1 k2 (h _) (h _)
theorem numE_wf {M : Mk} (hM : MkOk M) : ∀ f b,wfE (f + 2) (numE M f b).1
 | 0,b => numT_wf hM (fun _ => wfE0 (by decide) (by decide)) _
 | f + 1,b => numT_wf hM (numE_wf hM f) _
theorem numL_wf {M : Mk} (hM : MkOk M) : ∀ n b,∀ e ∈ (numL M n b).1,wfE 4 e
 | 0,b,_,h => by cases h
 | n + 1,b,e,he => by
  rcases List.mem_cons.1 he with rfl | he
  ·exact numE_wf hM 2 b
  ·exact numL_wf hM n _ e he
theorem truT_wf {M : Mk} (hM : MkOk M) {d D k : Nat} {rec : Bs → Ex × Bs} (hk : k < 10) (hD : 4 ≤ D) (h : ∀ b,wfE D (rec b).1) (b : Bs) : wfE (D + 1) (truT M d rec k b).1 := by
 have hn : ∀ b,wfE D (numE M 2 b).1 := fun b => (numE_wf hM 2 b).mono hD;unfold truT
 split
 ·have key : ∀ i ∈ List.range 2,frmE (.mk (2 + UInt8.ofNat i) [] 0 []) = true ∧ namE (.mk (2 + UInt8.ofNat i) [] 0 []) = true := by decide +kernel
  obtain ⟨k1,k2⟩ := key _ (List.mem_range.2 (nextB_lt b (n := 2) (by omega)));exact wfE0 k1 k2
 split
 ·exact wfV nm_b0
 split
 ·rename_i h1;exact wfV (nm_f (by have := nextB_lt b h1.2;have := hM.f2;omega))
 split
 ·exact wfE1 (by decide +kernel) (by decide +kernel) (hn _)
 split
 ·exact wfE1 (by decide +kernel) (by decide +kernel) (h _)
 split
 ·rename_i h1;rcases h1 with rfl | rfl
  ·exact wfE2 (by decide +kernel) (by decide +kernel) (h _) (h _)
  ·exact wfE2 (by decide +kernel) (by decide +kernel) (h _) (h _)
 ·have key : ∀ i ∈ List.range 6,frmE (.mk (16 + UInt8.ofNat i) [] 0 [e0,e0]) = true ∧ namE (.mk (16 + UInt8.ofNat i) [] 0 []) = true := by decide +kernel
  obtain ⟨k1,k2⟩ := key _ (List.mem_range.2 (nextB_lt b (n := 6) (by omega)));exact wfE2 k1 k2 (hn _) (hn _)
theorem truE_wf {M : Mk} (hM : MkOk M) : ∀ f b,wfE (f + 6) (truE M f b).1
 | 0,b => truT_wf hM (nextB_lt _ (by omega)) (by omega) (fun _ => (wfE0 (D := 0) (by decide) (by decide)).mono (by omega)) _
 | f + 1,b => truT_wf hM (nextB_lt _ (by omega)) (by omega) (truE_wf hM f) _
structure Wf (D lf : Nat) (l : List Sm) (lf' : Nat) : Prop where
 cnt : Sm.counts l + lf' ≤ lf
 dep : Sm.deeps l ≤ D
 frm : Sm.alls frmS l = true
 nam : Sm.alls namS l = true
 sma : Sm.alls smaS l = true
theorem ex_frm {l : List Ex} (h : ∀ e ∈ l,wfE 8 e) : Ex.alls frmE l = true := by
 induction l with
 | nil => rfl
 | cons e r ih => rw [Ex.alls,(h e (by simp)).2.1,ih fun x hx => h x (by simp [hx])];rfl
theorem ex_nam {l : List Ex} (h : ∀ e ∈ l,wfE 8 e) : Ex.alls namE l = true := by
 induction l with
 | nil => rfl
 | cons e r ih => rw [Ex.alls,(h e (by simp)).2.2,ih fun x hx => h x (by simp [hx])];rfl
def kdB (kd : UInt8) (nm hd : Str) (n : Nat) (t e : Bool) : Bool :=
 okKd kd && decide ((formOf kd).lo ≤ n) && decide (n ≤ (formOf kd).hi) && ((formOf kd).nm || decide (nm = [])) && ((formOf kd).hd || decide (hd = [])) && ((formOf kd).th || t) && ((formOf kd).el || e)
def knB (kd : UInt8) (nm hd : Str) : Bool := (!(formOf kd).nm || nameB nm) && (!(formOf kd).hd || nameB hd)
theorem wf_one {D lf lf' : Nat} {kd : UInt8} {nm hd : Str} {ex : List Ex} {th el : List Sm} (h1 : Sm.counts th + Sm.counts el + lf' ≤ lf) (h2 : kdB kd nm hd ex.length (decide (th.length = 0)) (decide (el.length = 0)) = true) (h3 : knB kd nm hd = true) (h4 : ∀ e ∈ ex,wfE 8 e)
 (ht : Sm.deeps th ≤ D ∧ Sm.alls frmS th = true ∧ Sm.alls namS th = true ∧ Sm.alls smaS th = true) (he : Sm.deeps el ≤ D ∧ Sm.alls frmS el = true ∧ Sm.alls namS el = true ∧ Sm.alls smaS el = true) :
 Wf (D + 1) (lf + 1) [.mk kd nm hd ex th el] lf' := by
 refine ⟨?_,?_,?_,?_,?_⟩
 ·simp only [Sm.counts,scount_mk];omega
 ·simp only [Sm.deeps,sdepth_mk];have := ht.1;have := he.1;omega
 ·have hf : frmS (.mk kd nm hd ex th el) = true := by
   simp only [frmS,ex_frm h4,Bool.and_true];exact h2
  simp [Sm.alls,sall_mk,hf,ht.2.1,he.2.1]
 ·have hf : namS (.mk kd nm hd ex th el) = true := by
   simp only [namS,ex_nam h4,Bool.and_true];exact h3
  simp [Sm.alls,sall_mk,hf,ht.2.2.1,he.2.2.1]
 ·have hf : smaS (.mk kd nm hd ex th el) = true := by
   simp only [smaS,List.all_eq_true,decide_eq_true_eq];exact fun e m => (h4 e m).1
  simp [Sm.alls,sall_mk,hf,ht.2.2.2,he.2.2.2]
theorem wf_nil {D : Nat} : Sm.deeps [] ≤ D ∧ Sm.alls frmS [] = true ∧ Sm.alls namS [] = true ∧ Sm.alls smaS [] = true := ⟨Nat.zero_le _,rfl,rfl,rfl⟩
theorem Wf.all {D lf lf' : Nat} {l : List Sm} (h : Wf D lf l lf') : Sm.deeps l ≤ D ∧ Sm.alls frmS l = true ∧ Sm.alls namS l = true ∧ Sm.alls smaS l = true := ⟨h.dep,h.frm,h.nam,h.sma⟩
theorem one_wf {e : Ex} (h : wfE 8 e) : ∀ x ∈ [e],wfE 8 x := fun x hx => by rw [List.mem_singleton.1 hx];exact h
theorem two_wf {e e2 : Ex} (h : wfE 8 e) (k : wfE 8 e2) : ∀ x ∈ [e,e2],wfE 8 x := fun x hx => by
 rcases List.mem_cons.1 hx with rfl | hx
 ·exact h
 ·rw [List.mem_singleton.1 hx];exact k
theorem num_wf {M : Mk} (hM : MkOk M) {n : Nat} {b : Bs} : ∀ x ∈ (numL M n b).1,wfE 8 x := fun x hx => (numL_wf hM n b x hx).mono (by omega)
theorem more_wf {e : Ex} (h : wfE 8 e) {M : Mk} (hM : MkOk M) {n : Nat} {b : Bs} : ∀ x ∈ e :: (numL M n b).1,wfE 8 x := fun x hx => by
 rcases List.mem_cons.1 hx with rfl | hx
 ·exact h
 ·exact num_wf hM x hx
theorem kd1 (nm : Str) : kdB 1 nm [] 1 true true = true := by simp [kdB,okKd,formOf,forms]
theorem kn1 {nm : Str} (h : nameB nm = true) : knB 1 nm [] = true := by simp [knB,okKd,formOf,forms,h]
theorem kd6 (nm hd : Str) {n : Nat} (h : n ≤ 4) : kdB 6 nm hd n true true = true := by simp [kdB,okKd,formOf,forms,h]
theorem kn6 {nm hd : Str} (h : nameB nm = true) (k : nameB hd = true) : knB 6 nm hd = true := by simp [knB,okKd,formOf,forms,h,k]
theorem kd7 (hd : Str) {n : Nat} (h0 : 1 ≤ n) (h : n ≤ 5) : kdB 7 [] hd n true true = true := by simp [kdB,okKd,formOf,forms,h0,h]
theorem kn7 {hd : Str} (k : nameB hd = true) : knB 7 [] hd = true := by simp [knB,okKd,formOf,forms,k]
theorem kd9 (nm : Str) (b : Bool) : kdB 9 nm [] 1 true b = true := by simp [kdB,okKd,formOf,forms]
theorem kn9 {nm : Str} (h : nameB nm = true) : knB 9 nm [] = true := by simp [knB,okKd,formOf,forms,h]
theorem kd4 (a b : Bool) : kdB 4 [] [] 1 a b = true := by revert a b;decide
theorem kd5 (a : Bool) : kdB 5 [] [] 1 a true = true := by revert a;decide
theorem kd8 (a : Bool) : kdB 8 [] [] 2 true a = true := by revert a;decide
theorem stmT_wf {M : Mk} (hM : MkOk M) (k d : Nat) {D : Nat} {bd : Bs × Nat → List Sm × (Bs × Nat)} (hb : ∀ x,Wf D x.2 (bd x).1 (bd x).2.2) (b : Bs) (lf : Nat) : Wf (D + 1) (lf + 1) [(stmT M k d bd b lf).1] (stmT M k d bd b lf).2.2 := by
 have hn : ∀ f b,f ≤ 6 → wfE 8 (numE M f b).1 := fun f b hf => (numE_wf hM f b).mono (by omega);have ht : ∀ b,wfE 8 (truE M 2 b).1 := fun b => truE_wf hM 2 b;have z : Sm.counts [] = 0 := rfl;unfold stmT
 split
 ·exact wf_one (lf' := lf) (by simp only [z];omega) (kd1 _) (kn1 nm_b0) (one_wf (ht _)) wf_nil wf_nil
 split
 ·exact wf_one (lf' := lf) (by simp only [z];omega) (by simp [kdB,okKd,formOf,forms]) (by simp [knB,okKd,formOf,forms,nm_t0]) (two_wf (hn _ _ (by omega)) (hn _ _ (by omega))) wf_nil wf_nil
 split
 ·exact wf_one (lf' := lf) (by simp only [z];omega) (by simp [kdB,okKd,formOf,forms]) (by simp [knB,okKd,formOf,forms,nm_t0]) (one_wf (hn _ _ (by omega))) wf_nil wf_nil
 split
 ·have h1 := hb ((truE M 2 b).2,lf);have h2 := hb (bd ((truE M 2 b).2,lf)).2;exact wf_one (by have := h1.cnt;have := h2.cnt;simp only at *;omega) (kd4 _ _) (by decide) (one_wf (ht _)) h1.all h2.all
 split
 ·have h1 := hb ((truE M 2 b).2,lf);exact wf_one (by have := h1.cnt;simp only at *;omega) (kd5 _) (by decide) (one_wf (ht _)) h1.all wf_nil
 split
 ·have hc := nextB_lt b hM.a0;have ha := hM.al _ hc;have hh := nextB_lt (nextB b M.ars.length).2 ha.1;have h3 := hM.a3;exact wf_one (lf' := lf) (by simp only [z];omega) (by rw [(numL_ok _ _ _).1];exact kd6 _ _ (Nat.le_trans (hM.ar2 _ _) (by omega))) (kn6 (nm_abc (by omega)) (nm_h (by omega))) (num_wf hM) wf_nil wf_nil
 split
 ·have ha := hM.al _ hM.own;have hh := nextB_lt b ha.1;exact wf_one (lf' := lf) (by simp only [z];omega) (by rw [List.length_cons,(numL_ok _ _ _).1];exact kd7 _ (by omega) (Nat.succ_le_succ (Nat.le_trans (hM.ar2 _ _) (by omega)))) (kn7 (nm_h (by omega))) (more_wf (hn _ _ (by omega)) hM) wf_nil wf_nil
 split
 ·split
  ·have h1 := hb ((numL M 2 (nextB b 2).2).2,lf);exact wf_one (by have := h1.cnt;simp only at *;omega) (by rw [(numL_ok _ _ _).1];exact kd8 _) (by decide) (num_wf hM) wf_nil h1.all
  ·have h1 := hb ((numE M 3 (nextB (nextB b 2).2 M.ints).2).2,lf);have hx := nextB_lt (nextB b 2).2 hM.i0;have h3 := hM.i3;exact wf_one (lf' := (bd ((numE M 3 (nextB (nextB b 2).2 M.ints).2).2,lf)).2.2) (by have := h1.cnt;simp only at *;omega) (kd9 _ _) (kn9 (nm_x (by omega))) (one_wf (hn _ _ (by omega))) wf_nil h1.all
 split
 ·exact wf_one (lf' := lf) (by simp only [z];omega) (by decide) (by decide) (fun _ h => by cases h) wf_nil wf_nil
 ·have h3 := hM.i3;exact wf_one (lf' := lf) (by simp only [z];omega) (kd1 _) (kn1 (nm_x (by have := nextB_lt (if k = 12 then (nextB b 3).2 else b) hM.i0;omega))) (one_wf (hn _ _ (by omega))) wf_nil wf_nil
theorem bodL_wf {st : Nat → Bs → Nat → Sm × (Bs × Nat)} {D : Nat} (hs : ∀ k b lf,Wf D (lf + 1) [(st k b lf).1] (st k b lf).2.2) : ∀ f x,Wf D x.2 (bodL st f x).1 (bodL st f x).2.2
 | 0,x => ⟨by simp [bodL,Sm.counts],Nat.zero_le _,rfl,rfl,rfl⟩
 | f + 1,(b,lf) => by
  unfold bodL
  split
  ·exact ⟨by simp [Sm.counts],Nat.zero_le _,rfl,rfl,rfl⟩
  ·rename_i hne
   split
   ·exact ⟨by simp [Sm.counts],Nat.zero_le _,rfl,rfl,rfl⟩
   ·have h1 := hs (nextB b 14).1 (nextB b 14).2 (lf - 1);have h2 := bodL_wf hs f (st (nextB b 14).1 (nextB b 14).2 (lf - 1)).2;have hl : lf ≠ 0 := fun e => hne (.inr e)
    have al : ∀ (q : Sm → Bool) (s : Sm) (l : List Sm),Sm.alls q [s] = true → Sm.alls q l = true → Sm.alls q (s :: l) = true := fun q s l a b => by
     simp only [Sm.alls,Bool.and_eq_true] at a ⊢;exact ⟨a.1,b⟩
    refine ⟨?_,?_,al _ _ _ h1.frm h2.frm,al _ _ _ h1.nam h2.nam,al _ _ _ h1.sma h2.sma⟩
    ·have a1 := h1.cnt;have a2 := h2.cnt;simp only [Sm.counts] at a1 ⊢;omega
    ·have a1 := h1.dep;have a2 := h2.dep;simp only [Sm.deeps] at a1 ⊢;omega
theorem bodE_wf {M : Mk} (hM : MkOk M) : ∀ f x,Wf (f + 1) x.2 (bodE M f x).1 (bodE M f x).2.2
 | 0,x => bodL_wf (fun k b lf => stmT_wf hM k 3 (D := 0) (fun x => ⟨by simp [Sm.counts],Nat.zero_le _,rfl,rfl,rfl⟩) b lf) 13 x
 | f + 1,x => bodL_wf (fun k b lf => stmT_wf hM k (2 - f) (bodE_wf hM f) b lf) 13 x
structure HdOk (h : Hd) : Prop where
 nam : namH h = true
 frm : frmH h = true
 sma : smaH h = true
theorem MkOk.at {M : Mk} (h : MkOk M) (k : Nat) : MkOk (M.at k) := ⟨h.i0,h.i3,h.ar2 _ _,h.f2,h.a3,h.a0,h.ar2,h.al,h.own⟩
theorem hdS_wf {M : Mk} (hM : MkOk M) {k : Nat} (hk : k < 3) (c : Cd) : HdOk (hdS M k c) := by
 have h := bodE_wf (hM.at k) 3 (c.bytes.take 40,12);have hc := h.cnt;have hd := h.dep;simp only at hc;have h2 := hM.ar2 M.own k;refine ⟨?_,h.frm,?_⟩
 ·simp only [namH,hdS,Bool.and_eq_true];refine ⟨⟨nm_h hk,?_⟩,h.nam⟩;simp only [namesB,List.all_eq_true,List.mem_map,List.mem_range];rintro _ ⟨i,hi,rfl⟩;exact nm_p (by omega)
 ·simp only [smaH,hdS,Bool.and_eq_true,h.sma,and_true,namesB_len];simp only [Bool.not_eq_true',Bool.or_eq_false_iff,decide_eq_false_iff_not];refine ⟨⟨by omega,decide_eq_false (by omega)⟩,decide_eq_false (by omega)⟩
theorem hdsP_wf {M : Mk} (hM : MkOk M) : ∀ (l : List Cd) (k : Nat),k + l.length ≤ 3 → ∀ h ∈ hdsP M k l,HdOk h
 | [],k,_,h,hh => by cases hh
 | c :: r,k,hk,h,hh => by
  simp only [List.length_cons] at hk;rcases List.mem_cons.1 hh with rfl | hh
  ·exact hdS_wf hM (by omega) c
  ·exact hdsP_wf hM r (k + 1) (by omega) h hh
theorem addK_len (ks : List Str) (s : Str) : (addK ks s).length ≤ ks.length + 1 := by
 unfold addK;split <;> simp
theorem stepV_len : ∀ (v : List Hd) (ks : List Str),(stepV ks v).length ≤ ks.length + v.length
 | [],ks => by simp [stepV]
 | h :: v,ks => by
  have := stepV_len v (stepH ks h);have h2 := addK_len ks h.nm;simp only [stepV,List.foldl_cons,List.length_cons,stepH] at this ⊢;omega
theorem arP_pos (x : Prt) : 0 < (arP x).length ∧ (arP x).length ≤ 3 := by
 have h := arP_len x;have h2 := arUp_len x 3;unfold arP at *;omega
theorem mkP_ok (p : Pln) {i : Nat} (hi : i < (prtsP p).length) (x : Prt) : MkOk (mkP (arsP p) (p.flags.toNat % 3) i x) := by
 have hp := prtsP_len p;have hl : (arsP p).length = (prtsP p).length := by simp [arsP]
 refine ⟨by simp only [mkP,intsP];omega,by simp only [mkP,intsP];omega,by simp [mkP],by simp only [mkP];omega,by simp only [mkP];omega,by simp only [mkP];omega,arN_le,?_,by simp only [mkP];omega⟩;intro c hc;simp only [mkP] at hc;simp only [arL,mkP];rw [getD_at hc];have hm := List.getElem_mem hc;generalize (arsP p)[c] = l at hm;obtain ⟨y,_,rfl⟩ := List.mem_map.1 hm;exact arP_pos y
theorem vssP_ok {M : Mk} (hM : MkOk M) (x : Prt) : 1 ≤ (vssP M x).length ∧ (vssP M x).length ≤ 2 ∧ ∀ v ∈ vssP M x,v.length ≤ 3 ∧ ∀ h ∈ v,HdOk h := by
 have hf := fstP_len x;refine ⟨by simp [vssP],by unfold vssP;split <;> simp,fun v hv => ?_⟩;unfold vssP at hv;rcases List.mem_cons.1 hv with rfl | hv
 ·exact ⟨by rw [hdsP_len];exact hf,hdsP_wf hM _ 0 (by omega)⟩
 ·split at hv
  ·rw [List.mem_singleton.1 hv];exact ⟨by rw [hdsP_len,List.length_take];omega,hdsP_wf hM _ 0 (by rw [List.length_take];omega)⟩
  ·cases hv
theorem names_len {c : Cp} (h : c.vers.length ≤ 2) (hv : ∀ v ∈ c.vers,v.length ≤ 3) : (namesOf c).length ≤ 6 := by
 unfold namesOf
 match hc : c.vers,h with
 | [],_ => simp
 | [v],_ =>
  have := stepV_len v [];have := hv v (by rw [hc];simp);simp only [List.foldl_cons,List.foldl_nil,List.length_nil] at *;omega
 | [v,w],_ =>
  have := stepV_len v [];have := stepV_len w (stepV [] v);have := hv v (by rw [hc];simp);have := hv w (by rw [hc];simp);simp only [List.foldl_cons,List.foldl_nil,List.length_nil] at *;omega
theorem vars_ok (x : Prt) : (varsP x).length ≤ 8 ∧ ∀ v ∈ varsP x,nameB v.nm = true ∧ frmV v = true := by
 refine ⟨by simp only [varsP,List.length_append,vrsI_len,vrsT_len,List.length_singleton,intsP,tabsP];omega,fun v hv => ?_⟩;simp only [varsP,vrsI,vrsT,List.mem_append,List.mem_map,List.mem_range,List.mem_singleton] at hv;rcases hv with (⟨i,hi,rfl⟩ | rfl) | ⟨i,hi,rfl⟩
 ·simp only [intsP] at hi;refine ⟨nm_x (by omega),?_⟩;rw [show frmV (vrI i) = decide ((Int64.ofNat i).toInt ≠ -9223372036854775808) from rfl,decide_eq_true_eq,Int64.toInt_ofNat_of_lt (by omega)];omega
 ·exact ⟨nm_b0,by decide⟩
 ·simp only [tabsP] at hi;obtain rfl : i = 0 := by omega
  exact ⟨nm_t0,by decide⟩
theorem buildF_good (p : Pln) : checkF (buildF p) = 0 := by
 have hp := prtsP_len p
 have hcs : ∀ c ∈ (buildF p).comps,∃ i x,i < (prtsP p).length ∧ c = cmpP (arsP p) (p.flags.toNat % 3) i x := by
  intro c hc;simp only [buildF,cmpsP] at hc;obtain ⟨i,hi,rfl⟩ := List.mem_mapIdx.1 hc;exact ⟨i,_,hi,rfl⟩
 have hhd : ∀ c ∈ (buildF p).comps,∀ v ∈ c.vers,∀ h ∈ v,HdOk h := by
  intro c hc v hv h hh;obtain ⟨i,x,hi,rfl⟩ := hcs c hc;exact ((vssP_ok (mkP_ok p hi x) x).2.2 v hv).2 h hh
 have ev : ∀ q : Hd → Bool,(∀ h,HdOk h → q h = true) → evH q (buildF p) = true := by
  intro q hq;simp only [evH,List.all_eq_true];exact fun c hc v hv h hh => hq h (hhd c hc v hv h hh)
 have h9 : (prtsP p).length * (prtsP p).length ≤ 9 := Nat.mul_le_mul hp.2 hp.2;have hmin : min p.links.length ((prtsP p).length * (prtsP p).length) ≤ (prtsP p).length * (prtsP p).length := Nat.min_le_right _ _
 have h1 : smlF (buildF p) = true := by
  simp only [smlF,Bool.and_eq_true,ev smaH fun h k => k.sma,and_true];refine ⟨?_,?_⟩
  ·simp only [limF,buildF,cmpsP_len,flgsP_len,Bool.and_eq_true,decide_eq_true_eq];have := lnksP_len (prtsP p).length p.links (min p.links.length ((prtsP p).length * (prtsP p).length));refine ⟨⟨⟨by omega,by omega⟩,by omega⟩,decide_eq_true (by omega)⟩
  ·rw [List.all_eq_true];intro c hc;obtain ⟨i,x,hi,rfl⟩ := hcs c hc;obtain ⟨v1,v2,v3⟩ := vssP_ok (mkP_ok p hi x) x;have v4 := names_len (c := cmpP (arsP p) (p.flags.toNat % 3) i x) v2 fun v hv => (v3 v hv).1;simp only [smlC,Bool.and_eq_true,decide_eq_true_eq];exact ⟨⟨⟨(vars_ok x).1,v1⟩,Nat.le_trans v2 (by omega)⟩,by omega⟩
 have hlk : ∀ l ∈ (buildF p).links,nameB l.fr = true ∧ nameB l.to = true ∧ lkB l = true := by
  intro l hl;simp only [buildF,lnksP,List.mem_flatMap,List.mem_range] at hl;obtain ⟨k,hk,hl⟩ := hl;unfold lnkP at hl
  split at hl
  ·rename_i h0;rw [List.mem_singleton.1 hl]
   have hd : k / (prtsP p).length < (prtsP p).length := by
    rw [Nat.div_lt_iff_lt_mul hp.1];omega
   have hm := Nat.mod_lt k hp.1;refine ⟨nm_abc (by omega),nm_abc (by omega),?_⟩;simp only [lkB,Bool.and_eq_true,decide_eq_true_eq];rw [Int64.toInt_ofNat_of_lt (by omega)];omega
  ·cases hl
 have h2 : namF (buildF p) = true := by
  simp only [namF,Bool.and_eq_true,ev namH fun h k => k.nam,and_true];refine ⟨⟨⟨show nameB fleetN = true by decide +kernel,?_⟩,?_⟩,?_⟩
  ·simp only [buildF,flgsP,List.all_eq_true,List.mem_map,List.mem_range];rintro _ ⟨k,hk,rfl⟩;exact nm_f (by omega)
  ·rw [List.all_eq_true];intro l hl;rw [(hlk l hl).1,(hlk l hl).2.1];rfl
  ·rw [List.all_eq_true];intro c hc;obtain ⟨i,x,hi,rfl⟩ := hcs c hc;rw [Bool.and_eq_true,List.all_eq_true];exact ⟨nm_abc (by omega),fun v hv => ((vars_ok x).2 v hv).1⟩
 have h3 : frmF (buildF p) = true := by
  simp only [frmF,Bool.and_eq_true,ev frmH fun h k => k.frm,and_true];refine ⟨?_,?_⟩
  ·rw [List.all_eq_true];exact fun l hl => (hlk l hl).2.2
  ·rw [List.all_eq_true];intro c hc;obtain ⟨i,x,hi,rfl⟩ := hcs c hc;rw [List.all_eq_true];exact fun v hv => ((vars_ok x).2 v hv).2
 simp [checkF,h1,h2,h3]
end Go.Proofs.YtohfacbajcenoaaGreatDoor
namespace Go.Proofs.YtohfacbajcenoaaGreatDoor
mutual
def Sm.flat : Sm → List Sm
 | .mk kd nm hd ex th el => .mk kd nm hd ex th el :: (Sm.flats th ++ Sm.flats el)
def Sm.flats : List Sm → List Sm
 | [] => []
 | s :: r => Sm.flat s ++ Sm.flats r
end
theorem sflat_mk (kd : UInt8) (nm hd : Str) (ex : List Ex) (th el : List Sm) : Sm.flat (.mk kd nm hd ex th el) = .mk kd nm hd ex th el :: (Sm.flats th ++ Sm.flats el) := by rw [Sm.flat]
theorem sflats_app (a b : List Sm) : Sm.flats (a ++ b) = Sm.flats a ++ Sm.flats b := by
 induction a with
 | nil => simp [Sm.flats]
 | cons e r ih => simp only [List.cons_append,Sm.flats,ih,List.append_assoc]
theorem sflats_succ {l : List Sm} {k : Nat} (h : k < l.length) : Sm.flats (l.take (k + 1)) = Sm.flats (l.take k) ++ Sm.flat l[k] := by
 rw [take_snoc h,sflats_app];simp [Sm.flats]
mutual
theorem sflat_len : ∀ s : Sm,(Sm.flat s).length = Sm.count s
 | .mk kd nm hd ex th el => by
  rw [sflat_mk,List.length_cons,List.length_append,sflats_len th,sflats_len el,scount_mk]
theorem sflats_len : ∀ l : List Sm,(Sm.flats l).length = Sm.counts l
 | [] => rfl
 | s :: r => by simp only [Sm.flats,Sm.counts,List.length_append,sflat_len s,sflats_len r]
end
def nmsL : List Str := [[97],[98],[99],[102,48],[102,49],[120,48],[120,49],[98,48],[116,48],[112,48],[112,49],[104,48],[104,49],[104,50],[122,122]]
def nmAt (n : Nat) : Str := nmsL.getD (n % 15) []
theorem nmAt_len (n : Nat) : (nmAt n).length ≤ 2 := by
 have key : ∀ i ∈ List.range 15,(nmsL.getD i []).length ≤ 2 := by decide
 exact key _ (List.mem_range.2 (Nat.mod_lt _ (by omega)))
def noP : Pb := ⟨[],[],0⟩
def PbOk (P : Pb) : Prop := P.er = 0 → P = noP
def NzP (l : List Pb) : Prop := ∀ x ∈ l,x.er ≠ 0
def frsP (P : Pb) (l : List Pb) : Pb := if P.er = 0 then l.headD noP else P
theorem frsP_nil {P : Pb} (h : PbOk P) : frsP P [] = P := by
 unfold frsP
 split
 ·rename_i e;rw [h e];rfl
 ·rfl
theorem frsP_keep {P : Pb} (h : P.er ≠ 0) (l : List Pb) : frsP P l = P := by rw [frsP,if_neg h]
theorem frsP_one {P : Pb} (h : P.er = 0) (x : Pb) : frsP P [x] = x := by rw [frsP,if_pos h];rfl
theorem frsP_ok {P : Pb} (h : PbOk P) {l : List Pb} (hl : NzP l) : PbOk (frsP P l) := by
 unfold frsP
 split
 ·cases l with
  | nil => exact fun _ => rfl
  | cons x l => exact fun e => absurd e (hl x (List.mem_cons_self ..))
 ·exact h
theorem frsP_app {P : Pb} {l m : List Pb} (hl : NzP l) : frsP (frsP P l) m = frsP P (l ++ m) := by
 by_cases h : P.er = 0
 ·cases l with
  | nil =>
   rw [List.nil_append,frsP,frsP,if_pos h];show (if (noP).er = 0 then m.headD noP else noP) = _;rw [if_pos (show noP.er = 0 from rfl),frsP,if_pos h]
  | cons x l =>
   have hx := hl x (List.mem_cons_self ..);rw [frsP,frsP,if_pos h];show (if x.er = 0 then m.headD noP else x) = _;rw [if_neg hx,frsP,if_pos h];rfl
 ·rw [frsP_keep h,frsP_keep h,frsP_keep h]
theorem NzP.nil : NzP [] := fun _ h => by cases h
theorem NzP.app {l m : List Pb} (h : NzP l) (k : NzP m) : NzP (l ++ m) := fun x hx => (List.mem_append.1 hx).elim (h x) (k x)
theorem NzP.if_ {b : Bool} {w n : Str} {e : Nat} (h : e ≠ 0) : NzP (rpIf b w n e) := by
 unfold rpIf
 split
 ·intro x hx;rw [List.mem_singleton.1 hx];exact h
 ·exact .nil
theorem NzP.flat {α : Type} {f : α → List Pb} {l : List α} (h : ∀ a,NzP (f a)) : NzP (l.flatMap f) := fun x hx => by
 obtain ⟨a,_,hx⟩ := List.mem_flatMap.1 hx;exact h a x hx
def NzR (l : List Rp) : Prop := ∀ x ∈ l,x.2 ≠ 0
theorem NzR.nil : NzR [] := fun _ h => by cases h
theorem NzR.app {l m : List Rp} (h : NzR l) (k : NzR m) : NzR (l ++ m) := fun x hx => (List.mem_append.1 hx).elim (h x) (k x)
theorem NzR.one {n : Str} {e : Nat} (h : e ≠ 0) : NzR [(n,e)] := fun x hx => by rw [List.mem_singleton.1 hx];exact h
theorem NzR.ite {c : Prop} [Decidable c] {l m : List Rp} (h : NzR l) (k : NzR m) : NzR (if c then l else m) := by split;exact h;exact k
theorem NzR.e (r : Tr) (t : UInt8) : NzR (rpE r t) := by
 unfold rpE;refine .app ?_ (.ite .nil (.one (by decide)))
 split
 ·exact .nil
 ·rename_i h;exact .one h
theorem NzR.all (s : Sc) (t : UInt8) (l : List Ex) : NzR (allT s t l) := fun x hx => by
 obtain ⟨a,_,hx⟩ := List.mem_flatMap.1 hx;exact NzR.e _ _ x hx
theorem NzR.chg (s : Sc) (n : Str) : NzR (chgR s n) := by
 unfold chgR
 split
 ·exact .nil
 ·refine .one ?_;split <;> decide
theorem NzR.call (s : Sc) (vs : List (List Hd)) (n : Str) (es : List Ex) (k : Nat) : NzR (callR s vs n es k) :=
 .app (.ite .nil (.one (by decide))) (.app (.ite .nil (.one (by decide))) (.all _ _ _))
theorem NzR.st (cs : List Cp) (own : List (List Hd)) (s : Sc) (x : Sm) : NzR (stR cs own s x) := by
 obtain ⟨kd,nm,hd,ex,th,el⟩ := x;unfold stR;exact .ite (.app (.chg _ _) (.ite (.all _ _ _) (.one (by decide))))<|.ite (.app (.chg _ _) (.app (.ite .nil (.one (by decide))) (.all _ _ _)))<|.ite (.app (.chg _ _) (.app (.ite .nil (.one (by decide))) (.all _ _ _)))<|.ite (.all _ _ _)<|.ite (.app (.ite .nil (.one (by decide))) (.call _ _ _ _ _))<|.ite (.call _ _ _ _ _)<|.ite (.all _ _ _) .nil
theorem NzR.at {l : List Rp} (h : NzR l) (w : Str) : NzP (atW w l) := fun x hx => by
 obtain ⟨y,hy,rfl⟩ := List.mem_map.1 hx;exact h y hy
mutual
theorem NzP.st (cs : List Cp) (own : List (List Hd)) (s : Sc) (pl : Str) : ∀ (k : Nat) (x : Sm),NzP (stL cs own s pl k x)
 | k,.mk kd nm hd ex th el => by
  rw [stL_mk];exact .app ((NzR.st cs own s _).at _) (.app (NzP.sts cs own s pl _ th) (NzP.sts cs own s pl _ el))
theorem NzP.sts (cs : List Cp) (own : List (List Hd)) (s : Sc) (pl : Str) : ∀ (k : Nat) (l : List Sm),NzP (stLs cs own s pl k l)
 | k,[] => by rw [stLs];exact .nil
 | k,x :: r => by rw [stLs];exact .app (NzP.st cs own s pl k x) (NzP.sts cs own s pl _ r)
end
theorem NzP.flg (f : Ft) (i : Nat) : NzP (flg1 f i) := by unfold flg1;split;exact .nil;exact .if_ (by decide)
theorem NzP.lnk (f : Ft) (i : Nat) : NzP (lnk1 f i) := by unfold lnk1;split;exact .nil;exact .app (.if_ (by decide)) (.app (.if_ (by decide)) (.if_ (by decide)))
theorem NzP.var (f : Ft) (c : Cp) (i : Nat) : NzP (var1 f c i) := by unfold var1;split;exact .nil;exact .if_ (by decide)
theorem NzP.par (f : Ft) (c : Cp) (n : Nat) (h : Hd) (i : Nat) : NzP (par1 f c n h i) := by unfold par1;split;exact .nil;exact .if_ (by decide)
theorem NzP.hdl (f : Ft) (c : Cp) (n : Nat) (v : List Hd) (i : Nat) : NzP (hdl1 f c n v i) := by
 unfold hdl1
 split
 ·exact .nil
 ·exact .app (.if_ (by decide)) (.app (.if_ (by decide)) (.app (.flat fun _ => .par _ _ _ _ _) (.sts _ _ _ _ _ _)))
theorem NzP.ver (f : Ft) (c : Cp) (n : Nat) : NzP (ver1 f c n) := by unfold ver1;split;exact .nil;exact .flat fun _ => .hdl _ _ _ _ _
theorem NzP.cmp (f : Ft) (i : Nat) : NzP (cmp1 f i) := by
 unfold cmp1
 split
 ·exact .nil
 ·exact .app (.if_ (by decide)) (.app (.flat fun _ => .var _ _ _) (.flat fun _ => .ver _ _ _))
theorem flat_succ' {α : Type} (f : Nat → List α) (n : Nat) : (List.range (n + 1)).flatMap f = (List.range n).flatMap f ++ f n := by simp [List.range_succ]
end Go.Proofs.YtohfacbajcenoaaGreatDoor
namespace Go.Sx
open Go.RowKit Go.Par
inductive Ty where
 | int (k : IntKind)
 | bool
 | strg
 | seq (τ : Ty)
 | str (fs : List Ty)
 | arr (n : Nat) (τ : Ty)
mutual
def Ty.cells : Ty → Nat
 | .int _ => 1
 | .bool => 1
 | .strg => 1
 | .seq _ => 1
 | .str fs => Ty.cellsL fs
 | .arr n τ => n * Ty.cells τ
def Ty.cellsL : List Ty → Nat
 | [] => 0
 | τ :: r => Ty.cells τ + Ty.cellsL r
end
mutual
def Ty.at (P : Program) : Ty → TypeId → Bool
 | .int k,t => match P.underlying t with | some (.int k') => decide (k' = k) | _ => false
 | .bool,t => match P.underlying t with | some .bool => true | _ => false
 | .strg,t => match P.underlying t with | some .string => true | _ => false
 | .seq τ,t => match P.underlying t with | some (.slice e) => Ty.at P τ e && decide (P.cellsOf e = Ty.cells τ) && decide (0 < Ty.cells τ) | _ => false
 | .str fs,t => match P.underlying t with | some (.struct g) => decide (P.cellsOf t = Ty.cellsL fs) && Ty.atL P fs g.toList 0 | _ => false
 | .arr n τ,t => match P.underlying t with | some (.array m e) => decide (m = n) && Ty.at P τ e && decide (P.cellsOf e = Ty.cells τ) && decide (P.cellsOf t = n * Ty.cells τ) | _ => false
def Ty.atL (P : Program) : List Ty → List Field → Nat → Bool
 | [],[],_ => true
 | τ :: r,f :: g,o => Ty.at P τ f.type && decide (f.offset = o) && decide (P.cellsOf f.type = Ty.cells τ) && Ty.atL P r g (o + Ty.cells τ)
 | _,_,_ => false
end
mutual
def Ty.has : Ty → D → Prop
 | .int k,d => ∃ n,d = .val (.int k n) ∧ (Lit.int k n).wf = true
 | .bool,d => ∃ b,d = .val (.bool b)
 | .strg,d => ∃ s : ByteArray,d = .any (.string s)
 | .seq τ,d => ∃ ds,d = .seq (Ty.cells τ) ds ∧ ∀ x ∈ ds,Ty.has τ x
 | .str fs,d => ∃ ds,d = .str ds ∧ Ty.hasL fs ds
 | .arr _ _,_ => False
def Ty.hasL : List Ty → List D → Prop
 | [],ds => ds = []
 | τ :: r,ds => ∃ d q,ds = d :: q ∧ Ty.has τ d ∧ Ty.hasL r q
end
mutual
def Ty.opn : Ty → Bool
 | .int _ => true
 | .bool => true
 | .strg => true
 | .seq τ => Ty.opn τ
 | .str fs => Ty.opnL fs
 | .arr _ _ => false
def Ty.opnL : List Ty → Bool
 | [] => true
 | τ :: r => Ty.opn τ && Ty.opnL r
end
mutual
def Ty.pln : Ty → Bool
 | .int _ => true
 | .bool => true
 | .strg => true
 | .seq _ => false
 | .str fs => Ty.plnL fs
 | .arr _ τ => Ty.pln τ
def Ty.plnL : List Ty → Bool
 | [] => true
 | τ :: r => Ty.pln τ && Ty.plnL r
end
def allH (W : World) : Hp := ⟨fun b => W.heap[b]?,0⟩
theorem allH_agr (W : World) : Agr (allH W) W := ⟨fun _ _ h => h,Nat.zero_le _⟩
theorem cell_block {W : World} {a : Addr} {v : Value} (h : W.cell? a = some v) : ∃ cs t m,W.heap[a.block]? = some (.cells cs t m) ∧ a.spot = Option.none ∧ cs[a.off]? = some v := by
 unfold World.cell? at h
 split at h
 ·rename_i cs t m e
  split at h
  ·cases h
  ·rename_i hs;exact ⟨cs,t,m,e,by simpa using hs,h⟩
 ·cases h
theorem add_add (a : Addr) (x y : Nat) : (a.add x).add y = a.add (x + y) := by
 by_cases hx : x = 0
 ·subst hx;simp [Addr.add]
 ·by_cases hy : y = 0
  ·subst hy;simp [Addr.add]
  ·simp [Addr.add,hx,hy,Nat.add_assoc]
mutual
theorem Ty.plain : ∀ (τ : Ty) (d : D),Ty.has τ d → d.txt = false
 | .int k,d,h => by
  unfold Ty.has at h;obtain ⟨n,rfl,_⟩ := h
  rfl
 | .bool,d,h => by
  unfold Ty.has at h;obtain ⟨n,rfl⟩ := h
  rfl
 | .strg,d,h => by
  unfold Ty.has at h;obtain ⟨n,rfl⟩ := h
  rfl
 | .seq τ,d,h => by
  unfold Ty.has at h;obtain ⟨ds,rfl,h⟩ := h;show D.txtL ds = false;rw [D.txtL_any,List.any_eq_false];intro x hx;rw [Ty.plain τ x (h x hx)]
  decide
 | .str fs,d,h => by
  unfold Ty.has at h;obtain ⟨ds,rfl,h⟩ := h;exact Ty.plainL fs ds h
 | .arr n τ,d,h => by
  unfold Ty.has at h;exact h.elim
theorem Ty.plainL : ∀ (fs : List Ty) (ds : List D),Ty.hasL fs ds → D.txtL ds = false
 | [],ds,h => by
  unfold Ty.hasL at h;subst h
  rfl
 | τ :: r,ds,h => by
  unfold Ty.hasL at h;obtain ⟨d,q,rfl,h1,h2⟩ := h;rw [D.txtL,Ty.plain τ d h1,Ty.plainL r q h2]
  rfl
end
section
variable {H : Type} {enc : TypeId × Value → H} {P : Program} {base : Nat} {sp : Nat → Bool} {held : Bool}
mutual
theorem Ty.opens (W : World) : ∀ (τ : Ty) (t : TypeId) (fuel : Nat) (cs : List Value) (x : DataW H × List MemPlace),Ty.at P τ t = true → Ty.opn τ = true → DataW.trod enc P W base sp held fuel t cs = some x → ∃ d,Ty.has τ d ∧ Rep (allH W) d cs
 | .int k,t,fuel,cs,x,ha,_,h => by
  unfold Ty.at at ha
  split at ha
  ·rename_i k' hu;obtain rfl : k' = k := by simpa using ha
   obtain ⟨n,rfl,_,hw⟩ := DataW.trod_int hu h;refine ⟨.val (.int k' n),?_,?_⟩
   ·unfold Ty.has;exact ⟨n,rfl,hw⟩
   ·unfold Rep;exact ⟨rfl,rfl,trivial⟩
  ·cases ha
 | .bool,t,fuel,cs,x,ha,_,h => by
  unfold Ty.at at ha
  split at ha
  ·rename_i hu;obtain ⟨b,rfl,_⟩ := DataW.trod_bool hu h;refine ⟨.val (.bool b),?_,?_⟩
   ·unfold Ty.has;exact ⟨b,rfl⟩
   ·unfold Rep;exact ⟨rfl,rfl,trivial⟩
  ·cases ha
 | .strg,t,fuel,cs,x,ha,_,h => by
  unfold Ty.at at ha
  split at ha
  ·rename_i hu;obtain ⟨s,rfl,_⟩ := DataW.trod_string hu h;refine ⟨.any (.string s),?_,?_⟩
   ·unfold Ty.has;exact ⟨s,rfl⟩
   ·unfold Rep;exact ⟨rfl,rfl⟩
  ·cases ha
 | .arr _ _,_,_,_,_,_,ho,_ => by simp [Ty.opn] at ho
 | .str fs,t,fuel,cs,x,ha,ho,h => by
  unfold Ty.at at ha
  split at ha
  ·rename_i g hu;simp only [Bool.and_eq_true,decide_eq_true_eq] at ha;unfold Ty.opn at ho;obtain ⟨xs,n,_,rfl,hl,hlen,hf⟩ := DataW.trod_struct hu h
   obtain ⟨ds,h1,h2⟩ := Ty.opensL W fs g.toList 0 n cs ha.2 ho (by rw [hl,ha.1];omega) (fun i f hi => by
    have hi2 : g[i]? = some f := by simpa using hi
    have := hf i f hi2;have hlt : i < xs.length := by rw [hlen];exact (Array.getElem?_eq_some_iff.1 hi2).1
    rw [List.getElem?_eq_getElem hlt] at this;exact ⟨_,this⟩)
   refine ⟨.str ds,?_,?_⟩
   ·unfold Ty.has;exact ⟨ds,rfl,h1⟩
   ·unfold Rep;simpa using h2
  ·cases ha
 | .seq τ,t,fuel,cs,x,ha,ho,h => by
  unfold Ty.at at ha
  split at ha
  ·rename_i e hu;simp only [Bool.and_eq_true,decide_eq_true_eq] at ha;obtain ⟨⟨ha,hz⟩,h0⟩ := ha;unfold Ty.opn at ho;rcases Go.Deep.open_slice hu h with ⟨rfl,-⟩ | ⟨a,len,cap,m,n,D,Pl,rfl,-,hl,hm,hmm,-,hi⟩
   ·refine ⟨.seq (Ty.cells τ) [],?_,.empty (by simp [maxLen])⟩;unfold Ty.has;exact ⟨[],rfl,by simp⟩
   have hlm : len ≤ m := by rw [hmm];split <;> omega
   have key : ∀ q,q ≤ len → ∃ ds l,ds.length = q ∧ (∀ x ∈ ds,Ty.has τ x) ∧ RepZ (allH W) (Ty.cells τ) ds l ∧ l.length = q * Ty.cells τ ∧ ∀ (j : Nat) u,l[j]? = some u → W.cell? (a.add j) = some u := by
    intro q;induction q with
    | zero => intro _;exact ⟨[],[],rfl,by simp,RepZ.nil,by simp,by simp⟩
    | succ q ih =>
     intro hq;obtain ⟨ds,l,h1,h2,h3,h4,h5⟩ := ih (by omega);obtain ⟨cs',hc,ht⟩ := hi q (by omega);rw [hz] at hc;obtain ⟨_,hcl,hat⟩ := World.cells?_some hc;obtain ⟨d,hd,hr⟩ := Ty.opens W τ e n cs' _ ha ho ht;refine ⟨ds ++ [d],l ++ cs',by simp [h1],?_,h3.snoc hr hcl,by rw [List.length_append,h4,hcl,Nat.succ_mul],?_⟩
     ·intro x hx;rcases List.mem_append.1 hx with hx | hx
      ·exact h2 x hx
      ·rw [List.mem_singleton.1 hx];exact hd
     ·intro j u hj
      by_cases hjl : j < l.length
      ·rw [List.getElem?_append_left hjl] at hj;exact h5 j u hj
      ·rw [List.getElem?_append_right (by omega)] at hj;have hjc := (List.getElem?_eq_some_iff.1 hj).1;have := hat (j - l.length) (by omega);rw [hj] at this;have h9 : q * Ty.cells τ + (j - l.length) = j := by omega
       have h10 : (a.add (q * Ty.cells τ)).add (j - l.length) = a.add j := by rw [add_add,h9]
       rw [← h10];exact this
   obtain ⟨ds,l,h1,h2,h3,h4,h5⟩ := key len (Nat.le_refl _);refine ⟨.seq (Ty.cells τ) ds,?_,?_⟩
   ·unfold Ty.has;exact ⟨ds,rfl,h2⟩
   by_cases hl0 : len = 0
   ·subst hl0;obtain rfl := List.eq_nil_of_length_eq_zero h1;exact .empty hm
   ·have hlp : 0 < l.length := by rw [h4];exact Nat.mul_pos (by omega) h0
    have hc0 := h5 0 _ (List.getElem?_eq_getElem hlp);rw [show a.add 0 = a by simp [Addr.add]] at hc0;obtain ⟨arr,t',mk,hb,hs,_⟩ := cell_block hc0;obtain ⟨ab,ao,ap⟩ := a;simp only at hs hb;subst hs
    refine .mkM ⟨arr,t',mk,hb,fun j u hu => ?_⟩ h3 h1 hl hm fun e => by
     have hp := Ty.plain (.seq τ) (.seq (Ty.cells τ) ds) (by unfold Ty.has;exact ⟨ds,rfl,h2⟩);rw [show Go.Sx.D.txtL ds = false from hp] at e;cases e
    have h6 := h5 j u hu;rw [Addr.add_lit] at h6;obtain ⟨arr',t'',mk',hb',_,h7⟩ := cell_block h6;have e2 := Option.some.inj (hb.symm.trans hb');injection e2 with e3
    subst e3;exact h7
  ·cases ha
theorem Ty.opensL (W : World) : ∀ (fs : List Ty) (g : List Field) (o n : Nat) (cs : List Value),Ty.atL P fs g o = true → Ty.opnL fs = true → cs.length = o + Ty.cellsL fs →
 (∀ (i : Nat) f,g[i]? = some f → ∃ y,DataW.trod enc P W base sp held n f.type ((cs.drop f.offset).take (P.cellsOf f.type)) = some y) → ∃ ds,Ty.hasL fs ds ∧ RepL (allH W) ds (cs.drop o)
 | [],[],o,n,cs,_,_,hl,_ => by
  refine ⟨[],by unfold Ty.hasL;rfl,?_⟩;unfold RepL;exact List.drop_of_length_le (by simp only [Ty.cellsL] at hl;omega)
 | [],_ :: _,_,_,_,ha,_,_,_ => by simp [Ty.atL] at ha
 | _ :: _,[],_,_,_,ha,_,_,_ => by simp [Ty.atL] at ha
 | τ :: r,f :: g,o,n,cs,ha,ho,hl,hf => by
  unfold Ty.atL at ha;unfold Ty.opnL at ho;simp only [Bool.and_eq_true,decide_eq_true_eq] at ha ho;obtain ⟨⟨⟨a1,a2⟩,a3⟩,a4⟩ := ha;obtain ⟨y,hy⟩ := hf 0 f rfl;rw [a2,a3] at hy;obtain ⟨d,h1,h2⟩ := Ty.opens W τ f.type n _ y a1 ho.1 hy;unfold Ty.cellsL at hl;obtain ⟨ds,h3,h4⟩ := Ty.opensL W r g (o + Ty.cells τ) n cs a4 ho.2 (by omega) (fun i f' hi => hf (i + 1) f' (by simpa using hi));refine ⟨d :: ds,by unfold Ty.hasL;exact ⟨d,ds,rfl,h1,h3⟩,?_⟩;unfold RepL;exact ⟨_,_,by rw [← List.drop_drop,List.take_append_drop],h2,h4⟩
end
mutual
def flatD : DataW H → List Value
 | .lit (.int k n) => [.int k n]
 | .lit (.bool b) => [.bool b]
 | .lit (.string l) => [.string ⟨l.toArray⟩]
 | .agg ps => flatDs ps
 | _ => []
def flatDs : List (DataW H) → List Value
 | [] => []
 | d :: r => flatD d ++ flatDs r
end
mutual
theorem Ty.flat (W : World) : ∀ (τ : Ty) (t : TypeId) (fuel : Nat) (cs : List Value) (x : DataW H × List MemPlace),Ty.at P τ t = true → Ty.pln τ = true → DataW.trod enc P W base sp held fuel t cs = some x → cs = flatD x.1
 | .int k,t,fuel,cs,x,ha,_,h => by
  unfold Ty.at at ha
  split at ha
  ·rename_i k' hu;obtain ⟨n,rfl,rfl,hw⟩ := DataW.trod_int hu h;simp only [flatD]
  ·cases ha
 | .bool,t,fuel,cs,x,ha,_,h => by
  unfold Ty.at at ha
  split at ha
  ·rename_i hu;obtain ⟨b,rfl,rfl⟩ := DataW.trod_bool hu h;simp only [flatD]
  ·cases ha
 | .strg,t,fuel,cs,x,ha,_,h => by
  unfold Ty.at at ha
  split at ha
  ·rename_i hu;obtain ⟨s,rfl,rfl,_⟩ := DataW.trod_string hu h;simp only [flatD]
  ·cases ha
 | .seq _,_,_,_,_,_,ho,_ => by simp [Ty.pln] at ho
 | .str fs,t,fuel,cs,x,ha,ho,h => by
  unfold Ty.at at ha
  split at ha
  ·rename_i g hu;simp only [Bool.and_eq_true,decide_eq_true_eq] at ha;unfold Ty.pln at ho;obtain ⟨xs,n,_,rfl,hl,hlen,hf⟩ := DataW.trod_struct hu h;have h2 := Ty.flatL W fs g.toList 0 n cs xs ha.2 ho (by rw [hl,ha.1];omega) (by simpa using hlen) (fun i f hi => hf i f (by simpa using hi));simpa [flatD] using h2
  ·cases ha
 | .arr k τ,t,fuel,cs,x,ha,ho,h => by
  unfold Ty.at at ha
  split at ha
  ·rename_i m e hu;simp only [Bool.and_eq_true,decide_eq_true_eq] at ha;obtain ⟨⟨⟨hm,ha⟩,hz⟩,hct⟩ := ha;subst hm;unfold Ty.pln at ho;obtain ⟨xs,n,_,rfl,hl,hlen,hf⟩ := DataW.trod_array hu h
   have key : ∀ (xs : List (DataW H × List MemPlace)) (cs : List Value),cs.length = xs.length * Ty.cells τ → (∀ i,i < xs.length → DataW.trod enc P W base sp held n e ((cs.drop (i * Ty.cells τ)).take (Ty.cells τ)) = xs[i]?) → cs = flatDs (xs.map (·.1)) := by
    intro xs;induction xs with
    | nil => intro cs hc _;simp at hc;simp [hc,flatDs]
    | cons y r ih =>
     intro cs hc hi;have h0 := hi 0 (by simp);simp only [Nat.zero_mul,List.drop_zero,List.getElem?_cons_zero] at h0;have e0 := Ty.flat W τ e n _ y ha ho h0
     have e1 := ih (cs.drop (Ty.cells τ)) (by rw [List.length_drop,hc,List.length_cons,Nat.succ_mul];omega) (fun i hlt => by
      have := hi (i + 1) (by simp;omega);rw [List.getElem?_cons_succ] at this;rw [← this,List.drop_drop,show Ty.cells τ + i * Ty.cells τ = (i + 1) * Ty.cells τ by rw [Nat.succ_mul];omega])
     simp only [List.map_cons,flatDs];rw [← e0,← e1,List.take_append_drop]
   have h2 := key xs cs (by rw [hl,hct,hlen]) (fun i hlt => by
    have := hf i (by omega);rw [hz] at this;exact this)
   simpa [flatD] using h2
  ·cases ha
theorem Ty.flatL (W : World) : ∀ (fs : List Ty) (g : List Field) (o n : Nat) (cs : List Value) (xs : List (DataW H × List MemPlace)),Ty.atL P fs g o = true → Ty.plnL fs = true → cs.length = o + Ty.cellsL fs → xs.length = g.length →
 (∀ (i : Nat) f,g[i]? = some f → DataW.trod enc P W base sp held n f.type ((cs.drop f.offset).take (P.cellsOf f.type)) = xs[i]?) → cs.drop o = flatDs (xs.map (·.1))
 | [],[],o,n,cs,xs,_,_,hl,hx,_ => by
  obtain rfl := List.eq_nil_of_length_eq_zero hx;simp only [List.map_nil,flatDs];exact List.drop_of_length_le (by simp only [Ty.cellsL] at hl;omega)
 | [],_ :: _,_,_,_,_,ha,_,_,_,_ => by simp [Ty.atL] at ha
 | _ :: _,[],_,_,_,_,ha,_,_,_,_ => by simp [Ty.atL] at ha
 | τ :: r,f :: g,o,n,cs,[],ha,ho,hl,hx,hf => by simp at hx
 | τ :: r,f :: g,o,n,cs,y :: xs,ha,ho,hl,hx,hf => by
  unfold Ty.atL at ha;unfold Ty.plnL at ho;simp only [Bool.and_eq_true,decide_eq_true_eq] at ha ho;obtain ⟨⟨⟨a1,a2⟩,a3⟩,a4⟩ := ha;have hy := hf 0 f rfl;rw [a2,a3,List.getElem?_cons_zero] at hy;have e0 := Ty.flat W τ f.type n _ y a1 ho.1 hy;unfold Ty.cellsL at hl
  have e1 := Ty.flatL W r g (o + Ty.cells τ) n cs xs a4 ho.2 (by omega) (by simpa using hx) (fun i f' hi => by
   have := hf (i + 1) f' (by simpa using hi);rw [List.getElem?_cons_succ] at this;exact this)
  simp only [List.map_cons,flatDs];rw [← e0,← e1,← List.drop_drop,List.take_append_drop]
end
end
theorem laid_mem {P : Program} {W : World} {name : String} {dat : DataW Unit} {rest : List (String × DataW Unit)} {g : Nat} {t : TypeId} (τ : Ty) (cs : List Value)
 (hg : P.globalNamed name = some g) (hty : (P.globals[g]?).map (·.type) = some t) (ha : Ty.at P τ t = true) (hp : Ty.pln τ = true) (hc : flatD dat = cs) (h : laidMet P ((name,dat) :: rest) W) : MemAt (allH W) g 0 cs := by
 obtain ⟨ps,⟨g',t',cs',fuel,p,q,hg',ht',hvar,hd,_,_⟩,_⟩ := h;obtain rfl := Option.some.inj (hg.symm.trans hg');obtain rfl := Option.some.inj (hty.symm.trans ht');have e := Ty.flat W τ t fuel cs'.toList _ ha hp hd;dsimp only at e;rw [hc] at e;unfold World.var? at hvar;rw [hg] at hvar;simp only [Option.bind_some] at hvar
 split at hvar
 ·rename_i arr T m hb;refine ⟨arr,T,m,hb,fun j u hu => ?_⟩;obtain rfl := Option.some.inj hvar;rw [Nat.zero_add];rw [← e] at hu;simpa using hu
 ·cases hvar
theorem list_of {α β : Type} {f : α → β} : ∀ {ds : List β},(∀ x ∈ ds,∃ y,x = f y) → ∃ l : List α,ds = l.map f
 | [],_ => ⟨[],rfl⟩
 | d :: r,h => by
  obtain ⟨y,rfl⟩ := h d (.head _);obtain ⟨l,rfl⟩ := list_of (ds := r) fun x hx => h x (.tail _ hx);exact ⟨y :: l,rfl⟩
theorem has_u8 {n : Int} (h : (Lit.int .u8 n).wf = true) : ∃ x : UInt8,n = x.toNat := by
 have e1 : IntKind.u8.min = 0 := rfl;have e2 : IntKind.u8.max = 255 := rfl;simp only [Lit.wf,e1,e2,Bool.and_eq_true,decide_eq_true_eq] at h;exact ⟨UInt8.ofNat n.toNat,by simp [UInt8.toNat_ofNat'];omega⟩
inductive Pi0 where
 | done
 | no
 | light (i : Nat) (r : Pi0)
 | alt (i k : Nat) (r q : Pi0)
inductive PlT where
 | done
 | no
 | light (i : Nat) (o : Oper) (r : PlT)
 | alt (i k : Nat) (o : Oper) (r q : PlT)
def fillT (l : List Oper) : Pi0 → PlT
 | .done => .done
 | .no => .no
 | .light i r => .light i l[i]! (fillT l r)
 | .alt i k r q => .alt i k l[i]! (fillT l r) (fillT l q)
def okT (ops : Array Oper) (n : Nat) : List Nat → List Nat → Pi0 → Bool
 | D,A,.done => A.isEmpty && (List.range n).all fun j => D.contains j
 | D,A,.no => !A.isEmpty && (List.range n).all fun j => D.contains j || A.contains j || A.any fun i => reach ops n j i
 | D,A,.light i r => A.isEmpty && decide (i < n) && !D.contains i && ((List.range n).all fun j => !Region.waitsFor .any ops i j || D.contains j) && okT ops n (i :: D) [] r
 | D,A,.alt i k r q => decide (i < n) && !D.contains i && ((List.range n).all fun j => !Region.waitsFor .any ops i j || D.contains j) && (!(k == 1) || D.all fun j => reach ops n i j) && okT ops n (i :: D) [] r && okT ops n D (i :: A) q
section
variable {dfs : List Deferred} {P : Program} {ops : Array Oper} {w0 : World} {n N : Nat}
def FlowT (dfs : List Deferred) (P : Program) (ops : Array Oper) (n : Nat) (w0 : World) (N : Nat) (E : Sl → Hp → List Res → Prop) : PlT → List (Nat × Oper × Value) → Sl → Hp → List Res → Prop
 | .done,_,L,H,bs => E L H bs
 | .no,_,_,_,_ => True
 | .light i o r,pa,L,H,bs => ∃ v,(∀ a W,Fr dfs N L a → St H w0 bs W → Yq P ops o v a W) ∧ (∀ t,o.dst = some t → t < N) ∧ FlowT dfs P ops n w0 N E r ((i,o,v) :: pa) (putL o.dst v L) H bs
 | .alt i k o r q,pa,L,H,bs => ((∀ t,o.dst = some t → t < N) ∧ At dfs N L H w0 bs (one P ops (fun _ _ _ => False) o fun a' W' => ∃ v H' bs',Fr dfs N (putL o.dst v L) a' ∧ St H' w0 bs' W' ∧ (k = 1 ∨ (∀ W,St H' w0 bs' W → St H w0 bs W) ∨ RedoP dfs P ops n w0 N L H' bs' i pa) ∧ FlowT dfs P ops n w0 N E r pa (putL o.dst v L) H' bs')) ∧ FlowT dfs P ops n w0 N E q pa L H bs
structure GT (dfs : List Deferred) (P : Program) (ops : Array Oper) (l : List Oper) (w0 : World) (n N : Nat) (a0 : Act) (E : Sl → Hp → List Res → Prop) (listed : Array Bool) (a : Act) (W : World) (val : Nat → Value) (dec : Nat → Bool) (D : List Nat) (L : Sl) (H : Hp) (bs : List Res) (pa : List (Nat × Oper × Value)) : Prop where
 head : HeadInv .any ops n listed
 frame : a = frm ops val (st listed) n a0
 full : Fr dfs N L (frm ops val dec n a0)
 sub : ∀ i,i < n → st listed i = true → dec i = true
 world : St H w0 bs W
 light : ∀ i o,i < n → ops[i]? = some o → dec i = true → st listed i = false → ∀ W,St H w0 bs W → Yq P ops o (val i) (frm ops val dec n a0) W
 past : ∀ i o,i < n → ops[i]? = some o → dec i = true → st listed i = false → (i,o,val i) ∈ pa
 set : ∀ j,dec j = D.contains j
 deps : ∀ i j,i < n → j < n → dec i = true → Region.waitsFor .any ops i j = true → dec j = true
variable {l : List Oper} {a0 : Act} {E : Sl → Hp → List Res → Prop} {Q : Exit → Act → World → Prop} {listed : Array Bool} {a : Act} {W : World} {val : Nat → Value} {dec : Nat → Bool} {D A : List Nat} {L : Sl} {H : Hp} {bs : List Res} {pa : List (Nat × Oper × Value)}
theorem upd_set {i : Nat} (h : ∀ j,dec j = D.contains j) : ∀ j,upd dec i true j = (i :: D).contains j := fun j => by
 by_cases e : j = i
 ·subst e;rw [upd_same];simp
 ·rw [upd_ne _ _ e,h j,List.contains_cons];have : (j == i) = false := by simpa using e
  rw [this];simp
theorem waits_ok {i : Nat} (h : ((List.range n).all fun j => !Region.waitsFor .any ops i j || D.contains j) = true) {j : Nat} (hj : j < n) (hw : Region.waitsFor .any ops i j = true) : D.contains j = true := by
 have := List.all_eq_true.1 h j (List.mem_range.2 hj);rw [hw] at this;simpa using this
theorem GT.decide (F : Fit ops n []) {i : Nat} {o : Oper} (I : GT dfs P ops l w0 n N a0 E listed a W val dec D L H bs pa) (hi : i < n) (ho : ops[i]? = some o) (hiD : D.contains i = false) (hwt : ((List.range n).all fun j => !Region.waitsFor .any ops i j || D.contains j) = true)
 {v : Value} (hy : ∀ a W,Fr dfs N L a → St H w0 bs W → Yq P ops o v a W) (hN : ∀ t,o.dst = some t → t < N) :
 GT dfs P ops l w0 n N a0 E listed a W (upd val i v) (upd dec i true) (i :: D) (putL o.dst v L) H bs ((i,o,v) :: pa) := by
 have hdi : dec i = false := (I.set i).trans hiD;have hdeps : ∀ j,j < n → Region.waitsFor .any ops i j = true → dec j = true := fun j hj hw => (I.set j).trans (waits_ok hwt hj hw)
 have hii : ∀ j,j < n → Region.waitsFor .any ops i j = true → j ≠ i := fun j hj hw e => by
  have := hdeps j hj hw;rw [e,hdi] at this;cases this
 have hli : st listed i = false := by
  cases h : st listed i with
  | false => rfl
  | true => have := I.sub i hi h;rw [hdi] at this;cases this
 have hput := frm_put (a0 := a0) (val := val) (v := v) F hi ho hdi;refine ⟨I.head,?_,?_,?_,I.world,?_,?_,upd_set I.set,?_⟩
 ·rw [I.frame];refine frm_congr _ _ _ _ a0 n fun k _ => ⟨rfl,fun hk => (upd_ne _ _ fun e => ?_).symm⟩;subst e;rw [hli] at hk;cases hk
 ·rw [hput];exact I.full.putL v hN
 ·intro j hj hs
  by_cases e : j = i
  ·subst e;exact upd_same _ _ _
  ·rw [upd_ne _ _ e];exact I.sub j hj hs
 ·intro j oj hj hoj hd hs W hW
  by_cases e : j = i
  ·subst e;obtain rfl : oj = o := Option.some.inj (hoj.symm.trans ho);rw [upd_same];refine Yq.same (fun cs b => F.sel j oj cs b ho) (fun t ht => ?_) (hy _ W I.full hW);refine eval_same F hj ho (fun k hk hw => ?_) t ht;have hkd := hdeps k hk hw;have hki := hii k hk hw;exact ⟨by rw [upd_ne _ _ hki];exact hkd,hkd,upd_ne _ _ hki⟩
  ·rw [upd_ne _ _ e] at hd ⊢;refine Yq.same (fun cs b => F.sel j oj cs b hoj) (fun t ht => ?_) (I.light j oj hj hoj hd hs W hW);refine eval_same F hj hoj (fun k hk hw => ?_) t ht;have hkd := I.deps j k hj hk hd hw;have hki : k ≠ i := fun e => by subst e;rw [hdi] at hkd;cases hkd
   exact ⟨by rw [upd_ne _ _ hki];exact hkd,hkd,upd_ne _ _ hki⟩
 ·intro j oj hj hoj hd hs
  by_cases e : j = i
  ·subst e;obtain rfl : oj = o := Option.some.inj (hoj.symm.trans ho);rw [upd_same];exact .head _
  ·rw [upd_ne _ _ e] at hd ⊢;exact .tail _ (I.past j oj hj hoj hd hs)
 ·intro j k hj hk hd hw
  by_cases e : j = i
  ·subst e;rw [upd_ne _ _ (hii k hk hw)];exact hdeps k hk hw
  ·rw [upd_ne _ _ e] at hd;have := I.deps j k hj hk hd hw
   by_cases e2 : k = i
   ·subst e2;exact upd_same _ _ _
   ·rw [upd_ne _ _ e2];exact this
theorem GT.step (F : Fit ops n []) {i : Nat} {o : Oper} {W' : World} (I : GT dfs P ops l w0 n N a0 E listed a W val dec D L H bs pa) (hi : i < n) (ho : ops[i]? = some o) (hr : i ∈ Region.ready .any ops listed) (hd : dec i = true) (hx : Ext W W') :
 GT dfs P ops l w0 n N a0 E (listed.setIfInBounds i true) (a.put o.dst (val i)) W' val dec D L H bs pa := by
 have hun : st listed i = false := (mem_ready.1 hr).1;have e1 : dstOf ops i = o.dst := by simp [dstOf,ho]
 refine ⟨I.head.set hr hi,?_,I.full,?_,I.world.more hx,?_,?_,I.set,I.deps⟩
 ·rw [I.frame,frm_more val (st listed) (st (listed.setIfInBounds i true)) a0 i st_set_same hun (fun k hk => st_set hk) n hi F.apart,e1]
 ·intro j hj hs
  by_cases e : j = i
  ·subst e;exact hd
  ·rw [st_set e] at hs;exact I.sub j hj hs
 ·intro j oj hj hoj hdj hs;have e : j ≠ i := fun e => by subst e;rw [st_set_same] at hs;cases hs
  rw [st_set e] at hs;exact I.light j oj hj hoj hdj hs
 ·intro j oj hj hoj hdj hs;have e : j ≠ i := fun e => by subst e;rw [st_set_same] at hs;cases hs
  rw [st_set e] at hs;exact I.past j oj hj hoj hdj hs
theorem GT.heavy (F : Fit ops n []) {i k : Nat} {o : Oper} {v : Value} {W' : World} {H' : Hp} {bs' : List Res} (I : GT dfs P ops l w0 n N a0 E listed a W val dec D L H bs pa) (hi : i < n) (ho : ops[i]? = some o) (hiD : D.contains i = false) (hwt : ((List.range n).all fun j => !Region.waitsFor .any ops i j || D.contains j) = true) (hk1 : (!(k == 1) || D.all fun j => reach ops n i j) = true) (hN : ∀ t,o.dst = some t → t < N) (hr : i ∈ Region.ready .any ops listed)
 (hs : St H' w0 bs' W') (hws : k = 1 ∨ (∀ W,St H' w0 bs' W → St H w0 bs W) ∨ RedoP dfs P ops n w0 N L H' bs' i pa) :
 GT dfs P ops l w0 n N a0 E (listed.setIfInBounds i true) (a.put o.dst v) W' (upd val i v) (upd dec i true) (i :: D) (putL o.dst v L) H' bs' pa := by
 have hdi : dec i = false := (I.set i).trans hiD;have hdeps : ∀ j,j < n → Region.waitsFor .any ops i j = true → dec j = true := fun j hj hw => (I.set j).trans (waits_ok hwt hj hw)
 have hii : ∀ j,j < n → Region.waitsFor .any ops i j = true → j ≠ i := fun j hj hw e => by
  have := hdeps j hj hw;rw [e,hdi] at this;cases this
 have hun : st listed i = false := (mem_ready.1 hr).1;have e1 : dstOf ops i = o.dst := by simp [dstOf,ho]
 have hput := frm_put (a0 := a0) (val := val) (v := v) F hi ho hdi;refine ⟨I.head.set hr hi,?_,?_,?_,hs,?_,?_,upd_set I.set,?_⟩
 ·rw [I.frame,frm_more (upd val i v) (st listed) (st (listed.setIfInBounds i true)) a0 i st_set_same hun (fun k hk => st_set hk) n hi F.apart,e1,upd_same]
  congr 1
  refine frm_congr _ _ _ _ a0 n fun k _ => ⟨rfl,fun hk => (upd_ne _ _ fun e => ?_).symm⟩;subst e;rw [hun] at hk;cases hk
 ·rw [hput];exact I.full.putL v hN
 ·intro j hj hs
  by_cases e : j = i
  ·subst e;exact upd_same _ _ _
  ·rw [upd_ne _ _ e];rw [st_set e] at hs;exact I.sub j hj hs
 ·intro j oj hj hoj hd hs W hW;have e : j ≠ i := fun e => by subst e;rw [st_set_same] at hs;cases hs
  rw [st_set e] at hs;rw [upd_ne _ _ e] at hd ⊢
  have hdone : reach ops n i j = true → False := fun h1 => by
   obtain ⟨_,oi,hoi,hall⟩ := mem_ready.1 hr
   have h2 := reach_listed I.head n i j h1 (fun ok hok x hx hb => by
    obtain rfl : ok = oi := Option.some.inj (hok.symm.trans hoi);exact hall x hx hb)
   rw [getD_both hs] at h2;cases h2
  have hy : Yq P ops oj (val j) (frm ops val dec n a0) W := by
   rcases hws with hk | hw | hw
   ·subst hk;have hjD : j ∈ D := by have := (I.set j).symm.trans hd;simpa using this
    simp only [beq_self_eq_true,Bool.not_true,Bool.false_or] at hk1;exact (hdone (List.all_eq_true.1 hk1 j hjD)).elim
   ·exact I.light j oj hj hoj hd hs W (hw W hW)
   ·rcases hw.at (I.past j oj hj hoj hd hs) with h1 | h1
    ·exact (hdone h1).elim
    ·exact h1 _ W I.full hW
  refine Yq.same (fun cs b => F.sel j oj cs b hoj) (fun t ht => ?_) hy;refine eval_same F hj hoj (fun k hk hw => ?_) t ht;have hkd := I.deps j k hj hk hd hw;have hki : k ≠ i := fun e => by subst e;rw [hdi] at hkd;cases hkd
  exact ⟨by rw [upd_ne _ _ hki];exact hkd,hkd,upd_ne _ _ hki⟩
 ·intro j oj hj hoj hd hs;have e : j ≠ i := fun e => by subst e;rw [st_set_same] at hs;cases hs
  rw [st_set e] at hs;rw [upd_ne _ _ e] at hd ⊢;exact I.past j oj hj hoj hd hs
 ·intro j k hj hk hd hw
  by_cases e : j = i
  ·subst e;rw [upd_ne _ _ (hii k hk hw)];exact hdeps k hk hw
  ·rw [upd_ne _ _ e] at hd;have := I.deps j k hj hk hd hw
   by_cases e2 : k = i
   ·subst e2;exact upd_same _ _ _
   ·rw [upd_ne _ _ e2];exact this
theorem chain_find (hl : ops = l.toArray) {j : Nat} (hj : j < n) (hjD : D.contains j = false) (hnr : ∀ i,D.contains i = false → i < n → reach ops n j i = false) :
 ∀ (q : Pi0) (A : List Nat),(q = .no ∨ ∃ i k r q',q = .alt i k r q') → okT ops n D A q = true → (∀ i ∈ A,D.contains i = false ∧ i < n ∧ i ≠ j) → FlowT dfs P ops n w0 N E (fillT l q) pa L H bs →
  ∃ k r,((List.range n).all fun x => !Region.waitsFor .any ops j x || D.contains x) = true ∧ (!(k == 1) || D.all fun x => reach ops n j x) = true ∧ okT ops n (j :: D) [] r = true ∧ (∀ t,(l[j]!).dst = some t → t < N) ∧
   At dfs N L H w0 bs (one P ops (fun _ _ _ => False) l[j]! fun a' W' => ∃ v H' bs',Fr dfs N (putL (l[j]!).dst v L) a' ∧ St H' w0 bs' W' ∧ (k = 1 ∨ (∀ W,St H' w0 bs' W → St H w0 bs W) ∨ RedoP dfs P ops n w0 N L H' bs' j pa) ∧ FlowT dfs P ops n w0 N E (fillT l r) pa (putL (l[j]!).dst v L) H' bs') := by
 intro q;induction q with
 | done => rintro A (h | ⟨_,_,_,_,h⟩) <;> cases h
 | light i r => rintro A (h | ⟨_,_,_,_,h⟩) <;> cases h
 | no =>
  intro A _ hok hA _
  exfalso
  simp only [okT,Bool.and_eq_true] at hok;have := List.all_eq_true.1 hok.2 j (List.mem_range.2 hj);simp only [Bool.or_eq_true] at this;rcases this with (h | h) | h
  ·rw [hjD] at h;cases h
  ·exact (hA j (by simpa using h)).2.2 rfl
  ·obtain ⟨i,hi,hre⟩ := List.any_eq_true.1 h;rw [hnr i (hA i hi).1 (hA i hi).2.1] at hre;cases hre
 | alt i k r q' ihr ihq =>
  intro A _ hok hA hF;simp only [okT,Bool.and_eq_true,decide_eq_true_eq,Bool.not_eq_true'] at hok;obtain ⟨⟨⟨⟨⟨h1,h2⟩,h3⟩,h4⟩,h5⟩,h6⟩ := hok;unfold fillT FlowT at hF
  by_cases e : i = j
  ·subst e;exact ⟨k,r,h3,h4,h5,hF.1.1,hF.1.2⟩
  ·have hq : q' = .no ∨ ∃ i k r q'',q' = .alt i k r q'' := by
    cases q' with
    | done => simp [okT] at h6
    | light i r => simp [okT] at h6
    | no => exact .inl rfl
    | alt i k r q => exact .inr ⟨_,_,_,_,rfl⟩
   refine ihq (i :: A) hq h6 (fun x hx => ?_) hF.2;rcases List.mem_cons.1 hx with rfl | hx
   ·exact ⟨h2,h1,e⟩
   ·exact hA x hx
theorem flowT_game (hl : ops = l.toArray) (F : Fit ops n []) (hend : ∀ L H bs,E L H bs → At dfs N L H w0 bs (wpList P ops Q (ops.toList.drop n))) :
 ∀ (m : Nat) (p : Pi0) (listed : Array Bool) (a : Act) (W : World) (val : Nat → Value) (dec : Nat → Bool) (D : List Nat) (L : Sl) (H : Hp) (bs : List Res) (pa : List (Nat × Oper × Value)),cnt (st listed) n = m → okT ops n D [] p = true →
  FlowT dfs P ops n w0 N E (fillT l p) pa L H bs → GT dfs P ops l w0 n N a0 E listed a W val dec D L H bs pa → wpAny P .any ops Q (m + (ops.size - n)) listed a W := by
 have hop : ∀ i,i < n → ops[i]? = some l[i]! := fun i hi => by
  have h1 : i < ops.size := by have := F.lt;omega
  subst hl;have h2 : i < l.length := by simpa using h1
  simp [h2]
 intro m;induction m with
 | zero =>
  intro p;induction p with
  | done =>
   intro listed a W val dec D L H bs pa hm hok hF I;have hall := cnt_zero _ n hm
   have hcan : listed = ((List.range ops.size).map fun k => Decidable.decide (k < n)).toArray := by
    apply Array.ext
    ·simp [I.head.size]
    ·intro k h1 h2;have hk : k < ops.size := by rw [← I.head.size];exact h1
     simp only [List.getElem_toArray,List.getElem_map,List.getElem_range]
     by_cases hkn : k < n
     ·have := hall k hkn;simp [st,h1] at this;simp [this,hkn]
     ·have := I.head.tail k (by omega) hk;simp [h1] at this;simp [this,hkn]
   rw [Nat.zero_add];have hlen : (ops.toList.drop n).length = ops.size - n := by simp
   rw [← hlen];refine wpAny_of_seq (ops.toList.drop n) n listed a W (fun j => by simp [List.getElem?_drop]) (by rw [hlen,hcan];exact F.seq) ?_
   have hfr : a = frm ops val dec n a0 := by
    rw [I.frame];exact frm_congr _ _ _ _ a0 n (fun k hk => ⟨by rw [hall k hk,I.sub k hk (hall k hk)],fun _ => rfl⟩)
   rw [hfr];exact hend L H bs hF _ W I.full I.world
  | no =>
   intro listed a W val dec D L H bs pa hm hok hF I;simp [okT] at hok
  | light i r ih =>
   intro listed a W val dec D L H bs pa hm hok hF I;have hall := cnt_zero _ n hm;simp only [okT,Bool.and_eq_true,decide_eq_true_eq,Bool.not_eq_true'] at hok;have := I.sub i hok.1.1.1.2 (hall i hok.1.1.1.2);rw [I.set i,hok.1.1.2] at this;cases this
  | alt i k r q ih1 ih2 =>
   intro listed a W val dec D L H bs pa hm hok hF I;have hall := cnt_zero _ n hm;simp only [okT,Bool.and_eq_true,decide_eq_true_eq,Bool.not_eq_true'] at hok;have := I.sub i hok.1.1.1.1.1 (hall i hok.1.1.1.1.1);rw [I.set i,hok.1.1.1.1.2] at this;cases this
 | succ m ih =>
  have one_step : ∀ (p : Pi0) (listed : Array Bool) (a : Act) (W : World) (val : Nat → Value) (dec : Nat → Bool) (D : List Nat) (L : Sl) (H : Hp) (bs : List Res) (pa : List (Nat × Oper × Value)),cnt (st listed) n = m + 1 → okT ops n D [] p = true →
   FlowT dfs P ops n w0 N E (fillT l p) pa L H bs → GT dfs P ops l w0 n N a0 E listed a W val dec D L H bs pa → (p = .done ∨ p = .no ∨ ∃ i k r q,p = .alt i k r q) → wpAny P .any ops Q (m + 1 + (ops.size - n)) listed a W := by
   intro p listed a W val dec D L H bs pa hm hok hF I hp;obtain ⟨k0,hk0,hun0,hbelow⟩ := cnt_pos (st listed) n (by omega);have hk0s : k0 < ops.size := by have := F.lt;omega
   have hready0 : k0 ∈ Region.ready .any ops listed := by
    refine mem_ready.2 ⟨hun0,ops[k0],Array.getElem?_eq_getElem hk0s,fun e he hb => ?_⟩;have hlt := F.back k0 _ (Array.getElem?_eq_getElem hk0s) e he hb;have := hbelow e.on hlt;have hsz : e.on < listed.size := by rw [I.head.size];omega
    simpa [st,hsz] using this
   rw [show m + 1 + (ops.size - n) = (m + (ops.size - n)) + 1 by omega];refine ⟨fun h0 => (by rw [h0] at hready0;cases hready0),fun j hj => ?_⟩
   have hjn : j < n := by
    rcases Nat.lt_or_ge j n with h | h
    ·exact h
    ·exact absurd hj (tail_waitsF F.sink F.chain I.head _ k0 rfl hk0 rfl hun0 j h)
   obtain ⟨hun,oj,hoj,hall⟩ := mem_ready.1 hj
   have hcnt : cnt (st (listed.setIfInBounds j true)) n = m := by
    have := cnt_more (st listed) (st (listed.setIfInBounds j true)) j st_set_same hun (fun k hk => st_set hk) n hjn;omega
   have hS : ∀ k,k < n → Region.waitsFor .any ops j k = true → st listed k = true := by
    intro k hk hw;obtain ⟨oi,hoi,e,he,hb,hon⟩ := Region.waitsFor_spec hw;obtain rfl : oi = oj := Option.some.inj (hoi.symm.trans hoj);have h1 := hall e he hb;rw [hon] at h1;have hsz : k < listed.size := by rw [I.head.size];have := F.lt;omega
    simp [hsz] at h1;simp [st,hsz,h1]
   have hev : ∀ t ∈ oj.looksAt ops,a.eval (.tmp t) = (frm ops val dec n a0).eval (.tmp t) := fun t ht => by
    rw [I.frame];exact eval_same F hjn hoj (fun k hk hw => ⟨hS k hk hw,I.sub k hk (hS k hk hw),rfl⟩) t ht
   cases hd : dec j with
   | true =>
    have hy : Yq P ops oj (val j) a W := Yq.same (fun cs b => F.sel j oj cs b hoj) hev (I.light j oj hjn hoj hd hun W I.world);exact hy.wpOp hoj fun W' hx => ih p _ _ _ _ _ _ _ _ _ _ hcnt hok hF (I.step F hjn hoj hj hd hx)
   | false =>
    have hjD : D.contains j = false := (I.set j).symm.trans hd
    have hch : p = .no ∨ ∃ i k r q',p = .alt i k r q' := by
     rcases hp with rfl | rfl | h
     ·exfalso
      simp only [okT,Bool.and_eq_true] at hok;have := List.all_eq_true.1 hok.2 j (List.mem_range.2 hjn);rw [hjD] at this;cases this
     ·exact .inl Z
     ·exact .inr h
    obtain ⟨k,r,h1,h2,h3,h4,h5⟩ := chain_find hl hjn hjD (fun i hi hin => by
     cases hre : reach ops n j i with
     | false => rfl
     | true =>
      have h2 := reach_listed I.head n j i hre (fun ok hok e he hb => by
       obtain rfl : ok = oj := Option.some.inj (hok.symm.trans hoj);exact hall e he hb)
      have h3 : st listed i = false := by
       cases h : st listed i with
       | false => rfl
       | true => have := I.sub i hin h;rw [I.set i,hi] at this;cases this
      rw [getD_both h3] at h2;cases h2) p [] hch hok (fun i hi => by cases hi) hF
    have hoj2 := hop j hjn;obtain rfl : oj = l[j]! := Option.some.inj (hoj.symm.trans hoj2);refine one_same hoj (fun cs b => F.sel j _ cs b hoj) hev (fun b W' ⟨v,H',bs',hf,_⟩ => hf.defers) I.full.defers ?_ (h5 _ W I.full I.world);rintro v W' ⟨v',H',bs',hf,hs,hw,hp'⟩
    have hvv : putL (l[j]!).dst v' L = putL (l[j]!).dst v L := by
     cases hdst : (l[j]!).dst with
     | none => rfl
     | some t =>
      rw [hdst] at hf;have h1 := hf.slot t v' (by unfold putL look;rw [Nat.beq_refl,cond_true]);have h2 : t < N := h4 t hdst;have h3 := (I.full.put (by simpa [Nat.blt_eq] using h2) v).slot t v (by unfold look;rw [Nat.beq_refl,cond_true]);rw [h3] at h1;rw [h1]
    rw [hvv] at hp';exact ih r _ _ _ _ _ _ _ _ _ _ hcnt h3 hp' (I.heavy F hjn hoj hjD h1 h2 h4 hj hs hw)
  intro p;induction p with
  | done => exact fun listed a W val dec D L H bs pa hm hok hF I => one_step _ listed a W val dec D L H bs pa hm hok hF I (.inl rfl)
  | no => exact fun listed a W val dec D L H bs pa hm hok hF I => one_step _ listed a W val dec D L H bs pa hm hok hF I (.inr (.inl rfl))
  | alt i k r q _ _ => exact fun listed a W val dec D L H bs pa hm hok hF I => one_step _ listed a W val dec D L H bs pa hm hok hF I (.inr (.inr ⟨_,_,_,_,rfl⟩))
  | light i r ihr =>
   intro listed a W val dec D L H bs pa hm hok hF I;simp only [okT,Bool.and_eq_true,decide_eq_true_eq,Bool.not_eq_true'] at hok;obtain ⟨⟨⟨⟨_,hi⟩,hiD⟩,hwt⟩,hok'⟩ := hok;unfold fillT FlowT at hF;obtain ⟨v,hy,hN,hF'⟩ := hF;exact ihr listed a W _ _ _ _ H bs _ hm hok' hF' (I.decide F hi (hop i hi) hiD hwt hy hN)
theorem flowT {id : Nat} {l : List Oper} {p : PlT} {Q : Exit → Act → World → Prop} {L : Sl} {H : Hp} {bs : List Res} (n : Nat) (p0 : Pi0) (hm : P.follows .mixedOrders = true) (hB : (parB l.toArray n [] && okT l.toArray n [] [] p0) = true) (ht : fillT l p0 = p)
 (h : FlowT dfs P l.toArray n w0 N (fun L H bs => At dfs N L H w0 bs (wpList P l.toArray Q (l.drop n))) p [] L H bs) : At dfs N L H w0 bs ((Code.region id l.toArray true).wp P Q) := by
 simp only [Bool.and_eq_true] at hB;obtain ⟨h1,h2⟩ := hB;have F := Fit.of h1;have hlt : n < l.length := by simpa using F.lt
 subst ht;intro a W f s;refine wp_region_any hm ?_;have hsz : l.toArray.size = l.length := by simp
 have hc0 : ∀ m,m ≤ n → cnt (st (Array.replicate l.toArray.size false)) m = m := by
  intro m;induction m with
  | zero => intro _;rfl
  | succ m ih =>
   intro hm;unfold cnt;rw [ih (by omega)]
   have : st (Array.replicate l.toArray.size false) m = false := by
    have : m < l.length := by omega
    simp [st,this]
   rw [this];simp
 have hfrm : ∀ (val : Nat → Value) (m : Nat),frm l.toArray val (fun _ => false) m a = a := fun val m => by
  induction m with
  | zero => rfl
  | succ m ih => unfold frm;simp [ih]
 have hall : ∀ m,m ≤ n → ∀ k,k < m → st (Array.replicate l.toArray.size false) k = false := fun m hm k hk => by
  have : k < l.length := by omega
  simp [st,this]
 have hh : HeadInv .any l.toArray n (Array.replicate l.toArray.size false) := by
  refine ⟨by simp,fun j oj hj hl => ?_,fun t ht ht' => ?_⟩
  ·exfalso
   rcases Nat.lt_or_ge j l.length with h | h
   ·simp [h] at hl
   ·simp [h] at hl
  ·have : t < l.length := by simpa using ht'
   simp [this]
 have key := flowT_game (Q := Q) (a0 := a) (l := l) rfl F (fun L H bs h => by simpa using h) n p0 (Array.replicate l.toArray.size false) a _ (fun _ => undef) (fun _ => false) [] L H bs [] (hc0 n (Nat.le_refl _)) h2 h
  ⟨hh,?_,by rw [hfrm];exact f,?_,s.more ((Ext.refl W).drew),fun _ _ _ _ h => (by cases h),fun _ _ _ _ h => (by cases h),fun _ => rfl,fun _ _ _ _ h => (by cases h)⟩
 ·have : n + (l.toArray.size - n) = l.toArray.size := by rw [hsz];omega
  rw [this] at key;exact key
 ·rw [frm_congr (fun _ => undef) (fun _ => undef) _ (fun _ => false) a n (fun k hk => ⟨hall n (Nat.le_refl _) k hk,fun _ => rfl⟩),hfrm]
 ·intro i hi hs;rw [hall n (Nat.le_refl _) i hi] at hs;cases hs
end
section
variable {dfs : List Deferred} {P : Program} {n : Nat} {L : Sl} {H : Hp} {w0 : World} {bs : List Res} {Q : Exit → Act → World → Prop} {ops : Array Oper} {rest : List Oper} {K : Act → World → Prop}
variable {d : Option Tmp} {ty : TypeId} {pos : String} {aft : Array Edge} {g : Option (Nat × Bool)} {v : Value} {t : Tmp} {op : Op} {x y z : Operand} {T T' : TypeId}
variable {N hn : Nat} {pa : List (Nat × Oper × Value)} {E : Sl → Hp → List Res → Prop} {r q : PlT} {i k : Nat}
def AltT (dfs : List Deferred) (P : Program) (ops : Array Oper) (n : Nat) (w0 : World) (N : Nat) (E : Sl → Hp → List Res → Prop) (i k : Nat) (o : Oper) (r : PlT) (pa : List (Nat × Oper × Value)) (L : Sl) (H : Hp) (bs : List Res) : Prop :=
 (∀ t,o.dst = some t → t < N) ∧ At dfs N L H w0 bs (one P ops (fun _ _ _ => False) o fun a' W' => ∃ v H' bs',Fr dfs N (putL o.dst v L) a' ∧ St H' w0 bs' W' ∧ (k = 1 ∨ (∀ W,St H' w0 bs' W → St H w0 bs W) ∨ RedoP dfs P ops n w0 N L H' bs' i pa) ∧ FlowT dfs P ops n w0 N E r pa (putL o.dst v L) H' bs')
theorem FlowT.h1 {o : Oper} (h : AltT dfs P ops hn w0 N E i k o r pa L H bs) : FlowT dfs P ops hn w0 N E (.alt i k o r .no) pa L H bs := ⟨h,trivial⟩
theorem FlowT.h {o : Oper} (h : AltT dfs P ops hn w0 N E i k o r pa L H bs) (hq : FlowT dfs P ops hn w0 N E q pa L H bs) : FlowT dfs P ops hn w0 N E (.alt i k o r q) pa L H bs := ⟨h,hq⟩
theorem FlowT.nn : FlowT dfs P ops hn w0 N E .no pa L H bs := trivial
theorem FlowT.yv (hy : Yl P L H w0 bs ⟨some t,op,ty,pos,aft,none⟩ v) (ht : Nat.blt t N = true) (h : FlowT dfs P ops hn w0 N E r ((i,⟨some t,op,ty,pos,aft,none⟩,v) :: pa) ((t,v) :: L) H bs) : FlowT dfs P ops hn w0 N E (.light i ⟨some t,op,ty,pos,aft,none⟩ r) pa L H bs :=
 ⟨v,fun a W f s => .inl ⟨by simp [Region.wanted],hy a W (fun x u e => f.ev e) s⟩,blt_of ht,h⟩
theorem FlowT.m (hx : ev L x = some v) (ht : Nat.blt t N = true) (h : FlowT dfs P ops hn w0 N E r ((i,⟨some t,.move x,ty,pos,aft,none⟩,v) :: pa) ((t,v) :: L) H bs) : FlowT dfs P ops hn w0 N E (.light i ⟨some t,.move x,ty,pos,aft,none⟩ r) pa L H bs := .yv (.move hx) ht h
theorem AltT.into {H' : Hp} {bs' : List Res} (hw : k = 1 ∨ (∀ W,St H' w0 bs' W → St H w0 bs W) ∨ RedoP dfs P ops hn w0 N L H' bs' i pa) (h : FlowT dfs P ops hn w0 N E r pa ((t,v) :: L) H' bs') :
 At dfs N ((t,v) :: L) H' w0 bs' (fun a' W' => ∃ v H' bs',Fr dfs N (putL (some t) v L) a' ∧ St H' w0 bs' W' ∧ (k = 1 ∨ (∀ W,St H' w0 bs' W → St H w0 bs W) ∨ RedoP dfs P ops hn w0 N L H' bs' i pa) ∧ FlowT dfs P ops hn w0 N E r pa (putL (some t) v L) H' bs') := fun _ _ f s => ⟨v,H',bs',f,s,hw,h⟩
theorem AltT.al {l : List Value} (hz : zeroN P T = some l) (ht : Nat.blt t N = true) (h : ∀ b,FlowT dfs P ops hn w0 N E r pa ((t,.pointer (some ⟨b,0,none⟩)) :: L) H (.box b l T :: bs)) : AltT dfs P ops hn w0 N E i k ⟨some t,.alloc T,ty,pos,aft,none⟩ r pa L H bs :=
 ⟨blt_of ht,alloc hz ht fun b => AltT.into (.inr<|.inl fun _ s => s.drop) (h b)⟩
theorem AltT.bl {ps : List (Nat × Operand)} {pv : List (Nat × Value)} {len : Nat} {e : TypeId} {l : List Value} (hv : evp L ps = some pv) (hb : bslN P T len pv = some (e,l)) (ht : Nat.blt t N = true)
 (h : ∀ b,FlowT dfs P ops hn w0 N E r pa ((t,.slice (some ⟨b,0,none⟩) len len) :: L) H (.box b l e :: bs)) : AltT dfs P ops hn w0 N E i k ⟨some t,.buildSlice T len ps.toArray,ty,pos,aft,none⟩ r pa L H bs :=
 ⟨blt_of ht,buildSlice hv hb ht fun b => AltT.into (.inr<|.inl fun _ s => s.drop) (h b)⟩
theorem AltT.ct {X : Type} {f : FuncId} {xs : List Operand} {vs : List Value} {ats : Array TypeId} {C : X → Hp → Prop} {val : X → Value} (hf : callN P f = true) (hv : evs L xs = some vs)
 (hc : ∀ W,St H w0 bs W → Calls P f vs.toArray W fun e W' => ∃ x H',C x H' ∧ e = .returned (val x) ∧ Grow H W H' W') (ht : Nat.blt t N = true)
 (h : ∀ x H',C x H' → HUp w0 H H' → FlowT dfs P ops hn w0 N E r pa ((t,val x) :: L) H' bs) : AltT dfs P ops hn w0 N E i k ⟨some t,.call ⟨.value (.func f),xs.toArray,ats⟩,ty,pos,aft,none⟩ r pa L H bs :=
 ⟨blt_of ht,callT hf hv hc ht fun x H' hx u => AltT.into (.inr<|.inl fun _ s => s.weakH u.up) (h x H' hx u)⟩
theorem AltT.c3 {X : Type} {f : FuncId} {xs : List Operand} {vs : List Value} {ats : Array TypeId} {C : X → Prop} {val : X → Value} {H' : X → Hp} {bs' : X → List Res} (hf : callN P f = true) (hv : evs L xs = some vs)
 (hc : ∀ W,St H w0 bs W → Calls P f vs.toArray W fun e W' => ∃ x,C x ∧ e = .returned (val x) ∧ St (H' x) w0 (bs' x) W') (ht : Nat.blt t N = true)
 (hr : ∀ x,C x → RedoP dfs P ops hn w0 N L (H' x) (bs' x) i pa) (h : ∀ x,C x → FlowT dfs P ops hn w0 N E r pa ((t,val x) :: L) (H' x) (bs' x)) : AltT dfs P ops hn w0 N E i 2 ⟨some t,.call ⟨.value (.func f),xs.toArray,ats⟩,ty,pos,aft,none⟩ r pa L H bs :=
 ⟨blt_of ht,callS hf hv hc ht fun x hx => AltT.into (.inr<|.inr<|hr x hx) (h x hx)⟩
theorem FlowT.fn {l tl : List Oper} {nn : Nat} (ht : l.drop nn = tl) (h : At dfs N L H w0 bs (wpList P ops Q tl)) : FlowT dfs P ops hn w0 N (fun L H bs => At dfs N L H w0 bs (wpList P ops Q (l.drop nn))) .done pa L H bs := by
 subst ht;exact h
theorem At.ft {id : Nat} {l : List Oper} {p : PlT} (nn : Nat) (p0 : Pi0) (hm : P.follows .mixedOrders = true) (hB : (parB l.toArray nn [] && okT l.toArray nn [] [] p0) = true) (ht : fillT l p0 = p)
 (h : FlowT dfs P l.toArray nn w0 n (fun L H bs => At dfs n L H w0 bs (wpList P l.toArray Q (l.drop nn))) p [] L H bs) : At dfs n L H w0 bs ((Code.region id l.toArray true).wp P Q) := flowT nn p0 hm hB ht h
end
def SliceAt (H : Hp) (v : Value) (n : Nat) (xs : List Value) : Prop := (v = .slice none 0 0 ∧ n = 0) ∨ ∃ b c,v = .slice (some ⟨b,0,none⟩) n c ∧ n ≤ c ∧ c ≤ maxLen ∧ MemN H b 0 xs
theorem SliceAt.rep {H : Hp} {v : Value} {n z : Nat} {xs : List Value} {ds : List D} (h : SliceAt H v n xs) (hz : RepZ H z ds xs) (hn : ds.length = n) : Rep H (.seq z ds) [v] := by
 rcases h with ⟨rfl,rfl⟩ | ⟨b,c,rfl,h1,h2,h3⟩
 ·obtain rfl := List.eq_nil_of_length_eq_zero hn;exact .empty (by simp [maxLen])
 ·exact .mk h3 hz hn h1 h2
theorem SliceAt.sl {H : Hp} {v : Value} {n : Nat} {xs : List Value} (h : SliceAt H v n xs) : ∃ p c,v = .slice p n c := by
 rcases h with ⟨rfl,rfl⟩ | ⟨b,c,rfl,_⟩
 ·exact ⟨_,_,rfl⟩
 ·exact ⟨_,_,rfl⟩
theorem Upd.new {bs bs' : List Res} {x y : Res} (h : Upd bs x y bs') : y ∈ bs' := by
 induction h with
 | head => exact .head _
 | tail _ ih => exact .tail _ ih
theorem SliceAt.up {H H' : Hp} {v : Value} {n : Nat} {xs : List Value} (h : SliceAt H v n xs) (u : Up H H') : SliceAt H' v n xs := by
 rcases h with h | ⟨b,c,e,h1,h2,h3⟩
 ·exact .inl h
 ·exact .inr ⟨b,c,e,h1,h2,h3.up u⟩
section
variable {dfs : List Deferred} {P : Program} {n : Nat} {L : Sl} {H : Hp} {w0 : World} {bs : List Res} {Q : Exit → Act → World → Prop} {ops : Array Oper} {rest : List Oper} {K : Act → World → Prop}
variable {d : Option Tmp} {ty : TypeId} {pos : String} {aft : Array Edge} {v : Value} {t : Tmp} {x y : Operand} {T : TypeId}
theorem St.boxRowZ {b m z : Nat} {l : List Value} {e : TypeId} {W : World} (h : St H w0 (.box b l e :: bs) W) (hz : l.length = m * z) (hl : m ≤ maxLen) : St H w0 (.row e z (.slice (some ⟨b,0,none⟩) m m) m l :: bs) W := by
 have hb := h.own _ (.head _);refine ⟨h.ext,h.agr,fun x hx => ?_,?_,h.lo⟩
 ·rcases List.mem_cons.1 hx with rfl | hx
  ·exact ⟨⟨hz,.inr ⟨b,m,l.toArray,rfl,hb.1.1,hb.1.2,Nat.le_refl _,hl,by simpa using hz,by rw [← hz];simp⟩⟩,fun c e => hb.2 c e⟩
  ·exact h.own x (.tail _ hx)
 ·have h1 := h.apart;rw [List.pairwise_cons] at h1 ⊢;exact ⟨fun z hz c e => h1.1 z hz c e,h1.2⟩
theorem appendR {e : TypeId} {size bytes m k : Nat} {r v : Value} {xs news : List Value} {bs' : Value → List Res} (hT : rowN P T = some (e,size,bytes)) (hx : ev L x = some r) (hm : ∀ r',Upd bs (.row e size r k xs) (.row e size r' (k + m) (xs ++ news)) (bs' r'))
 (hy : ev L y = some v) (hs : SliceAt H v m news) (hl : news.length = m * size) (h1 : ∀ u ∈ news,u.oneCell' = true) (h63 : k + m ≤ maxLen) (hb : (k + m) * bytes ≤ 140737488355328) (ht : Nat.blt t n = true)
 (h : ∀ r',At dfs n ((t,r') :: L) H w0 (bs' r') K) : At dfs n L H w0 bs (one P ops Q ⟨some t,.call ⟨.builtin .append,#[x,y],#[T,T]⟩,ty,pos,aft,none⟩ K) := by
 rcases hs with ⟨rfl,rfl⟩ | ⟨b,c,rfl,_,_,hmem⟩
 ·have hn : news = [] := List.eq_nil_of_length_eq_zero (by rw [hl,Nat.zero_mul]);subst hn;have e2 : bs' r = bs := (hm r).same (by rw [Nat.add_zero,List.append_nil]);have h2 := h r;rw [e2] at h2;exact appendNone hT hx (hm r).mem hy ht h2
 ·exact appendA hT hx hm hy (fun W s j u e => by rw [Addr.add_lit];exact hmem.mem.cell s.agr e) hl h1 h63 hb ht fun r' _ => h r'
variable {N hn i : Nat} {pa : List (Nat × Oper × Value)} {E : Sl → Hp → List Res → Prop} {q : PlT}
theorem AltT.apR {e : TypeId} {size bytes m k : Nat} {r v : Value} {xs news : List Value} {bs' : Value → List Res} (hT : rowN P T = some (e,size,bytes)) (hx : ev L x = some r) (hm : ∀ r',Upd bs (.row e size r k xs) (.row e size r' (k + m) (xs ++ news)) (bs' r'))
 (hy : ev L y = some v) (hs : SliceAt H v m news) (hl : news.length = m * size) (h1 : ∀ u ∈ news,u.oneCell' = true) (h63 : k + m ≤ maxLen) (hb : (k + m) * bytes ≤ 140737488355328) (ht : Nat.blt t N = true)
 (hr : ∀ r',RedoP dfs P ops hn w0 N L H (bs' r') i pa) (h : ∀ p c,FlowT dfs P ops hn w0 N E q pa ((t,.slice p (k + m) c) :: L) H (bs' (.slice p (k + m) c))) : AltT dfs P ops hn w0 N E i 2 ⟨some t,.call ⟨.builtin .append,#[x,y],#[T,T]⟩,ty,pos,aft,none⟩ q pa L H bs :=
 ⟨blt_of ht,appendR hT hx hm hy hs hl h1 h63 hb ht fun r' => At.ra (hm r').new fun p c e => by subst e;exact AltT.into (.inr<|.inr<|hr _) (h p c)⟩
theorem AltT.blR {ps : List (Nat × Operand)} {pv : List (Nat × Value)} {len z k : Nat} {e : TypeId} {l : List Value} (hv : evp L ps = some pv) (hb : bslN P T len pv = some (e,l)) (ht : Nat.blt t N = true) (hz : l.length = len * z) (hl : len ≤ maxLen)
 (h : ∀ b,FlowT dfs P ops hn w0 N E q pa ((t,.slice (some ⟨b,0,none⟩) len len) :: L) H (.row e z (.slice (some ⟨b,0,none⟩) len len) len l :: bs)) : AltT dfs P ops hn w0 N E i k ⟨some t,.buildSlice T len ps.toArray,ty,pos,aft,none⟩ q pa L H bs :=
 ⟨blt_of ht,buildSlice hv hb ht fun b => reSt (fun _ s => s.boxRowZ hz hl) (AltT.into (.inr<|.inl fun _ s => s.drop) (h b))⟩
theorem freezeAt {e : TypeId} {size k : Nat} {r : Value} {xs : List Value} {G : Act → World → Prop} (h : ∀ H',HUp w0 H H' → SliceAt H' r k xs → At dfs n L H' w0 bs G) : At dfs n L H w0 (.row e size r k xs :: bs) G :=
 freezeRow fun H' u hr => h H' u (by
  rcases hr with h | ⟨b,c,e,h1,h2,h3⟩
  ·exact .inl h
  ·exact .inr ⟨b,c,e,h1,h2,h3⟩)
end
section
variable {dfs : List Deferred} {P : Program} {n : Nat} {L : Sl} {H : Hp} {w0 : World} {bs : List Res} {Q : Exit → Act → World → Prop} {ops : Array Oper} {rest : List Oper} {K : Act → World → Prop}
variable {d : Option Tmp} {ty : TypeId} {pos : String} {aft : Array Edge} {v : Value} {t : Tmp} {x y : Operand} {T : TypeId}
theorem appendD {e : TypeId} {size bytes m c k : Nat} {p : Option Addr} {r : Value} {xs : List Value} {ds : List D} {bs' : List Value → Value → List Res} (hT : rowN P T = some (e,size,bytes)) (hx : ev L x = some r)
 (hm : ∀ news r',Upd bs (.row e size r k xs) (.row e size r' (k + m) (xs ++ news)) (bs' news r')) (hy : ev L y = some (.slice p m c)) (hr : Rep H (.seq size ds) [.slice p m c])
 (h63 : k + m ≤ maxLen) (hb : (k + m) * bytes ≤ 140737488355328) (ht : Nat.blt t n = true)
 (h : ∀ news r',RepZ H size ds news → At dfs n ((t,r') :: L) H w0 (bs' news r') K) : At dfs n L H w0 bs (one P ops Q ⟨some t,.call ⟨.builtin .append,#[x,y],#[T,T]⟩,ty,pos,aft,none⟩ K) := by
 have hlen := hr.len;unfold Rep at hr;obtain ⟨p',c',h1,h2,h3,h4⟩ := hr;injection h1 with h1 _
 injection h1 with e1 e2 e3
 subst e1 e3;rcases h4 with h4 | ⟨b,off,cs,rfl,hmem,hz,_⟩
 ·subst h4;obtain rfl : m = 0 := e2;cases p with
  | some A => exact appendA hT hx (hm []) hy (fun W s j u e => by simp at e) (by simp) (by simp) h63 hb ht fun r' _ => h [] r' .nil
  | none =>
   obtain ⟨hu,i,z,hi,hz,hsz,hby,hzs,h0⟩ := rowN_spec hT;have e4 : bs' [] r = bs := (hm [] r).same (by rw [Nat.add_zero,List.append_nil]);have h5 := h [] r .nil;rw [e4] at h5;intro a W f s;refine one_plain rfl ?_;unfold Oper.wp;have hown : W.ownsRow w0.heap.size e size r k xs := (s.own _ (hm [] r).mem).1
   have hrun : (Builtin.append_ #[T,T] ty #[r,.slice none 0 c]).run P W = .ok r W := by
    rcases hown.2 with ⟨rfl,rfl⟩ | ⟨g,cap,cur,rfl,hbg,hgc,hnc,hcm,hcs,htake⟩
    ·simp [Builtin.append_,run_underlying hu,sizeOf,typeInfo,hi,Builtin.lenOf,Builtin.firstCells]
    ·simp [Builtin.append_,run_underlying hu,sizeOf,typeInfo,hi,Builtin.lenOf,Builtin.firstCells,hnc,storeCells]
   simp [execOp,resolve,invoke,builtin,f.ev hx,f.ev hy,hrun,Result.andThen,Oper.upon];exact h5 _ _ (f.put ht _) s
 ·exact appendA hT hx (hm cs) hy (fun W s j u e => by rw [Addr.add_lit];exact hmem.cell s.agr e) (by rw [hz.len,e2]) hz.one h63 hb ht fun r' _ => h cs r' hz
theorem At.apD {e : TypeId} {size bytes m c k : Nat} {p : Option Addr} {r : Value} {xs : List Value} {ds : List D} {bs' : List Value → Value → List Res} (hT : rowN P T = some (e,size,bytes)) (hx : ev L x = some r)
 (hm : ∀ news r',Upd bs (.row e size r k xs) (.row e size r' (k + m) (xs ++ news)) (bs' news r')) (hy : ev L y = some (.slice p m c)) (hr : Rep H (.seq size ds) [.slice p m c])
 (h63 : k + m ≤ maxLen) (hb : (k + m) * bytes ≤ 140737488355328) (ht : Nat.blt t n = true)
 (h : ∀ news r',RepZ H size ds news → At dfs n ((t,r') :: L) H w0 (bs' news r') (wpList P ops Q rest)) : At dfs n L H w0 bs (wpList P ops Q (⟨some t,.call ⟨.builtin .append,#[x,y],#[T,T]⟩,ty,pos,aft,none⟩ :: rest)) := cons (appendD hT hx hm hy hr h63 hb ht h)
theorem setsL_app : ∀ (vs l more : List Value) (off : Nat),off + vs.length ≤ l.length → setsL (l ++ more) off vs = setsL l off vs ++ more
 | [],l,more,off,_ => rfl
 | v :: r,l,more,off,h => by
  unfold setsL;rw [List.length_cons] at h;rw [List.set_append_left _ _ (by omega)];exact setsL_app r (l.set off v) more (off + 1) (by rw [List.length_set];omega)
theorem setsL_right : ∀ (vs p l : List Value) (off : Nat),setsL (p ++ l) (p.length + off) vs = p ++ setsL l off vs
 | [],p,l,off => rfl
 | v :: r,p,l,off => by
  unfold setsL;rw [List.set_append_right _ _ (by omega),show p.length + off - p.length = off by omega,Nat.add_assoc];exact setsL_right r p (l.set off v) (off + 1)
theorem RepZ.put {H : Hp} {z : Nat} {d : D} {vs : List Value} (hd : Rep H d vs) (hz : vs.length = z) : ∀ {ds : List D} {l : List Value} {i : Nat},RepZ H z ds l → i < ds.length → RepZ H z (ds.set i d) (setsL l (i * z) vs)
 | [],l,i,_,hi => by simp at hi
 | d0 :: r,l,0,h,_ => by
  unfold RepZ at h;obtain ⟨x,y,rfl,h1,h2,h3⟩ := h;rw [List.set_cons_zero,Nat.zero_mul,setsL_app _ _ _ _ (by omega)];have := setsL_all vs [] x (by omega);simp only [List.nil_append,List.length_nil] at this;rw [this];unfold RepZ;exact ⟨vs,y,rfl,hz,hd,h3⟩
 | d0 :: r,l,i + 1,h,hi => by
  unfold RepZ at h;obtain ⟨x,y,rfl,h1,h2,h3⟩ := h;have := RepZ.put hd hz (i := i) h3 (by simpa using hi);rw [List.set_cons_succ,show (i + 1) * z = x.length + i * z by rw [h1,Nat.succ_mul];omega,setsL_right];unfold RepZ;exact ⟨x,_,rfl,h1,h2,this⟩
theorem setsL_len : ∀ (vs l : List Value) (off : Nat),(setsL l off vs).length = l.length
 | [],l,off => rfl
 | v :: r,l,off => by unfold setsL;rw [setsL_len r,List.length_set]
variable {N hn i : Nat} {pa : List (Nat × Oper × Value)} {E : Sl → Hp → List Res → Prop} {q : PlT} {fr : List (Nat × Nat × Oper)}
theorem FlowP.apD {e : TypeId} {size bytes m c k : Nat} {p : Option Addr} {r : Value} {xs : List Value} {ds : List D} {bs' : List Value → Value → List Res} (hT : rowN P T = some (e,size,bytes)) (hx : ev L x = some r)
 (hm : ∀ news r',Upd bs (.row e size r k xs) (.row e size r' (k + m) (xs ++ news)) (bs' news r')) (hy : ev L y = some (.slice p m c)) (hr : Rep H (.seq size ds) [.slice p m c])
 (h63 : k + m ≤ maxLen) (hb : (k + m) * bytes ≤ 140737488355328) (ht : Nat.blt t N = true)
 (hr2 : ∀ news r',RedoP dfs P ops hn w0 N L H (bs' news r') i pa) (h : ∀ news p c,RepZ H size ds news → FlowP dfs P ops hn w0 N E fr pa ((t,.slice p (k + m) c) :: L) H (bs' news (.slice p (k + m) c))) :
 FlowP dfs P ops hn w0 N E ((i,3,⟨some t,.call ⟨.builtin .append,#[x,y],#[T,T]⟩,ty,pos,aft,none⟩) :: fr) pa L H bs :=
 ⟨blt_of ht,appendD hT hx hm hy hr h63 hb ht fun news r' hz => At.ra (hm news r').new fun p c e => by subst e;exact FlowP.into (.inr<|.inr<|hr2 _ _) (h news p c hz)⟩
theorem FlowP.apD0 {e : TypeId} {size bytes m c : Nat} {p : Option Addr} {r : Value} {ds : List D} {bs' : List Value → Value → List Res} (hT : rowN P T = some (e,size,bytes)) (hx : ev L x = some r)
 (hm : ∀ news r',Upd bs (.row e size r 0 []) (.row e size r' m news) (bs' news r')) (hy : ev L y = some (.slice p m c)) (hr : Rep H (.seq size ds) [.slice p m c])
 (h63 : m ≤ maxLen) (hb : m * bytes ≤ 140737488355328) (ht : Nat.blt t N = true)
 (hr2 : ∀ news r',RedoP dfs P ops hn w0 N L H (bs' news r') i pa) (h : ∀ news p c,RepZ H size ds news → FlowP dfs P ops hn w0 N E fr pa ((t,.slice p m c) :: L) H (bs' news (.slice p m c))) :
 FlowP dfs P ops hn w0 N E ((i,3,⟨some t,.call ⟨.builtin .append,#[x,y],#[T,T]⟩,ty,pos,aft,none⟩) :: fr) pa L H bs :=
 .apD hT hx (k := 0) (xs := []) (fun news r' => by rw [Nat.zero_add];exact hm news r') hy hr (by omega) (by rw [Nat.zero_add];exact hb) ht hr2 fun news p c hz => by rw [Nat.zero_add];exact h news p c hz
end
inductive EK where
 | b | s | i
def ekOf (P : Program) (t : TypeId) : Option EK :=
 match P.underlying t with
 | some .bool => some .b
 | some .string => some .s
 | some (.int _) => some .i
 | _ => none
def eqV1 : EK → Value → Value → Option Bool
 | .b,.bool a,.bool b => some (decide (a = b))
 | .s,.string a,.string b => some (decide (a = b))
 | .i,.int k a,.int k' b => if k = k' then some (decide (a = b)) else none
 | _,_,_ => none
def eqVs : List (Nat × EK) → List Value → List Value → Option Bool
 | [],_,_ => some true
 | (o,k) :: r,cs,ds =>
  match cs[o]?,ds[o]? with
  | some a,some b =>
   match eqV1 k a b,eqVs r cs ds with
   | some p,some q => some (p && q)
   | _,_ => none
  | _,_ => none
def fkOf (P : Program) (f : Field) : Option (Nat × EK) := if f.name = "_" then none else (ekOf P f.type).map fun k => (f.offset,k)
def eqT (P : Program) (T : TypeId) : Option (List (Nat × EK)) :=
 match P.underlying T with
 | some (.struct fs) => if P.stoodInHeld T || P.eqGuardType P.depth T then none else fs.toList.mapM (fkOf P)
 | _ => none
section
variable {dfs : List Deferred} {P : Program}
theorem ekOf_plain {t : TypeId} {k : EK} (h : ekOf P t = some k) : P.plainKey t = true := by
 unfold ekOf at h;unfold Program.plainKey
 split at h <;> simp_all
theorem run_eqV1 {t : TypeId} {k : EK} {a b : Value} {r : Bool} (hk : ekOf P t = some k) (h : eqV1 k a b = some r) (d : Nat) (w : World) : (Op.equalIn (d + 1) t a b).run P w = .ok r w := by
 unfold ekOf at hk;unfold eqV1 at h
 split at h
 ·split at hk <;> simp only [Option.some.injEq,reduceCtorEq] at hk
  rename_i hu;rw [run_equalIn_bool w d t _ _ hu];cases h
  rfl
 ·split at hk <;> simp only [Option.some.injEq,reduceCtorEq] at hk
  rename_i hu;rw [run_equalIn_string w d t _ _ hu];cases h
  congr 1
  rw [Bool.eq_iff_iff,beq_iff_eq,decide_eq_true_eq]
  constructor
  ·intro e;rwa [ByteArray.toList_eq,ByteArray.toList_eq,Array.toList_inj,← ByteArray.ext_iff] at e
  ·intro e;rw [e]
 ·split at hk <;> simp only [Option.some.injEq,reduceCtorEq] at hk
  rename_i hu
  split at h
  ·rename_i e;subst e;rw [run_equalIn_int w d t _ _ _ _ hu];cases h
   rfl
  ·cases h
 ·cases h
theorem run_eqVs (d : Nat) (w : World) (cs ds : List Value) : ∀ (fs : List Field) (ks : List (Nat × EK)) (r : Bool),fs.mapM (fkOf P) = some ks → eqVs ks cs ds = some r → (Op.eqFields (d + 1) cs.toArray ds.toArray fs).run P w = .ok r w
 | [],ks,r,hk,hr => by
  simp at hk;subst hk;simp only [eqVs,Option.some.injEq] at hr;subst hr;simp [Op.eqFields]
 | f :: fs,ks,r,hk,hr => by
  rw [List.mapM_cons] at hk;simp only [bind,Option.bind_eq_some_iff,pure,Option.some.injEq] at hk;obtain ⟨k,hk1,ks',hk2,rfl⟩ := hk;unfold fkOf at hk1
  split at hk1
  ·cases hk1
  rename_i hn;rw [Option.map_eq_some_iff] at hk1;obtain ⟨e,he,rfl⟩ := hk1;simp only [eqVs] at hr
  split at hr
  ·rename_i a b ha hb
   split at hr
   ·rename_i p q hp hq;cases hr;have h1 := run_part_plain w (ekOf_plain he) (xs := cs.toArray) (off := f.offset) (v := a) (by simpa using ha);have h2 := run_part_plain w (ekOf_plain he) (xs := ds.toArray) (off := f.offset) (v := b) (by simpa using hb);have h3 := run_eqV1 he hp d w;have h4 := run_eqVs d w cs ds fs ks' q hk2 hq;simp only [Op.eqFields,hn,ne_eq,not_false_eq_true,if_true,Sem.run_bind,h1,h2,h3,Result.andThen_ok];cases p
    ·simp
    ·simpa using h4
   ·cases hr
  ·cases hr
theorem run_eqT {T : TypeId} {ks : List (Nat × EK)} {cs ds : List Value} {r : Bool} (hT : eqT P T = some ks) (hr : eqVs ks cs ds = some r) (w : World) :
 (Op.equal T (.agg cs.toArray) (.agg ds.toArray)).run P w = .ok r w ∧ P.eqGuardType P.depth T = false := by
 unfold eqT at hT
 split at hT
 ·rename_i fs hu
  split at hT
  ·cases hT
  rename_i hb;rw [Bool.not_eq_true,Bool.or_eq_false_iff] at hb;have hf : P.fieldsOf T = fs := by simp [Program.fieldsOf,hu]
  refine ⟨?_,hb.2⟩;show (Op.equalIn (9998 + 1 + 1) T _ _).run P w = _;rw [run_equalIn_struct w (9998 + 1) T _ _ (by rw [hf];exact hu) hb.1,hf];exact run_eqVs 9998 w cs ds fs.toList ks r hT hr
 ·cases hT
variable {n : Nat} {L : Sl} {H : Hp} {w0 : World} {bs : List Res} {d : Option Tmp} {ty : TypeId} {pos : String} {aft : Array Edge} {g : Option (Nat × Bool)} {x y : Operand} {T T' : TypeId}
theorem Yl.eqA {ks : List (Nat × EK)} {cs ds : List Value} {r : Bool} (hT : eqT P T = some ks) (hx : ev L x = some (.agg cs.toArray)) (hy : ev L y = some (.agg ds.toArray)) (hr : eqVs ks cs ds = some r) : Yl P L H w0 bs ⟨d,.binOp .eql T x y T',ty,pos,aft,g⟩ (.bool r) := .of_run fun a W f _ => by
 obtain ⟨h1,h2⟩ := run_eqT hT hr W;unfold execOp;simp [f x _ hx,f y _ hy,eqGuard,h2,binOp,h1]
end
theorem Rep.cells {H : Hp} {z n c : Nat} {ds : List D} {p : Option Addr} (h : Rep H (.seq z ds) [.slice p n c]) : ∃ cf : Nat → List Value,∀ i d,ds[i]? = some d → ∃ b off,p = some ⟨b,off,none⟩ ∧ Rep H d (cf i) ∧ (cf i).length = z ∧ MemAt H b (off + i * z) (cf i) := by
 classical
 refine ⟨fun i => if h : ∃ cs,∀ d,ds[i]? = some d → ∃ b off,p = some ⟨b,off,none⟩ ∧ Rep H d cs ∧ cs.length = z ∧ MemAt H b (off + i * z) cs then Classical.choose h else [],fun i d hd => ?_⟩
 have ex : ∃ cs,∀ d,ds[i]? = some d → ∃ b off,p = some ⟨b,off,none⟩ ∧ Rep H d cs ∧ cs.length = z ∧ MemAt H b (off + i * z) cs := by
  obtain ⟨b,off,cs,h1,h2,h3,h4⟩ := h.elem hd;refine ⟨cs,fun d' hd' => ?_⟩;rw [hd] at hd';injection hd' with e
  subst e;exact ⟨b,off,h1,h2,h3,h4⟩
 simp only [dif_pos ex];exact Classical.choose_spec ex d hd
theorem subL {vs l : List Value} {k : Nat} (h : (l.drop k).take vs.length = vs) : ∀ (j : Nat) u,vs[j]? = some u → l[k + j]? = some u := fun j u hj => by
 rw [← h,List.getElem?_take] at hj
 split at hj
 ·rw [List.getElem?_drop] at hj;exact hj
 ·cases hj
section
variable {dfs : List Deferred} {P : Program} {n : Nat} {L : Sl} {H : Hp} {w0 : World} {bs : List Res} {Q : Exit → Act → World → Prop} {ops : Array Oper} {rest : List Oper} {K : Act → World → Prop}
variable {d : Option Tmp} {ty : TypeId} {pos : String} {aft : Array Edge} {v : Value} {t : Tmp} {x : Operand}
theorem At.sP {b off : Nat} {l l' vs : List Value} {T t' : TypeId} {y : Operand} {bs' : List Res} (hm : Upd bs (.box b l t') (.box b l' t') bs') (hp : ev L x = some (.pointer (some ⟨b,off,none⟩))) (hv : ev L y = some (.agg vs.toArray)) (hT : sizeN P T = some vs.length) (h1 : ∀ u ∈ vs,u.oneCell' = true) (ho : off + vs.length ≤ l.length) (hl : setsL l off vs = l')
 (h : At dfs n L H w0 bs' (wpList P ops Q rest)) : At dfs n L H w0 bs (wpList P ops Q (⟨none,.store T x y,ty,pos,aft,none⟩ :: rest)) := cons (stores hp hv hT rfl h1 (hl ▸ hm) ho h)
theorem Yl.mkF {fn : Fn} {fs cs : List Operand} {fi ca : List Value} {g : Option (Nat × Bool)} (h1 : evs L fs = some fi) (h2 : evs L cs = some ca) : Yl P L H w0 bs ⟨d,.makeFunc fn fs.toArray cs.toArray,ty,pos,aft,g⟩ (.func fn fi.toArray ca.toArray) := .of_run fun a W f _ => by
 unfold execOp;simp [evs_map f h1,evs_map f h2,Instr.makeFunc]
theorem Fr.know {a : Act} {p : Value} (f : Fr dfs n L a) (h : look L t = some p) : Fr dfs n ((t,p) :: L) a := ⟨f.size,f.defers,fun s u e => by
 unfold look at e;cases hb : Nat.beq t s
 ·rw [hb,cond_false] at e;exact f.slot s u e
 ·rw [hb,cond_true] at e;rw [← Nat.eq_of_beq_eq_true hb,← Option.some.inj e];exact f.slot t p h⟩
theorem At.cr {y z : Code} {p : Bool} (hc : look L t = some (.bool p)) (h1 : p = true → At dfs n ((t,.bool true) :: L) H w0 bs (y.wp P Q)) (h2 : p = false → At dfs n ((t,.bool false) :: L) H w0 bs (z.wp P Q)) : At dfs n L H w0 bs ((Code.cond (.tmp t) y z).wp P Q) :=
 At.cd (t := p) (by exact hc) (fun e a W f s => h1 e a W (f.know (e ▸ hc)) s) (fun e a W f s => h2 e a W (f.know (e ▸ hc)) s)
/-! ### Stores in a drawn region's head -/
section
variable {N hn i : Nat} {pa : List (Nat × Oper × Value)} {E : Sl → Hp → List Res → Prop} {r : List (Nat × Nat × Oper)} {T : TypeId} {y : Operand} {bs' : List Res}
theorem FlowP.into0 (hr : RedoP dfs P ops hn w0 N L H bs' i pa) (h : FlowP dfs P ops hn w0 N E r pa L H bs') :
 At dfs N L H w0 bs' (fun a' W' => ∃ v H' bs'',Fr dfs N (putL none v L) a' ∧ St H' w0 bs'' W' ∧ (2 = 1 ∨ (∀ W,St H' w0 bs'' W → St H w0 bs W) ∨ RedoP dfs P ops hn w0 N L H' bs'' i pa) ∧ FlowP dfs P ops hn w0 N E r pa (putL none v L) H' bs'') := fun _ _ f s => ⟨undef,H,bs',f,s,.inr (.inr hr),h⟩
theorem FlowP.sW {b : Nat} {l vs : List Value} {t' : TypeId} (hm : Upd bs (.box b l t') (.box b vs t') bs') (hp : ev L x = some (.pointer (some ⟨b,0,none⟩))) (hv : ev L y = some (.agg vs.toArray)) (hT : sizeN P T = some vs.length) (h1 : ∀ u ∈ vs,u.oneCell' = true) (ho : l.length = vs.length)
 (hr : RedoP dfs P ops hn w0 N L H bs' i pa) (h : FlowP dfs P ops hn w0 N E r pa L H bs') : FlowP dfs P ops hn w0 N E ((i,3,⟨none,.store T x y,ty,pos,aft,none⟩) :: r) pa L H bs :=
 ⟨fun _ e => (by cases e),storeW hp hv hT h1 hm ho (into0 hr h)⟩
end
section
variable {N hn i k : Nat} {pa : List (Nat × Oper × Value)} {E : Sl → Hp → List Res → Prop} {r : PlT} {T : TypeId} {y : Operand} {bs' : List Res}
theorem AltT.blF {ps : List (Nat × Operand)} {pv : List (Nat × Value)} {len : Nat} {e : TypeId} {l : List Value} (hv : evp L ps = some pv) (hb : bslN P T len pv = some (e,l)) (ht : Nat.blt t N = true)
 (h : ∀ b H1,HUp w0 H H1 → MemN H1 b 0 l → FlowT dfs P ops hn w0 N E r pa ((t,.slice (some ⟨b,0,none⟩) len len) :: L) H1 bs) : AltT dfs P ops hn w0 N E i k ⟨some t,.buildSlice T len ps.toArray,ty,pos,aft,none⟩ r pa L H bs :=
 ⟨blt_of ht,buildSlice hv hb ht fun b => freezeBoxN fun H1 u m => AltT.into (.inr<|.inl fun _ s => s.weakH u.up) (h b H1 u m)⟩
theorem AltT.into0 (hr : RedoP dfs P ops hn w0 N L H bs' i pa) (h : FlowT dfs P ops hn w0 N E r pa L H bs') :
 At dfs N L H w0 bs' (fun a' W' => ∃ v H' bs'',Fr dfs N (putL none v L) a' ∧ St H' w0 bs'' W' ∧ (k = 1 ∨ (∀ W,St H' w0 bs'' W → St H w0 bs W) ∨ RedoP dfs P ops hn w0 N L H' bs'' i pa) ∧ FlowT dfs P ops hn w0 N E r pa (putL none v L) H' bs'') := fun _ _ f s => ⟨undef,H,bs',f,s,.inr (.inr hr),h⟩
theorem AltT.sW {b : Nat} {l vs : List Value} {t' : TypeId} (hm : Upd bs (.box b l t') (.box b vs t') bs') (hp : ev L x = some (.pointer (some ⟨b,0,none⟩))) (hv : ev L y = some (.agg vs.toArray)) (hT : sizeN P T = some vs.length) (h1 : ∀ u ∈ vs,u.oneCell' = true) (ho : l.length = vs.length)
 (hr : RedoP dfs P ops hn w0 N L H bs' i pa) (h : FlowT dfs P ops hn w0 N E r pa L H bs') : AltT dfs P ops hn w0 N E i k ⟨none,.store T x y,ty,pos,aft,none⟩ r pa L H bs :=
 ⟨fun _ e => (by cases e),storeW hp hv hT h1 hm ho (AltT.into0 hr h)⟩
end
end
end Go.Sx
namespace Go.Proofs.YtohfacbajcenoaaGreatDoor
open Go.RowKit Go.Par Go.Sx
theorem Fx.agg5 : aggN Tryz.prog 5 = Option.some Option.none := by kernel_rfl
theorem Fx.agg22 : aggN Tryz.prog 22 = Option.some Option.none := by kernel_rfl
theorem Fx.bytes22 : bytesN Tryz.prog 22 = Bool.true := by kernel_rfl
theorem Fx.field127_6 : fieldN Tryz.prog 127 6 = Option.some 6 := by kernel_rfl
theorem Fx.row54 : rowN Tryz.prog 54 = Option.some (9,1,16) := by kernel_rfl
theorem Fx.size22 : sizeN Tryz.prog 22 = Option.some 1 := by kernel_rfl
theorem Fx.sl22 : slN Tryz.prog 22 = Option.some 1 := by kernel_rfl
theorem Fx.zero9 : zeroN Tryz.prog 9 = Option.some [Go.Value.string { data := { toList := [] } }] := by kernel_rfl
theorem Fx.bsl22_2 (x0 : Int) (x1 : Int) : bslN Tryz.prog 22 2 [(0,.int .u8 x0),(1,.int .u8 x1)] = some (5,[.int .u8 x0,.int .u8 x1]) := by kernel_rfl
theorem Fx.bsl54_1 (x0 : ByteArray) : bslN Tryz.prog 54 1 [(0,.string x0)] = some (9,[.string x0]) := by kernel_rfl
theorem Fx.call39 : callN Tryz.prog 39 = Bool.true := by kernel_rfl
theorem Fx.call99 : callN Tryz.prog 99 = Bool.true := by kernel_rfl
theorem Fx.field127_0 : fieldN Tryz.prog 127 0 = Option.some 0 := by kernel_rfl
theorem Fx.call113 : callN Tryz.prog 113 = Bool.true := by kernel_rfl
theorem Fx.call115 : callN Tryz.prog 115 = Bool.true := by kernel_rfl
theorem Fx.field127_1 : fieldN Tryz.prog 127 1 = Option.some 1 := by kernel_rfl
theorem Fx.field127_5 : fieldN Tryz.prog 127 5 = Option.some 5 := by kernel_rfl
theorem Fx.sl124 : slN Tryz.prog 124 = Option.some 1 := by kernel_rfl
theorem Fx.bld58_0 (x0 : Int) : buildN Tryz.prog 58 [(0,.int .i64 x0)] = some [.int .i64 x0,.string ⟨#[]⟩,.int .i64 0,.slice none 0 0] := by kernel_rfl
theorem Fx.bld58_0_1 (x0 : Int) (x1 : ByteArray) : buildN Tryz.prog 58 [(0,.int .i64 x0),(1,.string x1)] = some [.int .i64 x0,.string x1,.int .i64 0,.slice none 0 0] := by kernel_rfl
theorem Fx.bld58_0_1_3 (x0 : Int) (x1 : ByteArray) (x3p : Option Addr) (x3n x3c : Nat) : buildN Tryz.prog 58 [(0,.int .i64 x0),(1,.string x1),(3,.slice x3p x3n x3c)] = some [.int .i64 x0,.string x1,.int .i64 0,.slice x3p x3n x3c] := by kernel_rfl
theorem Fx.bld58_0_2 (x0 : Int) (x2 : Int) : buildN Tryz.prog 58 [(0,.int .i64 x0),(2,.int .i64 x2)] = some [.int .i64 x0,.string ⟨#[]⟩,.int .i64 x2,.slice none 0 0] := by kernel_rfl
theorem Fx.bld58_0_3 (x0 : Int) (x3p : Option Addr) (x3n x3c : Nat) : buildN Tryz.prog 58 [(0,.int .i64 x0),(3,.slice x3p x3n x3c)] = some [.int .i64 x0,.string ⟨#[]⟩,.int .i64 0,.slice x3p x3n x3c] := by kernel_rfl
theorem Fx.bsl124_6 (x0 : Int) (x1 : Int) (x2 : Int) (x3 : Int) (x4 : Int) (x5 : Int) : bslN Tryz.prog 124 6 [(0,.int .i64 x0),(1,.int .i64 x1),(2,.int .i64 x2),(3,.int .i64 x3),(4,.int .i64 x4),(5,.int .i64 x5)] = some (3,[.int .i64 x0,.int .i64 x1,.int .i64 x2,.int .i64 x3,.int .i64 x4,.int .i64 x5]) := by kernel_rfl
theorem Fx.bsl56_1 (x00 x01 x02 x03 : Value) : bslN Tryz.prog 56 1 [(0,.agg [x00,x01,x02,x03].toArray)] = some (58,[x00,x01,x02,x03]) := by kernel_rfl
theorem Fx.bsl56_2 (x00 x01 x02 x03 : Value) (x10 x11 x12 x13 : Value) : bslN Tryz.prog 56 2 [(0,.agg [x00,x01,x02,x03].toArray),(1,.agg [x10,x11,x12,x13].toArray)] = some (58,[x00,x01,x02,x03,x10,x11,x12,x13]) := by kernel_rfl
theorem Fx.row56 : rowN Tryz.prog 56 = Option.some (58,4,56) := by kernel_rfl
theorem Fx.call112 : callN Tryz.prog 112 = Bool.true := by kernel_rfl
theorem Fx.field127_2 : fieldN Tryz.prog 127 2 = Option.some 2 := by kernel_rfl
theorem Fx.agg85 : aggN Tryz.prog 85 = Option.some (Option.some 6) := by kernel_rfl
theorem Fx.agg123 : aggN Tryz.prog 123 = Option.some Option.none := by kernel_rfl
theorem Fx.agg124 : aggN Tryz.prog 124 = Option.some Option.none := by kernel_rfl
theorem Fx.call76 : callN Tryz.prog 76 = Bool.true := by kernel_rfl
theorem Fx.call114 : callN Tryz.prog 114 = Bool.true := by kernel_rfl
theorem Fx.field127_3 : fieldN Tryz.prog 127 3 = Option.some 3 := by kernel_rfl
theorem Fx.field127_4 : fieldN Tryz.prog 127 4 = Option.some 4 := by kernel_rfl
theorem Fx.size85 : sizeN Tryz.prog 85 = Option.some 6 := by kernel_rfl
theorem Fx.sl123 : slN Tryz.prog 123 = Option.some 1 := by kernel_rfl
theorem Fx.zero85 : zeroN Tryz.prog 85 = Option.some
 [Go.Value.int Go.IntKind.i64 (Int.ofNat 0),Go.Value.string { data := { toList := [] } },
  Go.Value.string { data := { toList := [] } },Go.Value.slice Option.none 0 0,Go.Value.slice Option.none 0 0,
  Go.Value.slice Option.none 0 0] := by kernel_rfl
theorem Fx.bld85_0 (x0 : Int) : buildN Tryz.prog 85 [(0,.int .i64 x0)] = some [.int .i64 x0,.string ⟨#[]⟩,.string ⟨#[]⟩,.slice none 0 0,.slice none 0 0,.slice none 0 0] := by kernel_rfl
theorem Fx.bld85_0_1_2_3 (x0 : Int) (x1 : ByteArray) (x2 : ByteArray) (x3p : Option Addr) (x3n x3c : Nat) : buildN Tryz.prog 85 [(0,.int .i64 x0),(1,.string x1),(2,.string x2),(3,.slice x3p x3n x3c)] = some [.int .i64 x0,.string x1,.string x2,.slice x3p x3n x3c,.slice none 0 0,.slice none 0 0] := by kernel_rfl
theorem Fx.bld85_0_1_3 (x0 : Int) (x1 : ByteArray) (x3p : Option Addr) (x3n x3c : Nat) : buildN Tryz.prog 85 [(0,.int .i64 x0),(1,.string x1),(3,.slice x3p x3n x3c)] = some [.int .i64 x0,.string x1,.string ⟨#[]⟩,.slice x3p x3n x3c,.slice none 0 0,.slice none 0 0] := by kernel_rfl
theorem Fx.bld85_0_1_3_5 (x0 : Int) (x1 : ByteArray) (x3p : Option Addr) (x3n x3c : Nat) (x5p : Option Addr) (x5n x5c : Nat) : buildN Tryz.prog 85 [(0,.int .i64 x0),(1,.string x1),(3,.slice x3p x3n x3c),(5,.slice x5p x5n x5c)] = some [.int .i64 x0,.string x1,.string ⟨#[]⟩,.slice x3p x3n x3c,.slice none 0 0,.slice x5p x5n x5c] := by kernel_rfl
theorem Fx.bld85_0_2_3 (x0 : Int) (x2 : ByteArray) (x3p : Option Addr) (x3n x3c : Nat) : buildN Tryz.prog 85 [(0,.int .i64 x0),(2,.string x2),(3,.slice x3p x3n x3c)] = some [.int .i64 x0,.string ⟨#[]⟩,.string x2,.slice x3p x3n x3c,.slice none 0 0,.slice none 0 0] := by kernel_rfl
theorem Fx.bld85_0_3_4 (x0 : Int) (x3p : Option Addr) (x3n x3c : Nat) (x4p : Option Addr) (x4n x4c : Nat) : buildN Tryz.prog 85 [(0,.int .i64 x0),(3,.slice x3p x3n x3c),(4,.slice x4p x4n x4c)] = some [.int .i64 x0,.string ⟨#[]⟩,.string ⟨#[]⟩,.slice x3p x3n x3c,.slice x4p x4n x4c,.slice none 0 0] := by kernel_rfl
theorem Fx.bld85_0_3_4_5 (x0 : Int) (x3p : Option Addr) (x3n x3c : Nat) (x4p : Option Addr) (x4n x4c : Nat) (x5p : Option Addr) (x5n x5c : Nat) : buildN Tryz.prog 85 [(0,.int .i64 x0),(3,.slice x3p x3n x3c),(4,.slice x4p x4n x4c),(5,.slice x5p x5n x5c)] = some [.int .i64 x0,.string ⟨#[]⟩,.string ⟨#[]⟩,.slice x3p x3n x3c,.slice x4p x4n x4c,.slice x5p x5n x5c] := by kernel_rfl
theorem Fx.bld85_0_3_5 (x0 : Int) (x3p : Option Addr) (x3n x3c : Nat) (x5p : Option Addr) (x5n x5c : Nat) : buildN Tryz.prog 85 [(0,.int .i64 x0),(3,.slice x3p x3n x3c),(5,.slice x5p x5n x5c)] = some [.int .i64 x0,.string ⟨#[]⟩,.string ⟨#[]⟩,.slice x3p x3n x3c,.slice none 0 0,.slice x5p x5n x5c] := by kernel_rfl
theorem Fx.bsl54_3 (x0 : ByteArray) (x1 : ByteArray) (x2 : ByteArray) : bslN Tryz.prog 54 3 [(0,.string x0),(1,.string x1),(2,.string x2)] = some (9,[.string x0,.string x1,.string x2]) := by kernel_rfl
theorem Fx.call100 : callN Tryz.prog 100 = Bool.true := by kernel_rfl
theorem Fx.field127_7 : fieldN Tryz.prog 127 7 = Option.some 7 := by kernel_rfl
theorem Fx.row80 : rowN Tryz.prog 80 = Option.some (85,6,112) := by kernel_rfl
theorem Fx.size3 : sizeN Tryz.prog 3 = Option.some 1 := by kernel_rfl
theorem Fx.bsl80_1 (x00 x01 x02 x03 x04 x05 : Value) : bslN Tryz.prog 80 1 [(0,.agg [x00,x01,x02,x03,x04,x05].toArray)] = some (85,[x00,x01,x02,x03,x04,x05]) := by kernel_rfl
theorem Fx.agg129 : aggN Tryz.prog 129 = Option.some (Option.some 2) := by kernel_rfl
theorem Fx.call38 : callN Tryz.prog 38 = Bool.true := by kernel_rfl
theorem Fx.field129_1 : fieldN Tryz.prog 129 1 = Option.some 1 := by kernel_rfl
theorem Fx.row79 : rowN Tryz.prog 79 = Option.some (82,3,64) := by kernel_rfl
theorem Fx.size129 : sizeN Tryz.prog 129 = Option.some 2 := by kernel_rfl
theorem Fx.sl119 : slN Tryz.prog 119 = Option.some 2 := by kernel_rfl
theorem Fx.zero129 : zeroN Tryz.prog 129 = Option.some [Go.Value.int Go.IntKind.u8 (Int.ofNat 0),Go.Value.slice Option.none 0 0] := by kernel_rfl
theorem Fx.bld82_0_1_2 (x0 : ByteArray) (x1p : Option Addr) (x1n x1c : Nat) (x2p : Option Addr) (x2n x2c : Nat) : buildN Tryz.prog 82 [(0,.string x0),(1,.slice x1p x1n x1c),(2,.slice x2p x2n x2c)] = some [.string x0,.slice x1p x1n x1c,.slice x2p x2n x2c] := by kernel_rfl
theorem Fx.bsl79_1 (x00 x01 x02 : Value) : bslN Tryz.prog 79 1 [(0,.agg [x00,x01,x02].toArray)] = some (82,[x00,x01,x02]) := by kernel_rfl
theorem Fx.agg119 : aggN Tryz.prog 119 = Option.some Option.none := by kernel_rfl
theorem Fx.field121_2 : fieldN Tryz.prog 121 2 = Option.some 2 := by kernel_rfl
theorem Fx.field121_3 : fieldN Tryz.prog 121 3 = Option.some 3 := by kernel_rfl
theorem Fx.field129_0 : fieldN Tryz.prog 129 0 = Option.some 0 := by kernel_rfl
theorem Fx.row124 : rowN Tryz.prog 124 = Option.some (3,1,8) := by kernel_rfl
theorem Fx.bsl124_1 (x0 : Int) : bslN Tryz.prog 124 1 [(0,.int .i64 x0)] = some (3,[.int .i64 x0]) := by kernel_rfl
theorem Fx.agg23 : aggN Tryz.prog 23 = Option.some Option.none := by kernel_rfl
theorem Fx.agg27 : aggN Tryz.prog 27 = Option.some Option.none := by kernel_rfl
theorem Fx.agg28 : aggN Tryz.prog 28 = Option.some Option.none := by kernel_rfl
theorem Fx.agg29 : aggN Tryz.prog 29 = Option.some Option.none := by kernel_rfl
theorem Fx.agg31 : aggN Tryz.prog 31 = Option.some (Option.some 4) := by kernel_rfl
theorem Fx.agg75 : aggN Tryz.prog 75 = Option.some Option.none := by kernel_rfl
theorem Fx.agg76 : aggN Tryz.prog 76 = Option.some Option.none := by kernel_rfl
theorem Fx.agg78 : aggN Tryz.prog 78 = Option.some (Option.some 3) := by kernel_rfl
theorem Fx.agg121 : aggN Tryz.prog 121 = Option.some (Option.some 4) := by kernel_rfl
theorem Fx.call40 : callN Tryz.prog 40 = Bool.true := by kernel_rfl
theorem Fx.call41 : callN Tryz.prog 41 = Bool.true := by kernel_rfl
theorem Fx.field25_0 : fieldN Tryz.prog 25 0 = Option.some 0 := by kernel_rfl
theorem Fx.field25_1 : fieldN Tryz.prog 25 1 = Option.some 1 := by kernel_rfl
theorem Fx.field25_2 : fieldN Tryz.prog 25 2 = Option.some 2 := by kernel_rfl
theorem Fx.field31_1 : fieldN Tryz.prog 31 1 = Option.some 1 := by kernel_rfl
theorem Fx.field31_2 : fieldN Tryz.prog 31 2 = Option.some 2 := by kernel_rfl
theorem Fx.field31_3 : fieldN Tryz.prog 31 3 = Option.some 3 := by kernel_rfl
theorem Fx.field78_1 : fieldN Tryz.prog 78 1 = Option.some 1 := by kernel_rfl
theorem Fx.field78_2 : fieldN Tryz.prog 78 2 = Option.some 2 := by kernel_rfl
theorem Fx.field121_0 : fieldN Tryz.prog 121 0 = Option.some 0 := by kernel_rfl
theorem Fx.field121_1 : fieldN Tryz.prog 121 1 = Option.some 1 := by kernel_rfl
theorem Fx.row27 : rowN Tryz.prog 27 = Option.some (88,2,24) := by kernel_rfl
theorem Fx.row28 : rowN Tryz.prog 28 = Option.some (91,3,40) := by kernel_rfl
theorem Fx.row29 : rowN Tryz.prog 29 = Option.some (78,3,64) := by kernel_rfl
theorem Fx.row75 : rowN Tryz.prog 75 = Option.some (98,3,32) := by kernel_rfl
theorem Fx.row76 : rowN Tryz.prog 76 = Option.some (79,1,24) := by kernel_rfl
theorem Fx.row123 : rowN Tryz.prog 123 = Option.some (124,1,24) := by kernel_rfl
theorem Fx.size27 : sizeN Tryz.prog 27 = Option.some 1 := by kernel_rfl
theorem Fx.size28 : sizeN Tryz.prog 28 = Option.some 1 := by kernel_rfl
theorem Fx.size29 : sizeN Tryz.prog 29 = Option.some 1 := by kernel_rfl
theorem Fx.size31 : sizeN Tryz.prog 31 = Option.some 4 := by kernel_rfl
theorem Fx.size75 : sizeN Tryz.prog 75 = Option.some 1 := by kernel_rfl
theorem Fx.size76 : sizeN Tryz.prog 76 = Option.some 1 := by kernel_rfl
theorem Fx.size78 : sizeN Tryz.prog 78 = Option.some 3 := by kernel_rfl
theorem Fx.size121 : sizeN Tryz.prog 121 = Option.some 4 := by kernel_rfl
theorem Fx.size127 : sizeN Tryz.prog 127 = Option.some 8 := by kernel_rfl
theorem Fx.sl23 : slN Tryz.prog 23 = Option.some 4 := by kernel_rfl
theorem Fx.sl27 : slN Tryz.prog 27 = Option.some 2 := by kernel_rfl
theorem Fx.zero31 : zeroN Tryz.prog 31 = Option.some
 [Go.Value.string { data := { toList := [] } },Go.Value.slice Option.none 0 0,Go.Value.slice Option.none 0 0,
  Go.Value.slice Option.none 0 0] := by kernel_rfl
theorem Fx.zero78 : zeroN Tryz.prog 78 = Option.some
 [Go.Value.string { data := { toList := [] } },Go.Value.slice Option.none 0 0,Go.Value.slice Option.none 0 0] := by kernel_rfl
theorem Fx.zero121 : zeroN Tryz.prog 121 = Option.some
 [Go.Value.int Go.IntKind.u8 (Int.ofNat 0),Go.Value.int Go.IntKind.u8 (Int.ofNat 0),Go.Value.slice Option.none 0 0,
  Go.Value.slice Option.none 0 0] := by kernel_rfl
theorem Fx.zero127 : zeroN Tryz.prog 127 = Option.some
 [Go.Value.int Go.IntKind.i64 (Int.ofNat 0),Go.Value.int Go.IntKind.i64 (Int.ofNat 0),
  Go.Value.int Go.IntKind.i64 (Int.ofNat 0),Go.Value.int Go.IntKind.i64 (Int.ofNat 0),
  Go.Value.slice Option.none 0 0,Go.Value.int Go.IntKind.i64 (Int.ofNat 0),Go.Value.slice Option.none 0 0,
  Go.Value.int Go.IntKind.i64 (Int.ofNat 0)] := by kernel_rfl
theorem Fx.bld121  : buildN Tryz.prog 121 [] = some [.int .u8 0,.int .u8 0,.slice none 0 0,.slice none 0 0] := by kernel_rfl
theorem Fx.bld127_0_1_2_3_4 (x0 : Int) (x1 : Int) (x2 : Int) (x3 : Int) (x4p : Option Addr) (x4n x4c : Nat) : buildN Tryz.prog 127 [(0,.int .i64 x0),(1,.int .i64 x1),(2,.int .i64 x2),(3,.int .i64 x3),(4,.slice x4p x4n x4c)] = some [.int .i64 x0,.int .i64 x1,.int .i64 x2,.int .i64 x3,.slice x4p x4n x4c,.int .i64 0,.slice none 0 0,.int .i64 0] := by kernel_rfl
theorem Fx.bld129_0 (x0 : Int) : buildN Tryz.prog 129 [(0,.int .u8 x0)] = some [.int .u8 x0,.slice none 0 0] := by kernel_rfl
theorem Fx.bld31_0 (x0 : ByteArray) : buildN Tryz.prog 31 [(0,.string x0)] = some [.string x0,.slice none 0 0,.slice none 0 0,.slice none 0 0] := by kernel_rfl
theorem Fx.bld78_0 (x0 : ByteArray) : buildN Tryz.prog 78 [(0,.string x0)] = some [.string x0,.slice none 0 0,.slice none 0 0] := by kernel_rfl
theorem Fx.bld88_0_1 (x0 : ByteArray) (x1 : Bool) : buildN Tryz.prog 88 [(0,.string x0),(1,.bool x1)] = some [.string x0,.bool x1] := by kernel_rfl
theorem Fx.bld91_0_1_2 (x0 : ByteArray) (x1 : ByteArray) (x2 : Int) : buildN Tryz.prog 91 [(0,.string x0),(1,.string x1),(2,.int .i64 x2)] = some [.string x0,.string x1,.int .i64 x2] := by kernel_rfl
theorem Fx.bld98_0_1_2 (x0 : ByteArray) (x1 : Int) (x2 : Int) : buildN Tryz.prog 98 [(0,.string x0),(1,.int .i64 x1),(2,.int .i64 x2)] = some [.string x0,.int .i64 x1,.int .i64 x2] := by kernel_rfl
theorem Fx.bsl119_1 (x00 x01 : Value) : bslN Tryz.prog 119 1 [(0,.agg [x00,x01].toArray)] = some (129,[x00,x01]) := by kernel_rfl
theorem Fx.bsl123_1 (x0p : Option Addr) (x0n x0c : Nat) : bslN Tryz.prog 123 1 [(0,.slice x0p x0n x0c)] = some (124,[.slice x0p x0n x0c]) := by kernel_rfl
theorem Fx.bsl23_1 (x00 x01 x02 x03 : Value) : bslN Tryz.prog 23 1 [(0,.agg [x00,x01,x02,x03].toArray)] = some (121,[x00,x01,x02,x03]) := by kernel_rfl
theorem Fx.bsl27_1 (x00 x01 : Value) : bslN Tryz.prog 27 1 [(0,.agg [x00,x01].toArray)] = some (88,[x00,x01]) := by kernel_rfl
theorem Fx.bsl28_1 (x00 x01 x02 : Value) : bslN Tryz.prog 28 1 [(0,.agg [x00,x01,x02].toArray)] = some (91,[x00,x01,x02]) := by kernel_rfl
theorem Fx.bsl29_1 (x00 x01 x02 : Value) : bslN Tryz.prog 29 1 [(0,.agg [x00,x01,x02].toArray)] = some (78,[x00,x01,x02]) := by kernel_rfl
theorem Fx.bsl75_1 (x00 x01 x02 : Value) : bslN Tryz.prog 75 1 [(0,.agg [x00,x01,x02].toArray)] = some (98,[x00,x01,x02]) := by kernel_rfl
theorem Fx.bsl76_1 (x0p : Option Addr) (x0n x0c : Nat) : bslN Tryz.prog 76 1 [(0,.slice x0p x0n x0c)] = some (79,[.slice x0p x0n x0c]) := by kernel_rfl
theorem Fx.agg80 : aggN Tryz.prog 80 = Option.some Option.none := by kernel_rfl
theorem Fx.agg150 : aggN Tryz.prog 150 = Option.some (Option.some 6) := by kernel_rfl
theorem Fx.call24 : callN Tryz.prog 24 = Bool.true := by kernel_rfl
theorem Fx.field85_0 : fieldN Tryz.prog 85 0 = Option.some 0 := by kernel_rfl
theorem Fx.field85_1 : fieldN Tryz.prog 85 1 = Option.some 1 := by kernel_rfl
theorem Fx.field85_2 : fieldN Tryz.prog 85 2 = Option.some 2 := by kernel_rfl
theorem Fx.field85_3 : fieldN Tryz.prog 85 3 = Option.some 3 := by kernel_rfl
theorem Fx.field85_4 : fieldN Tryz.prog 85 4 = Option.some 4 := by kernel_rfl
theorem Fx.field85_5 : fieldN Tryz.prog 85 5 = Option.some 5 := by kernel_rfl
theorem Fx.int148 : intN Tryz.prog 148 = Option.some Go.IntKind.u8 := by kernel_rfl
theorem Fx.row104 : rowN Tryz.prog 104 = Option.some (150,6,112) := by kernel_rfl
theorem Fx.size150 : sizeN Tryz.prog 150 = Option.some 6 := by kernel_rfl
theorem Fx.sl80 : slN Tryz.prog 80 = Option.some 6 := by kernel_rfl
theorem Fx.zero150 : zeroN Tryz.prog 150 = Option.some
 [Go.Value.int Go.IntKind.u8 (Int.ofNat 0),Go.Value.string { data := { toList := [] } },
  Go.Value.string { data := { toList := [] } },Go.Value.slice Option.none 0 0,Go.Value.slice Option.none 0 0,
  Go.Value.slice Option.none 0 0] := by kernel_rfl
theorem Fx.bld150_0_1_2_4_5 (x0 : Int) (x1 : ByteArray) (x2 : ByteArray) (x4p : Option Addr) (x4n x4c : Nat) (x5p : Option Addr) (x5n x5c : Nat) : buildN Tryz.prog 150 [(0,.int .u8 x0),(1,.string x1),(2,.string x2),(4,.slice x4p x4n x4c),(5,.slice x5p x5n x5c)] = some [.int .u8 x0,.string x1,.string x2,.slice none 0 0,.slice x4p x4n x4c,.slice x5p x5n x5c] := by kernel_rfl
theorem Fx.bsl104_1 (x00 x01 x02 x03 x04 x05 : Value) : bslN Tryz.prog 104 1 [(0,.agg [x00,x01,x02,x03,x04,x05].toArray)] = some (150,[x00,x01,x02,x03,x04,x05]) := by kernel_rfl
theorem Fx.agg79 : aggN Tryz.prog 79 = Option.some Option.none := by kernel_rfl
theorem Fx.agg82 : aggN Tryz.prog 82 = Option.some (Option.some 3) := by kernel_rfl
theorem Fx.agg88 : aggN Tryz.prog 88 = Option.some (Option.some 2) := by kernel_rfl
theorem Fx.agg91 : aggN Tryz.prog 91 = Option.some (Option.some 3) := by kernel_rfl
theorem Fx.agg98 : aggN Tryz.prog 98 = Option.some (Option.some 3) := by kernel_rfl
theorem Fx.field31_0 : fieldN Tryz.prog 31 0 = Option.some 0 := by kernel_rfl
theorem Fx.field78_0 : fieldN Tryz.prog 78 0 = Option.some 0 := by kernel_rfl
theorem Fx.field82_0 : fieldN Tryz.prog 82 0 = Option.some 0 := by kernel_rfl
theorem Fx.field82_1 : fieldN Tryz.prog 82 1 = Option.some 1 := by kernel_rfl
theorem Fx.field82_2 : fieldN Tryz.prog 82 2 = Option.some 2 := by kernel_rfl
theorem Fx.field88_0 : fieldN Tryz.prog 88 0 = Option.some 0 := by kernel_rfl
theorem Fx.field88_1 : fieldN Tryz.prog 88 1 = Option.some 1 := by kernel_rfl
theorem Fx.field91_0 : fieldN Tryz.prog 91 0 = Option.some 0 := by kernel_rfl
theorem Fx.field91_1 : fieldN Tryz.prog 91 1 = Option.some 1 := by kernel_rfl
theorem Fx.field91_2 : fieldN Tryz.prog 91 2 = Option.some 2 := by kernel_rfl
theorem Fx.field98_0 : fieldN Tryz.prog 98 0 = Option.some 0 := by kernel_rfl
theorem Fx.field98_1 : fieldN Tryz.prog 98 1 = Option.some 1 := by kernel_rfl
theorem Fx.field98_2 : fieldN Tryz.prog 98 2 = Option.some 2 := by kernel_rfl
theorem Fx.int62 : intN Tryz.prog 62 = Option.some Go.IntKind.u8 := by kernel_rfl
theorem Fx.row33 : rowN Tryz.prog 33 = Option.some (89,2,24) := by kernel_rfl
theorem Fx.row34 : rowN Tryz.prog 34 = Option.some (92,3,40) := by kernel_rfl
theorem Fx.row35 : rowN Tryz.prog 35 = Option.some (96,3,64) := by kernel_rfl
theorem Fx.row93 : rowN Tryz.prog 93 = Option.some (100,3,32) := by kernel_rfl
theorem Fx.row94 : rowN Tryz.prog 94 = Option.some (103,1,24) := by kernel_rfl
theorem Fx.row101 : rowN Tryz.prog 101 = Option.some (107,3,64) := by kernel_rfl
theorem Fx.size33 : sizeN Tryz.prog 33 = Option.some 1 := by kernel_rfl
theorem Fx.size34 : sizeN Tryz.prog 34 = Option.some 1 := by kernel_rfl
theorem Fx.size35 : sizeN Tryz.prog 35 = Option.some 1 := by kernel_rfl
theorem Fx.size37 : sizeN Tryz.prog 37 = Option.some 4 := by kernel_rfl
theorem Fx.size82 : sizeN Tryz.prog 82 = Option.some 3 := by kernel_rfl
theorem Fx.size88 : sizeN Tryz.prog 88 = Option.some 2 := by kernel_rfl
theorem Fx.size91 : sizeN Tryz.prog 91 = Option.some 3 := by kernel_rfl
theorem Fx.size93 : sizeN Tryz.prog 93 = Option.some 1 := by kernel_rfl
theorem Fx.size94 : sizeN Tryz.prog 94 = Option.some 1 := by kernel_rfl
theorem Fx.size98 : sizeN Tryz.prog 98 = Option.some 3 := by kernel_rfl
theorem Fx.size101 : sizeN Tryz.prog 101 = Option.some 1 := by kernel_rfl
theorem Fx.sl28 : slN Tryz.prog 28 = Option.some 3 := by kernel_rfl
theorem Fx.sl29 : slN Tryz.prog 29 = Option.some 3 := by kernel_rfl
theorem Fx.sl75 : slN Tryz.prog 75 = Option.some 3 := by kernel_rfl
theorem Fx.sl76 : slN Tryz.prog 76 = Option.some 1 := by kernel_rfl
theorem Fx.sl79 : slN Tryz.prog 79 = Option.some 3 := by kernel_rfl
theorem Fx.zero37 : zeroN Tryz.prog 37 = Option.some
 [Go.Value.string { data := { toList := [] } },Go.Value.slice Option.none 0 0,Go.Value.slice Option.none 0 0,
  Go.Value.slice Option.none 0 0] := by kernel_rfl
theorem Fx.zero82 : zeroN Tryz.prog 82 = Option.some
 [Go.Value.string { data := { toList := [] } },Go.Value.slice Option.none 0 0,Go.Value.slice Option.none 0 0] := by kernel_rfl
theorem Fx.zero88 : zeroN Tryz.prog 88 = Option.some [Go.Value.string { data := { toList := [] } },Go.Value.bool Bool.false] := by kernel_rfl
theorem Fx.zero91 : zeroN Tryz.prog 91 = Option.some
 [Go.Value.string { data := { toList := [] } },Go.Value.string { data := { toList := [] } },
  Go.Value.int Go.IntKind.i64 (Int.ofNat 0)] := by kernel_rfl
theorem Fx.zero98 : zeroN Tryz.prog 98 = Option.some
 [Go.Value.string { data := { toList := [] } },Go.Value.int Go.IntKind.i64 (Int.ofNat 0),
  Go.Value.int Go.IntKind.i64 (Int.ofNat 0)] := by kernel_rfl
theorem Fx.bld100_0_1_2 (x0 : ByteArray) (x1 : Int) (x2 : Int) : buildN Tryz.prog 100 [(0,.string x0),(1,.int .u8 x1),(2,.int .i64 x2)] = some [.string x0,.int .u8 x1,.int .i64 x2] := by kernel_rfl
theorem Fx.bld107_0_1_2 (x0 : ByteArray) (x1p : Option Addr) (x1n x1c : Nat) (x2p : Option Addr) (x2n x2c : Nat) : buildN Tryz.prog 107 [(0,.string x0),(1,.slice x1p x1n x1c),(2,.slice x2p x2n x2c)] = some [.string x0,.slice x1p x1n x1c,.slice x2p x2n x2c] := by kernel_rfl
theorem Fx.bld37_0 (x0 : ByteArray) : buildN Tryz.prog 37 [(0,.string x0)] = some [.string x0,.slice none 0 0,.slice none 0 0,.slice none 0 0] := by kernel_rfl
theorem Fx.bld89_0_1 (x0 : ByteArray) (x1 : Bool) : buildN Tryz.prog 89 [(0,.string x0),(1,.bool x1)] = some [.string x0,.bool x1] := by kernel_rfl
theorem Fx.bld92_0_1_2 (x0 : ByteArray) (x1 : ByteArray) (x2 : Int) : buildN Tryz.prog 92 [(0,.string x0),(1,.string x1),(2,.int .i64 x2)] = some [.string x0,.string x1,.int .i64 x2] := by kernel_rfl
theorem Fx.bld96_0 (x0 : ByteArray) : buildN Tryz.prog 96 [(0,.string x0)] = some [.string x0,.slice none 0 0,.slice none 0 0] := by kernel_rfl
theorem Fx.bsl101_1 (x00 x01 x02 : Value) : bslN Tryz.prog 101 1 [(0,.agg [x00,x01,x02].toArray)] = some (107,[x00,x01,x02]) := by kernel_rfl
theorem Fx.bsl33_1 (x00 x01 : Value) : bslN Tryz.prog 33 1 [(0,.agg [x00,x01].toArray)] = some (89,[x00,x01]) := by kernel_rfl
theorem Fx.bsl34_1 (x00 x01 x02 : Value) : bslN Tryz.prog 34 1 [(0,.agg [x00,x01,x02].toArray)] = some (92,[x00,x01,x02]) := by kernel_rfl
theorem Fx.bsl35_1 (x00 x01 x02 : Value) : bslN Tryz.prog 35 1 [(0,.agg [x00,x01,x02].toArray)] = some (96,[x00,x01,x02]) := by kernel_rfl
theorem Fx.bsl93_1 (x00 x01 x02 : Value) : bslN Tryz.prog 93 1 [(0,.agg [x00,x01,x02].toArray)] = some (100,[x00,x01,x02]) := by kernel_rfl
theorem Fx.bsl94_1 (x00 : Value) : bslN Tryz.prog 94 1 [(0,.agg [x00].toArray)] = some (103,[x00]) := by kernel_rfl
theorem Fx.call84 : callN Tryz.prog 84 = Bool.true := by kernel_rfl
theorem Fx.call85 : callN Tryz.prog 85 = Bool.true := by kernel_rfl
theorem Fx.call86 : callN Tryz.prog 86 = Bool.true := by kernel_rfl
theorem Fx.call102 : callN Tryz.prog 102 = Bool.true := by kernel_rfl
theorem Fx.call104 : callN Tryz.prog 104 = Bool.true := by kernel_rfl
def ixI {α : Type} (q : α → Bool) : List α → Int
 | [] => -1
 | a :: r => if q a then 0 else if ixI q r = -1 then -1 else ixI q r + 1
theorem ixI_ge {α : Type} (q : α → Bool) (l : List α) : -1 ≤ ixI q l := by
 induction l with
 | nil => exact Int.le_refl _
 | cons a r ih => unfold ixI;split;omega;split <;> omega
theorem ixI_any {α : Type} (q : α → Bool) (l : List α) : decide (ixI q l ≥ 0) = l.any q := by
 induction l with
 | nil => rfl
 | cons a r ih =>
  unfold ixI;rw [List.any_cons,← ih];have := ixI_ge q r;cases q a
  ·simp only [Bool.false_eq_true,if_false,Bool.false_or]
   split
   ·rename_i e;rw [e]
   ·rw [decide_eq_decide];omega
  ·simp
theorem ixI_none {α : Type} {q : α → Bool} {l : List α} (h : l.any q = false) : ixI q l = -1 := by
 have := ixI_any q l;have h2 := ixI_ge q l;rw [h,decide_eq_false_iff_not] at this;omega
theorem ixI_at {α : Type} {q : α → Bool} : ∀ {l : List α} {k : Nat} (h : k < l.length),(l.take k).any q = false → q l[k] = true → ixI q l = (k : Nat)
 | a :: r,0,h,_,hq => by
  unfold ixI;rw [if_pos (by simpa using hq)];rfl
 | a :: r,k + 1,h,ht,hq => by
  rw [List.take_succ_cons,List.any_cons,Bool.or_eq_false_iff] at ht;have ih := ixI_at (l := r) (k := k) (by simpa using h) ht.2 (by simpa using hq);unfold ixI;rw [ht.1,if_neg (by decide),ih,if_neg (by omega)];omega
theorem any_succ {α : Type} {q : α → Bool} {l : List α} {k : Nat} (h : k < l.length) : (l.take (k + 1)).any q = ((l.take k).any q || q l[k]) := by
 rw [take_snoc h,List.any_append];simp
theorem find_at {α : Type} {q : α → Bool} {l : List α} {k : Nat} (h : k < l.length) (ht : (l.take k).any q = false) (hq : q l[k] = true) : l.find? q = some l[k] := by
 rw [List.find?_eq_some_iff_getElem];refine ⟨hq,k,h,rfl,fun j hj => ?_⟩;rw [List.any_eq_false] at ht;have := ht l[j] (List.mem_take_iff_getElem.2 ⟨j,by omega,rfl⟩);simpa using this
theorem find_no {α : Type} {q : α → Bool} {l : List α} (h : l.any q = false) : l.find? q = none := by
 rw [List.any_eq_false] at h;exact List.find?_eq_none.2 h
set_option maxRecDepth 100000 in
theorem index_any (H : Hp) (l : List Str) (n : Str) (v : Value) (hs : Rep H (.seq 1 (l.map dStrL)) [v]) (w : World) (hA : Agr H w) :
 Calls Tryz.prog 104 #[v,strV n] w fun r w' => r = .returned (.int .i64 (ixI (fun x => decide (x = n)) l)) ∧ Ext w w' := by
 obtain ⟨p,c,e,_⟩ := hs.sl;simp only [List.cons.injEq,and_true,List.length_map] at e;subst e;have hcap := hs.cap;refine Sx.enter (H := H) Tryz.func104 rfl Tryz.ntmps104 rfl hA ?_;refine .sr<|.a Z Z<|.nt<|.sq<|.sr<|.m Z Z<|.yv (.lenSl Fx.sl54 Z) Z<|.m Z Z<|.nt<|.bk<|.lp (X := Nat) [(0,_),(1,_),(7,_)] ⟨rfl,rfl,rfl,trivial⟩ [] (fun k => [(8,.int .i64 (k : Nat))]) (fun k => H) (fun k => []) (fun k => k ≤ l.length ∧ (l.take k).any (fun x => decide (x = n)) = false) (fun k => l.length - k) 0 (fun _ s => s) ⟨rfl,trivial⟩ ⟨by omega,rfl⟩ fun k hC => ?_
 obtain ⟨hk0,hal⟩ := hC;refine .sr<|.yv (.lss Z Z) Z<|.nt<|.sq<|.cd Z (fun h9 => ?_) (fun h9 => ?_)
 ·try simp only [dt] at h9
  have hk : k < l.length := by omega
  obtain ⟨bE,oE,cE,hpE,rE,lE,mE⟩ := hs.elem (map_at (f := dStrL) hk);cases hpE;generalize hxE : l[k] = xE at rE;obtain rfl := strL_open rE;refine .sk<|.tN<|.sq<|.bk<|.sr<|.m Z Z<|.a Z Z<|.ns<|.m Z Z<|.m Z Z<|.m Z Z<|.yv (.indexSl Fx.sl54 Z Z Z (by omega) (q := oE + k * 1) Z) Z<|.yv (.loadM Z Fx.agg9 mE (k := 0) Z Z) Z<|.yv (.eqS Z Z) Z<|.nt<|.cd Z (fun h16 => ?_) (fun h16 => ?_)
  ·try simp only [dt] at h16
   refine .sr<|.m Z Z<|.a Z Z<|.nt<|.rt<|.bR<|.tR<|.tR<|.bR<|.tR<|?_
   refine Sx.ret1 (.inl rfl) rfl (.tmp rfl) fun W s => ⟨?_,s.ext⟩
   first
    | (rw [ixI_none hal])
    | (rw [ixI_at hk hal (by rw [hxE];exact decide_eq_true h16.symm)])
  try simp only [df] at h16
  exact .sk<|.bN<|.tN<|.rg<|.yv (.add Z Z (w6 (by omega))) Z<|.m Z Z<|.nt<|.ag (k + 1) ⟨rfl,trivial⟩ ⟨rfl,rfl,rfl,trivial⟩ (fun _ s => s) ⟨by omega,by rw [any_succ hk,hal,hxE,decide_eq_false (fun e => h16 e.symm)];rfl⟩ (by omega)
 try simp only [df] at h9
 obtain rfl : k = l.length := by omega
 rw [List.take_length] at hal;refine .ex<|.tE<|.tE<|.bE<|.tN<|.sr<|.a Z Z<|.nt<|.rt<|?_
 refine Sx.ret1 (.inl rfl) rfl (.tmp rfl) fun W s => ⟨?_,s.ext⟩
 first
  | (rw [ixI_none hal])
  | (rw [ixI_at hk hal (by rw [hxE];exact decide_eq_true h16.symm)])
set_option maxRecDepth 100000 in
theorem contains_any (H : Hp) (l : List Str) (n : Str) (v : Value) (hs : Rep H (.seq 1 (l.map dStrL)) [v]) (w : World) (hA : Agr H w) :
 Calls Tryz.prog 88 #[v,strV n] w fun r w' => r = .returned (.bool (hasB l n)) ∧ Ext w w' := by
 refine Sx.enter (H := H) Tryz.func88 rfl Tryz.ntmps88 rfl hA ?_;refine .sr<|.a Z Z<|.ns<|.m Z Z<|.m Z Z<|.yv (.call Fx.call104 Z (fun W s => index_any H l n v hs W s.agr)) Z<|.yv (.geq Z Z) Z<|.a Z Z<|.nt<|.rt<|?_
 refine Sx.ret1 (.inl rfl) rfl (.tmp rfl) fun W s => ⟨?_,s.ext⟩
 first
  | (rw [ixI_any];rfl)
set_option maxRecDepth 100000 in
theorem indexF_any (H : Hp) (gf : FuncId) (ca : List Value) (hgf : callN Tryz.prog gf = true) (q : Fg → Bool) (l : List Fg) (hq : ∀ a ∈ l,∀ (cs : List Value) (w : World),Rep H (dFg a) cs → Agr H w → Calls Tryz.prog gf ([Value.agg cs.toArray] ++ ca).toArray w fun r w' => r = .returned (.bool (q a)) ∧ Ext w w') (v : Value) (hs : Rep H (.seq 2 (l.map dFg)) [v]) (w : World) (hA : Agr H w) :
 Calls Tryz.prog 102 #[v,.func (.func gf) #[] ca.toArray] w fun r w' => r = .returned (.int .i64 (ixI q l)) ∧ Ext w w' := by
 obtain ⟨p,c,e,_⟩ := hs.sl;simp only [List.cons.injEq,and_true,List.length_map] at e;subst e;have hcap := hs.cap;refine Sx.enter (H := H) Tryz.func102 rfl Tryz.ntmps102 rfl hA ?_;refine .sr<|.a Z Z<|.nt<|.sq<|.sr<|.m Z Z<|.yv (.lenSl Fx.sl33 Z) Z<|.m Z Z<|.nt<|.bk<|.lp (X := Nat) [(0,_),(1,_),(7,_)] ⟨rfl,rfl,rfl,trivial⟩ [] (fun k => [(8,.int .i64 (k : Nat))]) (fun k => H) (fun k => []) (fun k => k ≤ l.length ∧ (l.take k).any q = false) (fun k => l.length - k) 0 (fun _ s => s) ⟨rfl,trivial⟩ ⟨by omega,rfl⟩ fun k hC => ?_
 obtain ⟨hk0,hal⟩ := hC;refine .sr<|.yv (.lss Z Z) Z<|.nt<|.sq<|.cd Z (fun h9 => ?_) (fun h9 => ?_)
 ·try simp only [dt] at h9
  have hk : k < l.length := by omega
  obtain ⟨bE,oE,cE,hpE,rE,lE,mE⟩ := hs.elem (map_at (f := dFg) hk);cases hpE;refine .sk<|.tN<|.sq<|.bk<|.sr<|.m Z Z<|.a Z Z<|.ns<|.m Z Z<|.m Z Z<|.m Z Z<|.yv (.indexSl Fx.sl33 Z Z Z (by omega) (q := oE + k * 2) Z) Z<|.yv (.loadMW Z Fx.agg89 mE lE) Z<|.yv (.callV (fi := []) (ca := ca) Z hgf Z (fun W s => hq _ (List.getElem_mem hk) cE W rE s.agr)) Z<|.nt<|.cd Z (fun h16 => ?_) (fun h16 => ?_)
  ·try simp only [dt] at h16
   refine .sr<|.m Z Z<|.a Z Z<|.nt<|.rt<|.bR<|.tR<|.tR<|.bR<|.tR<|?_
   refine Sx.ret1 (.inl rfl) rfl (.tmp rfl) fun W s => ⟨?_,s.ext⟩
   first
    | (rw [ixI_none hal])
    | (rw [ixI_at hk hal h16])
  try simp only [df] at h16
  exact .sk<|.bN<|.tN<|.rg<|.yv (.add Z Z (w6 (by omega))) Z<|.m Z Z<|.nt<|.ag (k + 1) ⟨rfl,trivial⟩ ⟨rfl,rfl,rfl,trivial⟩ (fun _ s => s) ⟨by omega,by rw [any_succ hk,hal,h16];rfl⟩ (by omega)
 try simp only [df] at h9
 obtain rfl : k = l.length := by omega
 rw [List.take_length] at hal;refine .ex<|.tE<|.tE<|.bE<|.tN<|.sr<|.a Z Z<|.nt<|.rt<|?_
 refine Sx.ret1 (.inl rfl) rfl (.tmp rfl) fun W s => ⟨?_,s.ext⟩
 first
  | (rw [ixI_none hal])
  | (rw [ixI_at hk hal h16])
set_option maxRecDepth 100000 in
theorem containsF_any (H : Hp) (gf : FuncId) (ca : List Value) (hgf : callN Tryz.prog gf = true) (q : Fg → Bool) (l : List Fg) (hq : ∀ a ∈ l,∀ (cs : List Value) (w : World),Rep H (dFg a) cs → Agr H w → Calls Tryz.prog gf ([Value.agg cs.toArray] ++ ca).toArray w fun r w' => r = .returned (.bool (q a)) ∧ Ext w w') (v : Value) (hs : Rep H (.seq 2 (l.map dFg)) [v]) (w : World) (hA : Agr H w) :
 Calls Tryz.prog 84 #[v,.func (.func gf) #[] ca.toArray] w fun r w' => r = .returned (.bool (l.any q)) ∧ Ext w w' := by
 refine Sx.enter (H := H) Tryz.func84 rfl Tryz.ntmps84 rfl hA ?_;refine .sr<|.a Z Z<|.ns<|.m Z Z<|.m Z Z<|.yv (.call Fx.call102 Z (fun W s => indexF_any H gf ca hgf q l hq v hs W s.agr)) Z<|.yv (.geq Z Z) Z<|.a Z Z<|.nt<|.rt<|?_
 refine Sx.ret1 (.inl rfl) rfl (.tmp rfl) fun W s => ⟨?_,s.ext⟩
 first
  | (rw [ixI_any])
set_option maxRecDepth 100000 in
theorem indexL_any (H : Hp) (gf : FuncId) (ca : List Value) (hgf : callN Tryz.prog gf = true) (q : Lk → Bool) (l : List Lk) (hq : ∀ a ∈ l,∀ (cs : List Value) (w : World),Rep H (dLk a) cs → Agr H w → Calls Tryz.prog gf ([Value.agg cs.toArray] ++ ca).toArray w fun r w' => r = .returned (.bool (q a)) ∧ Ext w w') (v : Value) (hs : Rep H (.seq 3 (l.map dLk)) [v]) (w : World) (hA : Agr H w) :
 Calls Tryz.prog 86 #[v,.func (.func gf) #[] ca.toArray] w fun r w' => r = .returned (.int .i64 (ixI q l)) ∧ Ext w w' := by
 obtain ⟨p,c,e,_⟩ := hs.sl;simp only [List.cons.injEq,and_true,List.length_map] at e;subst e;have hcap := hs.cap;refine Sx.enter (H := H) Tryz.func86 rfl Tryz.ntmps86 rfl hA ?_;refine .sr<|.a Z Z<|.nt<|.sq<|.sr<|.m Z Z<|.yv (.lenSl Fx.sl34 Z) Z<|.m Z Z<|.nt<|.bk<|.lp (X := Nat) [(0,_),(1,_),(7,_)] ⟨rfl,rfl,rfl,trivial⟩ [] (fun k => [(8,.int .i64 (k : Nat))]) (fun k => H) (fun k => []) (fun k => k ≤ l.length ∧ (l.take k).any q = false) (fun k => l.length - k) 0 (fun _ s => s) ⟨rfl,trivial⟩ ⟨by omega,rfl⟩ fun k hC => ?_
 obtain ⟨hk0,hal⟩ := hC;refine .sr<|.yv (.lss Z Z) Z<|.nt<|.sq<|.cd Z (fun h9 => ?_) (fun h9 => ?_)
 ·try simp only [dt] at h9
  have hk : k < l.length := by omega
  obtain ⟨bE,oE,cE,hpE,rE,lE,mE⟩ := hs.elem (map_at (f := dLk) hk);cases hpE;refine .sk<|.tN<|.sq<|.bk<|.sr<|.m Z Z<|.a Z Z<|.ns<|.m Z Z<|.m Z Z<|.m Z Z<|.yv (.indexSl Fx.sl34 Z Z Z (by omega) (q := oE + k * 3) Z) Z<|.yv (.loadMW Z Fx.agg92 mE lE) Z<|.yv (.callV (fi := []) (ca := ca) Z hgf Z (fun W s => hq _ (List.getElem_mem hk) cE W rE s.agr)) Z<|.nt<|.cd Z (fun h16 => ?_) (fun h16 => ?_)
  ·try simp only [dt] at h16
   refine .sr<|.m Z Z<|.a Z Z<|.nt<|.rt<|.bR<|.tR<|.tR<|.bR<|.tR<|?_
   refine Sx.ret1 (.inl rfl) rfl (.tmp rfl) fun W s => ⟨?_,s.ext⟩
   first
    | (rw [ixI_none hal])
    | (rw [ixI_at hk hal h16])
  try simp only [df] at h16
  exact .sk<|.bN<|.tN<|.rg<|.yv (.add Z Z (w6 (by omega))) Z<|.m Z Z<|.nt<|.ag (k + 1) ⟨rfl,trivial⟩ ⟨rfl,rfl,rfl,trivial⟩ (fun _ s => s) ⟨by omega,by rw [any_succ hk,hal,h16];rfl⟩ (by omega)
 try simp only [df] at h9
 obtain rfl : k = l.length := by omega
 rw [List.take_length] at hal;refine .ex<|.tE<|.tE<|.bE<|.tN<|.sr<|.a Z Z<|.nt<|.rt<|?_
 refine Sx.ret1 (.inl rfl) rfl (.tmp rfl) fun W s => ⟨?_,s.ext⟩
 first
  | (rw [ixI_none hal])
  | (rw [ixI_at hk hal h16])
set_option maxRecDepth 100000 in
theorem containsL_any (H : Hp) (gf : FuncId) (ca : List Value) (hgf : callN Tryz.prog gf = true) (q : Lk → Bool) (l : List Lk) (hq : ∀ a ∈ l,∀ (cs : List Value) (w : World),Rep H (dLk a) cs → Agr H w → Calls Tryz.prog gf ([Value.agg cs.toArray] ++ ca).toArray w fun r w' => r = .returned (.bool (q a)) ∧ Ext w w') (v : Value) (hs : Rep H (.seq 3 (l.map dLk)) [v]) (w : World) (hA : Agr H w) :
 Calls Tryz.prog 57 #[v,.func (.func gf) #[] ca.toArray] w fun r w' => r = .returned (.bool (l.any q)) ∧ Ext w w' := by
 refine Sx.enter (H := H) Tryz.func57 rfl Tryz.ntmps57 rfl hA ?_;refine .sr<|.a Z Z<|.ns<|.m Z Z<|.m Z Z<|.yv (.call Fx.call86 Z (fun W s => indexL_any H gf ca hgf q l hq v hs W s.agr)) Z<|.yv (.geq Z Z) Z<|.a Z Z<|.nt<|.rt<|?_
 refine Sx.ret1 (.inl rfl) rfl (.tmp rfl) fun W s => ⟨?_,s.ext⟩
 first
  | (rw [ixI_any])
set_option maxRecDepth 100000 in
theorem flag1_any (H : Hp) (x : Fg) (n : Str) (b : Nat) (hm : MemAt H b 0 [strV n]) (cs : List Value) (w : World) (h : Rep H (dFg x) cs) (hA : Agr H w) :
 Calls Tryz.prog 85 #[.agg cs.toArray,.pointer (some ⟨b,0,none⟩)] w fun r w' => r = .returned (.bool (decide (x.nm = n))) ∧ Ext w w' := by
 obtain ⟨rfl,_⟩ := fg_open h;refine Sx.enter (H := H) Tryz.func85 rfl Tryz.ntmps85 rfl hA ?_;refine .sr<|.bx Z Z Z fun b2 => .a Z Z<|.ns<|.yv (.fieldAddr Z Fx.field89_0) Z<|.yv (.load Z Fx.agg9 (.head _) Z) Z<|.yv (.loadM Z Fx.agg9 hm (k := 0) Z Z) Z<|.yv (.eqS Z Z) Z<|.a Z Z<|.nt<|.rt<|?_
 refine Sx.ret1 (.inl rfl) rfl (.tmp rfl) fun W s => ⟨?_,s.ext⟩
 first
  | (rfl)
set_option maxRecDepth 100000 in
theorem flag_any (H : Hp) (l : List Fg) (n : Str) (v : Value) (hs : Rep H (.seq 2 (l.map dFg)) [v]) (w : World) (hA : Agr H w) :
 Calls Tryz.prog 54 #[v,strV n] w fun r w' => r = .returned (.bool (flagB l n)) ∧ Ext w w' := by
 refine Sx.enter (H := H) Tryz.func54 rfl Tryz.ntmps54 rfl hA ?_;refine .sr<|.bx Z Z Z fun b3 => ?_
 refine Sx.freezeBox fun H1 u1 m1 => ?_;refine .a Z Z<|.ns<|.m Z Z<|.yv (.mkF Z Z) Z<|.yv (.call Fx.call84 Z (fun W s => containsF_any H1 85 [_] Fx.call85 (fun x => decide (x.nm = n)) l (fun a _ cs w h hA => flag1_any H1 a n _ m1 cs w h hA) v (hs.up u1.up) W s.agr)) Z<|.a Z Z<|.nt<|.rt<|?_
 exact Sx.ret1 (.inl rfl) rfl (.tmp rfl) fun W s => ⟨rfl,(u1.grow s).ext⟩
theorem Fx.bld100  : buildN Tryz.prog 100 [] = some [.string ⟨#[]⟩,.int .u8 0,.int .i64 0] := by kernel_rfl
theorem Fx.bld96  : buildN Tryz.prog 96 [] = some [.string ⟨#[]⟩,.slice none 0 0,.slice none 0 0] := by kernel_rfl
def atI (cf : Nat → List Value) (z : List Value) (i : Int) : List Value := if i = -1 then z else cf i.toNat
theorem atI_at (cf : Nat → List Value) (z : List Value) (k : Nat) : atI cf z (k : Nat) = cf k := by
 unfold atI;rw [if_neg (by omega)];rfl
theorem find_ix {α : Type} {q : α → Bool} {l : List α} {a : α} (h : l.find? q = some a) : ∃ (k : Nat) (hk : k < l.length),ixI q l = (k : Nat) ∧ l[k] = a ∧ (l.take k).any q = false := by
 rw [List.find?_eq_some_iff_getElem] at h;obtain ⟨hq,k,hk,e,hn⟩ := h
 have ht : (l.take k).any q = false := by
  rw [List.any_eq_false];intro x hx;obtain ⟨j,hj,rfl⟩ := List.mem_take_iff_getElem.1 hx;have := hn j (by omega);simpa using this
 exact ⟨k,hk,ixI_at hk ht (by rw [e];exact hq),e,ht⟩
def zVr : List Value := [.string ⟨#[]⟩,.int .u8 0,.int .i64 0]
def zCp : List Value := [.string ⟨#[]⟩,.slice none 0 0,.slice none 0 0]
set_option maxRecDepth 100000 in
theorem variable_any (H : Hp) (l : List Vr) (n : Str) (p : Option Addr) (m c : Nat) (hs : Rep H (.seq 3 (l.map (dVr .u8))) [.slice p m c]) :
 ∃ x : List Value,(match l.find? (fun x => decide (x.nm = n)) with | some a => Rep H ((dVr .u8) a) x | none => x = zVr) ∧ ∀ w,Agr H w →
  Calls Tryz.prog 58 #[.slice p m c,strV n] w fun r w' => r = .returned (.tuple #[.agg x.toArray,.bool (l.find? (fun x => decide (x.nm = n))).isSome]) ∧ Ext w w' := by
 obtain ⟨cf,hcf⟩ := hs.cells;refine ⟨atI cf zVr (ixI (fun x => decide (x.nm = n)) l),?_,fun w hA => ?_⟩
 ·cases e : l.find? (fun x => decide (x.nm = n)) with
  | none =>
   have := List.find?_eq_none.1 e;rw [ixI_none (by rw [List.any_eq_false];exact this)];rfl
  | some a =>
   obtain ⟨k,hk,h1,h2,_⟩ := find_ix e;rw [h1,atI_at];obtain ⟨b,o,h3,h4,_⟩ := hcf k _ (map_at (f := (dVr .u8)) hk);rw [h2] at h4;exact h4
 obtain rfl : m = l.length := by have := hs.len.1;simpa using this
 have hcap := hs.cap;refine Sx.enter (H := H) Tryz.func58 rfl Tryz.ntmps58 rfl hA ?_;refine .sr<|.al Fx.zero100 Z fun b4 => .a Z Z<|.nt<|.sq<|.sr<|.m Z Z<|.yv (.lenSl Fx.sl93 Z) Z<|.m Z Z<|.nt<|.bk<|.lp (X := Nat) [(1,_),(4,_),(8,_),(9,_)] ⟨rfl,rfl,rfl,rfl,trivial⟩ [_] (fun k => [(10,.int .i64 (k : Nat))]) (fun k => H) (fun k => []) (fun k => k ≤ l.length ∧ (l.take k).any (fun x => decide (x.nm = n)) = false) (fun k => l.length - k) 0 (fun _ s => s) ⟨rfl,trivial⟩ ⟨by omega,rfl⟩ fun k hC => ?_
 obtain ⟨hk0,hal⟩ := hC;refine .sr<|.yv (.lss Z Z) Z<|.nt<|.sq<|.cd Z (fun h11 => ?_) (fun h11 => ?_)
 ·try simp only [dt] at h11
  have hk : k < l.length := by omega
  obtain ⟨bE,oE,hpE,rE,lE,mE⟩ := hcf k _ (map_at (f := (dVr .u8)) hk);cases hpE;generalize hcE : cf k = cE at rE lE mE;generalize hxE : l[k] = xE at rE;obtain ⟨rfl,_⟩ := vr_open rE;refine .sk<|.tN<|.sq<|.bk<|.sr<|.yv (.indexSl Fx.sl93 Z Z Z (by omega) (q := oE + k * 3) Z) Z<|.yv (.loadMW Z Fx.agg100 mE Z) Z<|.al Fx.zero100 Z fun b7 => .sW .head Z Z Fx.size100 (by simp [Value.oneCell',strV]) Z<|.ns<|.yv (.fieldAddr Z Fx.field100_0) Z<|.yv (.load Z Fx.agg9 (.head _) Z) Z<|.m Z Z<|.yv (.eqS Z Z) Z<|.nt<|.cd Z (fun h17 => ?_) (fun h17 => ?_)
  ·try simp only [dt] at h17
   refine .sr<|.yv (.loadW Z Fx.agg100 (.head _) Z) Z<|.sW (.tail<|.head) Z Z Fx.size100 (by simp [Value.oneCell',strV]) Z<|.a Z Z<|.nt<|.rt<|.bR<|.tR<|.tR<|.bR<|.tR<|?_
   refine Sx.retN (.inl rfl) rfl (.cons (.cell rfl Fx.agg100 (.tail _<|.head _) rfl) (.cons (.tmp rfl) .nil)) rfl fun W s => ⟨?_,s.ext⟩
   first
    | (rw [ixI_at hk hal (by rw [hxE];exact decide_eq_true h17),atI_at,hcE,find_at (q := fun x : Vr => decide (x.nm = n)) hk hal (by rw [hxE];exact decide_eq_true h17)];rfl)
    | (rw [ixI_none hal,find_no (q := fun x : Vr => decide (x.nm = n)) hal];rfl)
  try simp only [df] at h17
  exact .sk<|.bN<|.tN<|.rg<|.yv (.add Z Z (w6 (by omega))) Z<|.m Z Z<|.nt<|.ag (k + 1) ⟨rfl,trivial⟩ ⟨rfl,rfl,rfl,rfl,trivial⟩ (fun _ s => s.pick [1] [_] Z Z) ⟨by omega,by rw [any_succ hk,hal,hxE,decide_eq_false h17];rfl⟩ (by omega)
 try simp only [df] at h11
 obtain rfl : k = l.length := by omega
 rw [List.take_length] at hal;refine .ex<|.tE<|.tE<|.bE<|.tN<|.sr<|.yv (.build Z Fx.bld100) Z<|.sW .head Z Z Fx.size100 (by simp [Value.oneCell',strV]) Z<|.a Z Z<|.nt<|.rt<|?_
 refine Sx.retN (.inl rfl) rfl (.cons (.cell rfl Fx.agg100 (.head _) rfl) (.cons (.tmp rfl) .nil)) rfl fun W s => ⟨?_,s.ext⟩
 first
  | (rw [ixI_at hk hal (by rw [hxE];exact decide_eq_true h17),atI_at,hcE,find_at (q := fun x : Vr => decide (x.nm = n)) hk hal (by rw [hxE];exact decide_eq_true h17)];rfl)
  | (rw [ixI_none hal,find_no (q := fun x : Vr => decide (x.nm = n)) hal];rfl)
set_option maxRecDepth 100000 in
theorem component_any (H : Hp) (l : List Cp) (n : Str) (p : Option Addr) (m c : Nat) (hs : Rep H (.seq 3 (l.map (dCp .u8))) [.slice p m c]) :
 ∃ x : List Value,(match l.find? (fun x => decide (x.nm = n)) with | some a => Rep H ((dCp .u8) a) x | none => x = zCp) ∧ ∀ w,Agr H w →
  Calls Tryz.prog 55 #[.slice p m c,strV n] w fun r w' => r = .returned (.tuple #[.agg x.toArray,.bool (l.find? (fun x => decide (x.nm = n))).isSome]) ∧ Ext w w' := by
 obtain ⟨cf,hcf⟩ := hs.cells;refine ⟨atI cf zCp (ixI (fun x => decide (x.nm = n)) l),?_,fun w hA => ?_⟩
 ·cases e : l.find? (fun x => decide (x.nm = n)) with
  | none =>
   have := List.find?_eq_none.1 e;rw [ixI_none (by rw [List.any_eq_false];exact this)];rfl
  | some a =>
   obtain ⟨k,hk,h1,h2,_⟩ := find_ix e;rw [h1,atI_at];obtain ⟨b,o,h3,h4,_⟩ := hcf k _ (map_at (f := (dCp .u8)) hk);rw [h2] at h4;exact h4
 obtain rfl : m = l.length := by have := hs.len.1;simpa using this
 have hcap := hs.cap;refine Sx.enter (H := H) Tryz.func55 rfl Tryz.ntmps55 rfl hA ?_;refine .sr<|.al Fx.zero96 Z fun b4 => .a Z Z<|.nt<|.sq<|.sr<|.m Z Z<|.yv (.lenSl Fx.sl35 Z) Z<|.m Z Z<|.nt<|.bk<|.lp (X := Nat) [(1,_),(4,_),(8,_),(9,_)] ⟨rfl,rfl,rfl,rfl,trivial⟩ [_] (fun k => [(10,.int .i64 (k : Nat))]) (fun k => H) (fun k => []) (fun k => k ≤ l.length ∧ (l.take k).any (fun x => decide (x.nm = n)) = false) (fun k => l.length - k) 0 (fun _ s => s) ⟨rfl,trivial⟩ ⟨by omega,rfl⟩ fun k hC => ?_
 obtain ⟨hk0,hal⟩ := hC;refine .sr<|.yv (.lss Z Z) Z<|.nt<|.sq<|.cd Z (fun h11 => ?_) (fun h11 => ?_)
 ·try simp only [dt] at h11
  have hk : k < l.length := by omega
  obtain ⟨bE,oE,hpE,rE,lE,mE⟩ := hcf k _ (map_at (f := (dCp .u8)) hk);cases hpE;generalize hcE : cf k = cE at rE lE mE;generalize hxE : l[k] = xE at rE;obtain ⟨q1,d1,q2,d2,rfl,_,_,_⟩ := cp_open rE;refine .sk<|.tN<|.sq<|.bk<|.sr<|.yv (.indexSl Fx.sl35 Z Z Z (by omega) (q := oE + k * 3) Z) Z<|.yv (.loadMW Z Fx.agg96 mE Z) Z<|.al Fx.zero96 Z fun b7 => .sW .head Z Z Fx.size96 (by simp [Value.oneCell',strV]) Z<|.ns<|.yv (.fieldAddr Z Fx.field96_0) Z<|.yv (.load Z Fx.agg9 (.head _) Z) Z<|.m Z Z<|.yv (.eqS Z Z) Z<|.nt<|.cd Z (fun h17 => ?_) (fun h17 => ?_)
  ·try simp only [dt] at h17
   refine .sr<|.yv (.loadW Z Fx.agg96 (.head _) Z) Z<|.sW (.tail<|.head) Z Z Fx.size96 (by simp [Value.oneCell',strV]) Z<|.a Z Z<|.nt<|.rt<|.bR<|.tR<|.tR<|.bR<|.tR<|?_
   refine Sx.retN (.inl rfl) rfl (.cons (.cell rfl Fx.agg96 (.tail _<|.head _) rfl) (.cons (.tmp rfl) .nil)) rfl fun W s => ⟨?_,s.ext⟩
   first
    | (rw [ixI_at hk hal (by rw [hxE];exact decide_eq_true h17),atI_at,hcE,find_at (q := fun x : Cp => decide (x.nm = n)) hk hal (by rw [hxE];exact decide_eq_true h17)];rfl)
    | (rw [ixI_none hal,find_no (q := fun x : Cp => decide (x.nm = n)) hal];rfl)
  try simp only [df] at h17
  exact .sk<|.bN<|.tN<|.rg<|.yv (.add Z Z (w6 (by omega))) Z<|.m Z Z<|.nt<|.ag (k + 1) ⟨rfl,trivial⟩ ⟨rfl,rfl,rfl,rfl,trivial⟩ (fun _ s => s.pick [1] [_] Z Z) ⟨by omega,by rw [any_succ hk,hal,hxE,decide_eq_false h17];rfl⟩ (by omega)
 try simp only [df] at h11
 obtain rfl : k = l.length := by omega
 rw [List.take_length] at hal;refine .ex<|.tE<|.tE<|.bE<|.tN<|.sr<|.yv (.build Z Fx.bld96) Z<|.sW .head Z Z Fx.size96 (by simp [Value.oneCell',strV]) Z<|.a Z Z<|.nt<|.rt<|?_
 refine Sx.retN (.inl rfl) rfl (.cons (.cell rfl Fx.agg96 (.head _) rfl) (.cons (.tmp rfl) .nil)) rfl fun W s => ⟨?_,s.ext⟩
 first
  | (rw [ixI_at hk hal (by rw [hxE];exact decide_eq_true h17),atI_at,hcE,find_at (q := fun x : Cp => decide (x.nm = n)) hk hal (by rw [hxE];exact decide_eq_true h17)];rfl)
  | (rw [ixI_none hal,find_no (q := fun x : Cp => decide (x.nm = n)) hal];rfl)
theorem Fx.agg39 : aggN Tryz.prog 39 = Option.some Option.none := by kernel_rfl
theorem Fx.call25 : callN Tryz.prog 25 = Bool.true := by kernel_rfl
theorem Fx.field41_2 : fieldN Tryz.prog 41 2 = Option.some 2 := by kernel_rfl
theorem Fx.field110_1 : fieldN Tryz.prog 110 1 = Option.some 4 := by kernel_rfl
theorem Fx.field110_2 : fieldN Tryz.prog 110 2 = Option.some 5 := by kernel_rfl
theorem Fx.size9 : sizeN Tryz.prog 9 = Option.some 1 := by kernel_rfl
theorem Fx.size41 : sizeN Tryz.prog 41 = Option.some 3 := by kernel_rfl
theorem Fx.bld41_0_1_2 (x0 : ByteArray) (x1 : ByteArray) (x2 : Int) : buildN Tryz.prog 41 [(0,.string x0),(1,.string x1),(2,.int .i64 x2)] = some [.string x0,.string x1,.int .i64 x2] := by kernel_rfl
def repP (P : Pb) (wh n : Str) (cd : Nat) : Pb := frsP P (if cd = 0 then [] else [⟨wh,n,cd⟩])
def unlP (P : Pb) (wh n : Str) (cd : Nat) (g : Bool) : Pb := frsP P (rpIf (!g) wh n cd)
theorem repP_keep {P : Pb} (h : P.er ≠ 0) (wh n : Str) (cd : Nat) : repP P wh n cd = P := frsP_keep h _
theorem repP_zero {P : Pb} (h : PbOk P) (wh n : Str) : repP P wh n 0 = P := frsP_nil h
theorem repP_new {P : Pb} (h : P.er = 0) {cd : Nat} (hc : cd ≠ 0) (wh n : Str) : repP P wh n cd = ⟨wh,n,cd⟩ := by rw [repP,if_neg hc,frsP_one h]
theorem unlP_true (P : Pb) (wh n : Str) (cd : Nat) : unlP P wh n cd true = repP P wh n 0 := rfl
theorem unlP_false (P : Pb) (wh n : Str) {cd : Nat} (h : cd ≠ 0) : unlP P wh n cd false = repP P wh n cd := by rw [repP,if_neg h];rfl
theorem dec_er (P : Pb) : decide (P.er = 0) = decide ((P.er : Int) = 0) := by rw [decide_eq_decide];omega
set_option maxRecDepth 100000 in
theorem report_st {H : Hp} {w0 W : World} {bs : List Res} {b : Nat} {c0 c1 c2 c3 : Value} {wh : Str} {P : Pb} (cd : Nat) (n : Str) (hP : PbOk P) (s : St H w0 (.box b [c0,c1,c2,c3,strV wh,strV P.wh,strV P.nm,.int .i64 (P.er : Nat)] 110 :: bs) W) :
 Calls Tryz.prog 25 #[.pointer (some ⟨b,0,none⟩),.int .i64 (cd : Nat),strV n] W fun e W' => ∃ _ : Unit,True ∧ e = .returned (.bool (decide ((repP P wh n cd).er = 0))) ∧ St H w0 (.box b [c0,c1,c2,c3,strV wh,strV (repP P wh n cd).wh,strV (repP P wh n cd).nm,.int .i64 ((repP P wh n cd).er : Nat)] 110 :: bs) W' := by
 refine Sx.enterS Tryz.func25 rfl Tryz.ntmps25 rfl s ?_;refine .sr<|.a Z Z<|.nt<|.sq<|.sr<|.m Z Z<|.yv (.nilCheck Z) Z<|.yv (.fieldAddr Z Fx.field110_2) Z<|.yv (.fieldAddr Z Fx.field41_2) Z<|.yv (.load Z Fx.agg39 (.head _) Z) Z<|.yv (.eql Z Z) Z<|.m Z Z<|.b2 (fun h13 => ?_) (fun h13 => ?_)
 ·try simp only [dt] at h13
  have h0 : P.er = 0 := by omega
  refine .gd Z Z<|.yv (.move Z) Z<|.gd Z Z<|.yv (.neq Z Z) Z<|.yv (.pickT Z Z) Z<|.nt<|.cd Z (fun h16 => ?_) (fun h16 => ?_)
  ·try simp only [dt] at h16
   have h1 : cd ≠ 0 := by omega
   have eP := repP_new h0 h1 wh n;refine .rg<|.m Z Z<|.m Z Z<|.yv (.nilCheck Z) Z<|.yv (.fieldAddr Z Fx.field110_1) Z<|.yv (.load Z Fx.agg9 (.head _) Z) Z<|.m Z Z<|.m Z Z<|.yv (.build Z (Fx.bld41_0_1_2 _ _ _)) Z<|.yv (.nilCheck Z) Z<|.yv (.fieldAddr Z Fx.field110_2) Z<|.sP .head Z Z Fx.size41 (by simp [Value.oneCell',strV]) (nb Z) Z<|.ns<|.m Z Z<|.yv (.nilCheck Z) Z<|.yv (.fieldAddr Z Fx.field110_2) Z<|.yv (.fieldAddr Z Fx.field41_2) Z<|.yv (.load Z Fx.agg39 (.head _) Z) Z<|.yv (.eql Z Z) Z<|.a Z Z<|.nt<|.rt<|?_
   refine Sx.ret1 (.inl rfl) rfl (.tmp rfl) fun W s => ⟨(),trivial,?_,?_⟩
   ·rw [dec_er,eP]
   ·rw [eP];exact s
  try simp only [df] at h16
  obtain rfl : cd = 0 := by omega
  have eP := repP_zero hP wh n;refine .sk<|.tN<|.sr<|.m Z Z<|.yv (.nilCheck Z) Z<|.yv (.fieldAddr Z Fx.field110_2) Z<|.yv (.fieldAddr Z Fx.field41_2) Z<|.yv (.load Z Fx.agg39 (.head _) Z) Z<|.yv (.eql Z Z) Z<|.a Z Z<|.nt<|.rt<|?_
  refine Sx.ret1 (.inl rfl) rfl (.tmp rfl) fun W s => ⟨(),trivial,?_,?_⟩
  ·rw [dec_er,eP]
  ·rw [eP];exact s
 try simp only [df] at h13
 have h0 : P.er ≠ 0 := by omega
 have eP := repP_keep h0 wh n cd;refine .gF Z Z Z Z<|.gF Z Z Z Z<|.yv (.pickF Z Z) Z<|.nt<|.cF Z<|.sk<|.tN<|.sr<|.m Z Z<|.yv (.nilCheck Z) Z<|.yv (.fieldAddr Z Fx.field110_2) Z<|.yv (.fieldAddr Z Fx.field41_2) Z<|.yv (.load Z Fx.agg39 (.head _) Z) Z<|.yv (.eql Z Z) Z<|.a Z Z<|.nt<|.rt<|?_
 refine Sx.ret1 (.inl rfl) rfl (.tmp rfl) fun W s => ⟨(),trivial,?_,?_⟩
 ·rw [dec_er,eP]
 ·rw [eP];exact s
set_option maxRecDepth 100000 in
theorem unless_st {H : Hp} {w0 W : World} {bs : List Res} {b : Nat} {c0 c1 c2 c3 : Value} {wh : Str} {P : Pb} (g : Bool) (cd : Nat) (n : Str) (hP : PbOk P) (hc : cd ≠ 0) (s : St H w0 (.box b [c0,c1,c2,c3,strV wh,strV P.wh,strV P.nm,.int .i64 (P.er : Nat)] 110 :: bs) W) :
 Calls Tryz.prog 53 #[.pointer (some ⟨b,0,none⟩),.bool g,.int .i64 (cd : Nat),strV n] W fun e W' => ∃ _ : Unit,True ∧ e = .returned (.bool (decide ((unlP P wh n cd g).er = 0))) ∧ St H w0 (.box b [c0,c1,c2,c3,strV wh,strV (unlP P wh n cd g).wh,strV (unlP P wh n cd g).nm,.int .i64 ((unlP P wh n cd g).er : Nat)] 110 :: bs) W' := by
 cases g
 ·rw [unlP_false P wh n hc];refine Sx.enterS Tryz.func53 rfl Tryz.ntmps53 rfl s ?_;refine .sr<|.a Z Z<|.nt<|.sq<|.sr<|.m Z Z<|.nt<|.cF Z<|.sk<|.tN<|.sr<|.m Z Z<|.m Z Z<|.m Z Z<|.cs (X := Unit) Fx.call25 Z (fun W s => report_st cd n hP s) Z fun _ _ => .a Z Z<|.nt<|.rt<|?_
  exact Sx.ret1 (.inl rfl) rfl (.tmp rfl) fun W s => ⟨(),trivial,rfl,s⟩
 ·rw [unlP_true];refine Sx.enterS Tryz.func53 rfl Tryz.ntmps53 rfl s ?_;refine .sr<|.a Z Z<|.nt<|.sq<|.sr<|.m Z Z<|.nt<|.cT Z<|.rg<|.a Z Z<|.ns<|.m Z Z<|.m Z Z<|.m Z Z<|.cs (X := Unit) Fx.call25 Z (fun W s => report_st 0 n hP s) Z fun _ _ => .a Z Z<|.nt<|.rt<|?_
  exact Sx.ret1 (.inl rfl) rfl (.tmp rfl) fun W s => ⟨(),trivial,rfl,s⟩
set_option maxRecDepth 100000 in
theorem at_st {H : Hp} {w0 W : World} {bs : List Res} {b : Nat} {c0 c1 c2 c3 : Value} {wh : Str} {P : Pb} (n : Str) (s : St H w0 (.box b [c0,c1,c2,c3,strV wh,strV P.wh,strV P.nm,.int .i64 (P.er : Nat)] 110 :: bs) W) :
 Calls Tryz.prog 52 #[.pointer (some ⟨b,0,none⟩),strV n] W fun e W' => ∃ _ : Unit,True ∧ e = .returned (.bool (decide (P.er = 0))) ∧ St H w0 (.box b [c0,c1,c2,c3,strV n,strV P.wh,strV P.nm,.int .i64 (P.er : Nat)] 110 :: bs) W' := by
 refine Sx.enterS Tryz.func52 rfl Tryz.ntmps52 rfl s ?_;refine .sr<|.a Z Z<|.ns<|.m Z Z<|.m Z Z<|.yv (.nilCheck Z) Z<|.yv (.fieldAddr Z Fx.field110_1) Z<|.st .head Z Z Fx.size9 Z (nb Z) Z<|.ns<|.m Z Z<|.yv (.nilCheck Z) Z<|.yv (.fieldAddr Z Fx.field110_2) Z<|.yv (.fieldAddr Z Fx.field41_2) Z<|.yv (.load Z Fx.agg39 (.head _) Z) Z<|.yv (.eql Z Z) Z<|.a Z Z<|.nt<|.rt<|?_
 refine Sx.ret1 (.inl rfl) rfl (.tmp rfl) fun W s => ⟨(),trivial,?_,s⟩;rw [dec_er]
theorem Fx.call52 : callN Tryz.prog 52 = Bool.true := by kernel_rfl
theorem Fx.call53 : callN Tryz.prog 53 = Bool.true := by kernel_rfl
theorem Fx.call54 : callN Tryz.prog 54 = Bool.true := by kernel_rfl
theorem Fx.field110_0 : fieldN Tryz.prog 110 0 = Option.some 0 := by kernel_rfl
theorem frs_done {f : Nat → List Pb} (hf : ∀ i,NzP (f i)) {P : Pb} {k n : Nat} (hk : k ≤ n) (h : (frsP P ((List.range k).flatMap f)).er ≠ 0) : frsP P ((List.range n).flatMap f) = frsP P ((List.range k).flatMap f) := by
 induction n with
 | zero => rw [show k = 0 by omega]
 | succ n ih =>
  by_cases e : k = n + 1
  ·rw [e]
  ·rw [flat_succ',← frsP_app (.flat hf),ih (by omega),frsP_keep h]
theorem flg1_at {f : Ft} {k : Nat} {x : Fg} (hk : k < f.flags.length) (hx : f.flags[k] = x) : flg1 f k = rpIf (flagB (f.flags.take k) x.nm) ([102,108,97,103,32] ++ x.nm) x.nm 5 := by
 unfold flg1;rw [List.getElem?_eq_getElem hk,hx]
set_option maxRecDepth 100000 in
theorem flags_st {H : Hp} {w0 W : World} {bs : List Res} {b : Nat} {f : Ft} {p1 p2 p3 : Option Addr} {c1 c2 c3 : Nat} {wh : Str} {P : Pb} (hP : PbOk P) (h1 : Rep H (.seq 2 (f.flags.map dFg)) [.slice p1 f.flags.length c1]) (h2 : Rep H (.seq 3 (f.links.map dLk)) [.slice p2 f.links.length c2]) (h3 : Rep H (.seq 3 (f.comps.map (dCp .u8))) [.slice p3 f.comps.length c3]) (s : St H w0 (.box b [strV f.nm,.slice p1 f.flags.length c1,.slice p2 f.links.length c2,.slice p3 f.comps.length c3,strV wh,strV P.wh,strV P.nm,.int .i64 (P.er : Nat)] 110 :: bs) W) :
 Calls Tryz.prog 26 #[.pointer (some ⟨b,0,none⟩)] W fun e W' => ∃ wh' : Str,True ∧ e = .returned (.tuple #[]) ∧ St H w0 (.box b [strV f.nm,.slice p1 f.flags.length c1,.slice p2 f.links.length c2,.slice p3 f.comps.length c3,strV wh',strV (frsP P ((List.range f.flags.length).flatMap (flg1 f))).wh,strV (frsP P ((List.range f.flags.length).flatMap (flg1 f))).nm,.int .i64 ((frsP P ((List.range f.flags.length).flatMap (flg1 f))).er : Nat)] 110 :: bs) W' := by
 have hcap := h1.cap;refine Sx.enterS Tryz.func26 rfl Tryz.ntmps26 rfl s ?_;refine .sr<|.m Z Z<|.yv (.nilCheck Z) Z<|.yv (.fieldAddr Z Fx.field110_0) Z<|.yv (.fieldAddr Z Fx.field37_1) Z<|.yv (.load Z Fx.agg33 (.head _) Z) Z<|.yv (.lenSl Fx.sl33 Z) Z<|.m Z Z<|.nt<|.bk<|.lp (X := Nat × Str × Pb) [(0,_),(8,_),(9,_)] ⟨rfl,rfl,rfl,trivial⟩ (bs) (fun z => [(10,.int .i64 (z.1 : Nat))]) (fun z => H) (fun z => [.box b [strV f.nm,.slice p1 f.flags.length c1,.slice p2 f.links.length c2,.slice p3 f.comps.length c3,strV z.2.1,strV z.2.2.wh,strV z.2.2.nm,.int .i64 (z.2.2.er : Nat)] 110]) (fun z => z.1 ≤ f.flags.length ∧ z.2.2 = frsP P ((List.range z.1).flatMap (flg1 f))) (fun z => f.flags.length - z.1) (0,wh,P) (fun _ s => s) ⟨rfl,trivial⟩ ⟨Nat.zero_le _,(frsP_nil hP).symm⟩ fun z hC => ?_
 obtain ⟨k,wh1,P1⟩ := z;obtain ⟨hk0,hP1⟩ := hC;dsimp only at hk0 hP1 ⊢;have hPo : PbOk P1 := by rw [hP1];exact frsP_ok hP (.flat fun _ => .flg _ _)
 refine .sr<|.yv (.lss Z Z) Z<|.nt<|.sq<|.cd Z (fun h11 => ?_) (fun h11 => ?_)
 ·try simp only [dt] at h11
  have hk : k < f.flags.length := by omega
  obtain ⟨bE,oE,cE,hpE,rE,lE,mE⟩ := h1.elem (map_at (f := dFg) hk);cases hpE;generalize hxE : f.flags[k] = xE at rE;obtain ⟨rfl,hnE⟩ := fg_open rE;refine .sk<|.tN<|.sq<|.bk<|.sr<|.m Z Z<|.yv (.indexSl Fx.sl33 Z Z Z (by omega) (q := oE + k * 2) Z) Z<|.yv (.loadMW Z Fx.agg89 mE Z) Z<|.al Fx.zero89 Z fun b3 => .a Z Z<|.sW .head Z Z Fx.size89 (by simp [Value.oneCell',strV]) Z<|.nt<|.sq<|.sr<|.m Z Z<|.yv (.fieldAddr Z Fx.field89_0) Z<|.yv (.load Z Fx.agg9 (.head _) Z) Z<|.yv (.app Z Z (by simp;omega)) Z<|.cs (X := Unit) Fx.call52 Z (fun W s => at_st _ (s.pickT (hd := [_,_]) (tl := bs) (hd' := [_,_]) [1,0] Z Z)) Z fun _ _ => .yv (.not Z) Z<|.nt<|.cd Z (fun h20 => ?_) (fun h20 => ?_)
  ·try simp only [dt] at h20
   have hne : P1.er ≠ 0 := by simpa using h20
   refine .rt<|.tR<|.bR<|.tR<|.tR<|.bR<|?_
   refine Sx.retN (.inl rfl) rfl .nil rfl fun W s => ⟨[102,108,97,103,32] ++ xE.nm,trivial,rfl,?_⟩;rw [frs_done (P := P) (fun i => NzP.flg f i) (Nat.le_of_lt hk) (hP1 ▸ hne),← hP1];exact s.pickT (hd := [_,_]) (tl := bs) (hd' := [_]) [0] rfl rfl
  skip
  exact .sk<|.tN<|.fl (trip := [(_,_,_),(_,_,_),(_,_,_),(_,_,_),(_,_,_),(_,_,_),(_,_,_),(_,_,_),(_,_,_),(_,_,_),(_,_,_),(_,_,_),(_,_,_),(_,_,_)]) 14 [(0,0),(1,0),(2,0),(3,0),(4,0),(5,0),(6,0),(7,0),(8,0),(9,0),(10,0),(11,0),(12,0),(13,0)] (by kernel_rfl) (by kernel_rfl) Z<|.m Z Z<|.m Z Z<|.yv (.nilCheck Z) Z<|.yv (.fieldAddr Z Fx.field110_0) Z<|.yv (.fieldAddr Z Fx.field37_1) Z<|.yv (.load Z Fx.agg33 (.head _) Z) Z<|.m Z Z<|.yv (.cutHi2 Fx.sl33 Z Z (h := k) Z (by have := h1.len.2.1;omega)) Z<|.yv (.fieldAddr Z Fx.field89_0) Z<|.yv (.load Z Fx.agg9 (.tail _<|.head _) Z) Z<|.yv (.call Fx.call54 Z (fun W s => flag_any H (f.flags.take k) xE.nm _ (by rw [List.map_take];exact rep_take2 h1 (by omega)) W s.agr)) Z<|.yv (.not Z) Z<|.yv (.fieldAddr Z Fx.field89_0) Z<|.yv (.load Z Fx.agg9 (.tail _<|.head _) Z) Z<|.fn (tl := [_]) Z<|.cs (X := Unit) Fx.call53 Z (fun W s => unless_st _ 5 _ hPo (by decide) (s.pickT (hd := [_,_]) (tl := bs) (hd' := [_,_]) [0,1] Z Z)) Z fun _ _ => .nl<|.bN<|.tN<|.rg<|.yv (.add Z Z (w6 (by omega))) Z<|.m Z Z<|.nt<|.ag (x := (k,wh1,P1)) (k + 1,[102,108,97,103,32] ++ xE.nm,unlP P1 ([102,108,97,103,32] ++ xE.nm) xE.nm 5 (!flagB (f.flags.take k) xE.nm)) ⟨rfl,trivial⟩ ⟨rfl,rfl,rfl,trivial⟩ (fun _ s => (s.pickT (hd := [_,_]) (tl := bs) (hd' := [_]) [0] Z Z)) ⟨by dsimp only;omega,by dsimp only;rw [flat_succ',← frsP_app (.flat fun _ => .flg _ _),← hP1,flg1_at hk hxE,unlP,Bool.not_not]⟩ (by dsimp only;omega)
 try simp only [df] at h11
 obtain rfl : k = f.flags.length := by omega
 refine .ex<|.tE<|.tE<|.bE<|?_
 refine Sx.retN (.inr rfl) rfl .nil rfl fun W s => ⟨wh1,trivial,rfl,?_⟩;rw [← hP1];exact s.pickT (hd := [_]) (tl := bs) (hd' := [_]) [0] rfl rfl
theorem Fx.agg134 : aggN Tryz.prog 134 = Option.some (Option.some 3) := by kernel_rfl
theorem Fx.call58 : callN Tryz.prog 58 = Bool.true := by kernel_rfl
theorem Fx.call88 : callN Tryz.prog 88 = Bool.true := by kernel_rfl
theorem Fx.call101 : callN Tryz.prog 101 = Bool.true := by kernel_rfl
theorem Fx.field134_0 : fieldN Tryz.prog 134 0 = Option.some 0 := by kernel_rfl
theorem Fx.field134_1 : fieldN Tryz.prog 134 1 = Option.some 1 := by kernel_rfl
theorem Fx.field134_2 : fieldN Tryz.prog 134 2 = Option.some 2 := by kernel_rfl
def cVr (v : Vr) : List Value := [strV v.nm,.int .u8 v.ty.toNat,.int .i64 v.init.toInt]
def vr0 : Vr := ⟨[],0,0⟩
theorem find_cVr {H : Hp} {q : Vr → Bool} {l : List Vr} {x : List Value} (h : match l.find? q with | some a => Rep H (dVr .u8 a) x | none => x = zVr) : x = cVr ((l.find? q).getD vr0) := by
 cases e : l.find? q with
 | none => rw [e] at h;exact h
 | some a => rw [e] at h;exact (vr_open h).1
structure ScR (H : Hp) (s : Sc) (cs : List Value) : Prop where
 ex : ∃ p1 c1 p2 c2 p3 c3,cs = [.slice p1 s.flags.length c1,.slice p2 s.vars.length c2,.slice p3 s.ps.length c3] ∧ Rep H (.seq 2 (s.flags.map dFg)) [.slice p1 s.flags.length c1] ∧ Rep H (.seq 3 (s.vars.map (dVr .u8))) [.slice p2 s.vars.length c2] ∧ Rep H (.seq 1 (s.ps.map dStrL)) [.slice p3 s.ps.length c3]
def varD (s : Sc) (n : Str) : Vr := (varS s n).getD vr0
theorem u8n {a : UInt8} {k : Nat} (hk : k < 256) : ((a.toNat : Nat) : Int) = (k : Nat) ↔ a = UInt8.ofNat k := by
 constructor
 ·intro h;have : a.toNat = k := by omega
  rw [← this,UInt8.ofNat_toNat]
 ·rintro rfl;simp [Nat.mod_eq_of_lt hk]
theorem u8e {a b : UInt8} : ((a.toNat : Nat) : Int) = (b.toNat : Nat) ↔ a = b := by
 constructor
 ·intro h;exact UInt8.toNat_inj.1 (by omega)
 ·rintro rfl;rfl
abbrev tr3 (r : Tr) : Value := .tuple #[.int .u8 r.ty.toNat,strV r.nm,.int .i64 (r.er : Nat)]
theorem variable_v (H : Hp) (l : List Vr) (n : Str) (p : Option Addr) (m c : Nat) (hs : Rep H (.seq 3 (l.map (dVr .u8))) [.slice p m c]) (w : World) (hA : Agr H w) :
 Calls Tryz.prog 58 #[.slice p m c,strV n] w fun r w' => r = .returned (.tuple #[.agg (cVr ((varF l n).getD vr0)).toArray,.bool (varF l n).isSome]) ∧ Ext w w' := by
 obtain ⟨x,hx,hc⟩ := variable_any H l n p m c hs;rw [varF,← find_cVr hx];exact hc w hA
set_option maxRecDepth 100000 in
theorem svar_any (H : Hp) (sc : Sc) (n : Str) (cs : List Value) (hs : ScR H sc cs) (w : World) (hA : Agr H w) :
 Calls Tryz.prog 101 #[.agg cs.toArray,strV n] w fun r w' => r = .returned (.tuple #[.agg (cVr (varD sc n)).toArray,.bool (varS sc n).isSome]) ∧ Ext w w' := by
 obtain ⟨p1,c1,p2,c2,p3,c3,rfl,k1,k2,k3⟩ := hs.ex;have hcap1 := k1.cap;have hcap2 := k2.cap;have hcap3 := k3.cap;refine Sx.enter (H := H) Tryz.func101 rfl Tryz.ntmps101 rfl hA ?_;refine .sr<|.bx Z Z Z fun b2 => .al Fx.zero100 Z fun b4 => .a Z Z<|.nt<|.sq<|.sr<|.yv (.fieldAddr Z Fx.field134_2) Z<|.yv (.load Z Fx.agg54 (.tail _<|.head _) Z) Z<|.m Z Z<|.yv (.call Fx.call88 Z (fun W s => contains_any H sc.ps n _ k3 W s.agr)) Z<|.nt<|.cd Z (fun h9 => ?_) (fun h9 => ?_)
 ·skip
  refine .sr<|.yv (.build Z Fx.bld100) Z<|.sW .head Z Z Fx.size100 (by simp [cVr,Value.oneCell',strV]) Z<|.a Z Z<|.nt<|.rt<|.tR<|?_
  refine Sx.retN (.inl rfl) rfl (.cons (.cell rfl Fx.agg100 (.head _) rfl) (.cons (.tmp rfl) .nil)) rfl fun W s => ⟨?_,s.ext⟩
  first
   | (rw [varD,varS,if_pos h9];rfl)
   | (rw [varD,varS,if_neg (by rw [h9];decide)])
 skip
 refine .sk<|.tN<|.sr<|.yv (.fieldAddr Z Fx.field134_1) Z<|.yv (.load Z Fx.agg93 (.tail _<|.head _) Z) Z<|.m Z Z<|.yv (.call Fx.call58 Z (fun W s => variable_v H sc.vars n _ _ _ k2 W s.agr)) Z<|.yv (.extract Z Z) Z<|.yv (.extract Z Z) Z<|.sW .head Z Z Fx.size100 (by simp [cVr,Value.oneCell',strV]) Z<|.a Z Z<|.nt<|.rt<|?_
 refine Sx.retN (.inl rfl) rfl (.cons (.cell rfl Fx.agg100 (.head _) rfl) (.cons (.tmp rfl) .nil)) rfl fun W s => ⟨?_,s.ext⟩
 first
  | (rw [varD,varS,if_pos h9];rfl)
  | (rw [varD,varS,if_neg (by rw [h9];decide)])
theorem variable_e {l : List Vr} {n : Str} {o : Option Vr} (hv : varF l n = o) (H : Hp) {p : Option Addr} {m : Nat} (c : Nat) (z : Vr) (hs : Rep H (.seq 3 (l.map (dVr .u8))) [.slice p m c]) (w : World) (hA : Agr H w) :
 Calls Tryz.prog 58 #[.slice p m c,strV n] w fun r w' => r = .returned (.tuple #[.agg (cVr (o.getD vr0)).toArray,.bool o.isSome]) ∧ Ext w w' := by
 subst hv;exact variable_v H l n p m c hs w hA
set_option maxRecDepth 100000 in
theorem sname_any (H : Hp) (sc : Sc) (n : Str) (cs : List Value) (hs : ScR H sc cs) (w : World) (hA : Agr H w) :
 Calls Tryz.prog 78 #[.agg cs.toArray,strV n] w fun r w' => r = .returned (.tuple #[.int .u8 (nameT sc n).1.toNat,.int .i64 ((nameT sc n).2 : Nat)]) ∧ Ext w w' := by
 obtain ⟨p1,c1,p2,c2,p3,c3,rfl,k1,k2,k3⟩ := hs.ex;have hcap1 := k1.cap;have hcap2 := k2.cap;have hcap3 := k3.cap;cases hv : varF sc.vars n with
 | none =>
  refine Sx.enter (H := H) Tryz.func78 rfl Tryz.ntmps78 rfl hA ?_;refine .sr<|.bx Z Z Z fun b2 => .a Z Z<|.a Z Z<|.nt<|.sq<|.sr<|.yv (.fieldAddr Z Fx.field134_2) Z<|.yv (.load Z Fx.agg54 (.head _) Z) Z<|.m Z Z<|.yv (.call Fx.call88 Z (fun W s => contains_any H sc.ps n _ k3 W s.agr)) Z<|.nt<|.cd Z (fun h11 => ?_) (fun h11 => ?_)
  ·skip
   refine .sr<|.a Z Z<|.a Z Z<|.nt<|.rt<|.tR<|?_
   refine Sx.retN (.inl rfl) rfl (.cons (.tmp rfl) (.cons (.tmp rfl) .nil)) rfl fun W s => ⟨?_,s.ext⟩
   first
    | (rw [nameT,if_pos h11];rfl)
    | (rw [nameT,if_neg hp,hv];simp only;rw [if_pos h30];rfl)
    | (rw [nameT,if_neg hp,hv];simp only;rw [if_neg hf];rfl)
  have hp : ¬ hasB sc.ps n = true := by rw [h11];decide
  refine .sk<|.tN<|.sr<|.yv (.fieldAddr Z Fx.field134_1) Z<|.yv (.load Z Fx.agg93 (.head _) Z) Z<|.m Z Z<|.yv (.call Fx.call58 Z (fun W s => variable_e hv H _ vr0 k2 W s.agr)) Z<|.m Z Z<|.yv (.extract Z Z) Z<|.yv (.extract Z Z) Z<|.al Fx.zero100 Z fun b6 => .sW .head Z Z Fx.size100 (by simp [cVr,Value.oneCell',strV]) Z<|.a Z Z<|.nt<|.sq<|.bk<|.sr<|.m Z Z<|.m Z Z<|.gF Z Z Z Z<|.gF Z Z Z Z<|.gF Z Z Z Z<|.yv (.pickF Z Z) Z<|.a Z Z<|.nt<|.cF Z<|.sr<|.m Z Z<|.a Z Z<|.nt<|.cF Z<|.sr<|.yv (.fieldAddr Z Fx.field134_0) Z<|.yv (.load Z Fx.agg33 (.tail _<|.head _) Z) Z<|.m Z Z<|.yv (.call Fx.call54 Z (fun W s => flag_any H sc.flags n _ k1 W s.agr)) Z<|.a Z Z<|.nt<|.cd Z (fun h30 => ?_) (fun h30 => ?_)
  ·skip
   refine .sr<|.a Z Z<|.a Z Z<|.nt<|.rt<|.bR<|.tR<|?_
   refine Sx.retN (.inl rfl) rfl (.cons (.tmp rfl) (.cons (.tmp rfl) .nil)) rfl fun W s => ⟨?_,s.ext⟩
   first
    | (rw [nameT,if_pos h11];rfl)
    | (rw [nameT,if_neg hp,hv];simp only;rw [if_pos h30];rfl)
    | (rw [nameT,if_neg hp,hv];simp only;rw [if_neg hf];rfl)
  have hf : ¬ flagB sc.flags n = true := by rw [h30];decide
  refine .sk<|.bN<|.tN<|.sr<|.a Z Z<|.a Z Z<|.nt<|.rt<|?_
  refine Sx.retN (.inl rfl) rfl (.cons (.tmp rfl) (.cons (.tmp rfl) .nil)) rfl fun W s => ⟨?_,s.ext⟩
  first
   | (rw [nameT,if_pos h11];rfl)
   | (rw [nameT,if_neg hp,hv];simp only;rw [if_pos h30];rfl)
   | (rw [nameT,if_neg hp,hv];simp only;rw [if_neg hf];rfl)
 | some v =>
  refine Sx.enter (H := H) Tryz.func78 rfl Tryz.ntmps78 rfl hA ?_;refine .sr<|.bx Z Z Z fun b2 => .a Z Z<|.a Z Z<|.nt<|.sq<|.sr<|.yv (.fieldAddr Z Fx.field134_2) Z<|.yv (.load Z Fx.agg54 (.head _) Z) Z<|.m Z Z<|.yv (.call Fx.call88 Z (fun W s => contains_any H sc.ps n _ k3 W s.agr)) Z<|.nt<|.cd Z (fun h11 => ?_) (fun h11 => ?_)
  ·skip
   refine .sr<|.a Z Z<|.a Z Z<|.nt<|.rt<|.tR<|?_
   refine Sx.retN (.inl rfl) rfl (.cons (.tmp rfl) (.cons (.tmp rfl) .nil)) rfl fun W s => ⟨?_,s.ext⟩
   first
    | (rw [nameT,if_pos h11];rfl)
    | (rw [nameT,if_neg hp,hv];simp only;rw [if_pos hty];rfl)
    | (rw [nameT,if_neg hp,hv];simp only;rw [if_neg hty];rfl)
  have hp : ¬ hasB sc.ps n = true := by rw [h11];decide
  refine .sk<|.tN<|.sr<|.yv (.fieldAddr Z Fx.field134_1) Z<|.yv (.load Z Fx.agg93 (.head _) Z) Z<|.m Z Z<|.yv (.call Fx.call58 Z (fun W s => variable_e hv H _ vr0 k2 W s.agr)) Z<|.m Z Z<|.yv (.extract Z Z) Z<|.yv (.extract Z Z) Z<|.al Fx.zero100 Z fun b6 => .sW .head Z Z Fx.size100 (by simp [cVr,Value.oneCell',strV]) Z<|.a Z Z<|.nt<|.sq<|.bk<|.sr<|.m Z Z<|.m Z Z<|.gd Z Z<|.yv (.fieldAddr Z Fx.field100_1) Z<|.gd Z Z<|.yv (.load Z Fx.agg62 (.head _) Z) Z<|.gd Z Z<|.yv (.eql Z Z) Z<|.yv (.pickT Z Z) Z<|.a Z Z<|.nt<|.cd Z (fun h19 => ?_) (fun h19 => ?_)
  ·have hty : v.ty = 3 := (u8n (k := 3) (by decide)).1 (of_decide_eq_true h19);refine .sr<|.a Z Z<|.a Z Z<|.nt<|.rt<|.bR<|.tR<|?_
   refine Sx.retN (.inl rfl) rfl (.cons (.tmp rfl) (.cons (.tmp rfl) .nil)) rfl fun W s => ⟨?_,s.ext⟩
   first
    | (rw [nameT,if_pos h11];rfl)
    | (rw [nameT,if_neg hp,hv];simp only;rw [if_pos hty];rfl)
    | (rw [nameT,if_neg hp,hv];simp only;rw [if_neg hty];rfl)
  have hty : ¬ v.ty = 3 := fun e => of_decide_eq_false h19 ((u8n (k := 3) (by decide)).2 e);refine .sr<|.m Z Z<|.a Z Z<|.nt<|.cT Z<|.sr<|.yv (.fieldAddr Z Fx.field100_1) Z<|.yv (.load Z Fx.agg62 (.head _) Z) Z<|.a Z Z<|.a Z Z<|.nt<|.rt<|.bR<|.tR<|?_
  refine Sx.retN (.inl rfl) rfl (.cons (.tmp rfl) (.cons (.tmp rfl) .nil)) rfl fun W s => ⟨?_,s.ext⟩
  first
   | (rw [nameT,if_pos h11];rfl)
   | (rw [nameT,if_neg hp,hv];simp only;rw [if_pos hty];rfl)
   | (rw [nameT,if_neg hp,hv];simp only;rw [if_neg hty];rfl)
set_option maxRecDepth 100000 in
theorem stable_any (H : Hp) (sc : Sc) (n : Str) (cs : List Value) (hs : ScR H sc cs) (w : World) (hA : Agr H w) :
 Calls Tryz.prog 80 #[.agg cs.toArray,strV n] w fun r w' => r = .returned (.int .i64 (tableT sc n : Nat)) ∧ Ext w w' := by
 obtain ⟨p1,c1,p2,c2,p3,c3,rfl,k1,k2,k3⟩ := hs.ex;refine Sx.enter (H := H) Tryz.func80 rfl Tryz.ntmps80 rfl hA ?_;refine .sr<|.bx Z Z Z fun b2 => .a Z Z<|.ns<|.yv (.loadW Z Fx.agg134 (.head _) Z) Z<|.m Z Z<|.yv (.call Fx.call101 Z (fun W s => svar_any H sc n _ hs W s.agr)) Z<|.m Z Z<|.yv (.extract Z Z) Z<|.yv (.extract Z Z) Z<|.al Fx.zero100 Z fun b5 => .sW .head Z Z Fx.size100 (by simp [cVr,Value.oneCell',strV]) Z<|.a Z Z<|.nt<|.sq<|.bk<|.sr<|.m Z Z<|.yv (.not Z) Z<|.a Z Z<|.nt<|.cd Z (fun h13 => ?_) (fun h13 => ?_)
 ·have hv : varS sc n = none := by cases e : varS sc n <;> simp_all
  refine .sr<|.a Z Z<|.nt<|.rt<|.bR<|.tR<|?_
  refine Sx.ret1 (.inl rfl) rfl (.tmp rfl) fun W s => ⟨?_,s.ext⟩
  first
   | (rw [tableT,hv];done)
   | (simp only [tableT,hv];rfl)
   | (rw [tableT,hv];simp only;rw [if_neg hty];rfl)
   | (rw [tableT,hv];simp only;rw [if_pos hty];rfl)
 obtain ⟨v,hv⟩ : ∃ v,varS sc n = some v := by cases e : varS sc n <;> simp_all
 have hvd : varD sc n = v := by rw [varD,hv];rfl
 refine .sr<|.yv (.fieldAddr Z Fx.field100_1) Z<|.yv (.load Z Fx.agg62 (.head _) Z) Z<|.yv (.neq Z Z) Z<|.a Z Z<|.nt<|.cd Z (fun h16 => ?_) (fun h16 => ?_)
 ·rw [hvd] at h16;have hty : ¬ v.ty = 3 := fun e => of_decide_eq_true h16 ((u8n (k := 3) (by decide)).2 e);refine .sr<|.a Z Z<|.nt<|.rt<|.bR<|.tR<|?_
  refine Sx.ret1 (.inl rfl) rfl (.tmp rfl) fun W s => ⟨?_,s.ext⟩
  first
   | (rw [tableT,hv];done)
   | (simp only [tableT,hv];rfl)
   | (rw [tableT,hv];simp only;rw [if_neg hty];rfl)
   | (rw [tableT,hv];simp only;rw [if_pos hty];rfl)
 rw [hvd] at h16;have hty : v.ty = 3 := (u8n (k := 3) (by decide)).1 (Decidable.not_not.1 (of_decide_eq_false h16));refine .sk<|.bN<|.tN<|.sr<|.a Z Z<|.nt<|.rt<|?_
 refine Sx.ret1 (.inl rfl) rfl (.tmp rfl) fun W s => ⟨?_,s.ext⟩
 first
  | (rw [tableT,hv];done)
  | (simp only [tableT,hv];rfl)
  | (rw [tableT,hv];simp only;rw [if_neg hty];rfl)
  | (rw [tableT,hv];simp only;rw [if_pos hty];rfl)
set_option maxRecDepth 100000 in
theorem swrong_any (H : Hp) (cs : List Value) (x1 x2 x3 : Value) (hcs : cs = [x1,x2,x3]) (ty : UInt8) (n : Str) (er : Nat) (w : World) (hA : Agr H w) :
 Calls Tryz.prog 79 #[.agg cs.toArray,.int .u8 ty.toNat,strV n,.int .i64 (er : Nat)] w fun r w' => r = .returned (tr3 (wrongT ty n er)) ∧ Ext w w' := by
 subst hcs;refine Sx.enter (H := H) Tryz.func79 rfl Tryz.ntmps79 rfl hA ?_;refine .sr<|.bx Z Z Z fun b4 => .a Z Z<|.a Z Z<|.a Z Z<|.nt<|.sq<|.sr<|.m Z Z<|.yv (.neq Z Z) Z<|.nt<|.cd Z (fun h12 => ?_) (fun h12 => ?_)
 ·have he : ¬ er = 0 := by have := of_decide_eq_true h12;omega
  refine .sr<|.m Z Z<|.m Z Z<|.a Z Z<|.a Z Z<|.a Z Z<|.nt<|.rt<|.tR<|?_
  refine Sx.retN (.inl rfl) rfl (.cons (.tmp rfl) (.cons (.tmp rfl) (.cons (.tmp rfl) .nil))) rfl fun W s => ⟨?_,s.ext⟩
  first
   | (rw [wrongT,if_neg he];rfl)
   | (rw [wrongT,if_pos he];rfl)
 have he : er = 0 := by have := of_decide_eq_false h12;omega
 refine .sk<|.tN<|.sr<|.m Z Z<|.a Z Z<|.a Z Z<|.a Z Z<|.nt<|.rt<|?_
 refine Sx.retN (.inl rfl) rfl (.cons (.tmp rfl) (.cons (.tmp rfl) (.cons (.tmp rfl) .nil))) rfl fun W s => ⟨?_,s.ext⟩
 first
  | (rw [wrongT,if_neg he];rfl)
  | (rw [wrongT,if_pos he];rfl)
theorem Fx.call44 : callN Tryz.prog 44 = Bool.true := by kernel_rfl
theorem Fx.call77 : callN Tryz.prog 77 = Bool.true := by kernel_rfl
theorem Fx.call78 : callN Tryz.prog 78 = Bool.true := by kernel_rfl
theorem Fx.call79 : callN Tryz.prog 79 = Bool.true := by kernel_rfl
theorem Fx.call80 : callN Tryz.prog 80 = Bool.true := by kernel_rfl
end Go.Proofs.YtohfacbajcenoaaGreatDoor
