/- Texts of the proof, one behind the other. -/
import Derived.Test.YthhoebdlfjffkaaDoorMd
import Derived.Test.YthhoebdlfjffkaaDoorTie
import Derived.ProofKit
import Derived.OpenShut
import Derived.ShutString
import Derived.Lay
import Derived.Stop.LaidErr
import Derived.Stop.Joined
import Derived.Shelf.Vars
import Derived.Lib.LaidTab
import Derived.Lib.SmallJoins
import Derived.SevenTiedAt
set_option linter.all false
namespace Go.Proofs.YthhoebdlfjffkaaDoor
open Go.RowKit Go.Par Go.Sx
theorem exprP_okG (H : Hp) (G : Gl H) (t : Str) (x : Ex) (ht : t.length ≤ 20000) (hx : gX 0 (lexR t) = .ok x []) (hc : checkE x = 0) (W : World) (hA : Agr H W) :
 Calls Tryd.prog 8 #[strV t] W fun e W' => ∃ (c : List Value) (H' : Hp),Rep H' (dEx .u8 x) c ∧ e = .returned (.tuple #[.agg c.toArray,.int .i64 0,.int .i64 0]) ∧ Grow H W H' W' :=
 (exprP_ok G ht hx hc (St.start hA)).mono fun e W' ⟨z,⟨u,r⟩,he,s⟩ => ⟨z.1,z.2,r,he,u.grow s⟩
theorem exprP_badG (H : Hp) (G : Gl H) (t : Str) (c o : Nat) (ht : t.length ≤ 9223372036854775807) (hc : (sgZ (gX 0) t).e = c) (ho : (sgZ (gX 0) t).o = o) (h0 : c ≠ 0) (W : World) (hA : Agr H W) :
 Calls Tryd.prog 8 #[strV t] W fun e W' => ∃ (_ : Unit) (H' : Hp),True ∧ e = .returned (.tuple #[.agg ([.int .u8 0,.string ⟨#[]⟩,.int .i64 0,.slice none 0 0] : List Value).toArray,.int .i64 (o : Nat),.int .i64 (c : Nat)]) ∧ Grow H W H' W' :=
 (exprP_bad G ht hc ho h0 (St.start hA)).mono fun e W' ⟨z,u,he,s⟩ => ⟨(),z,trivial,he,u.grow s⟩
theorem eqx_same (H : Hp) (a : Ex) (ca cb : List Value) (w : World) (ha : Rep H (dEx .u8 a) ca) (hb : Rep H (dEx .u8 a) cb) (hA : Agr H w) : Calls Tryd.prog 10 #[.agg ca.toArray,.agg cb.toArray] w fun r w' => r = .returned (.bool true) ∧ Ext w w' :=
 (equalExpr_any H a a ca cb w ha hb hA).mono fun e W' ⟨h1,h2⟩ => ⟨by rw [h1,eqP_iff.2 rfl],h2⟩
set_option maxRecDepth 100000 in
theorem level_any (op : Nat) (w : World) : Calls Tryd.prog 12 #[.int .i64 (op : Nat)] w fun r w' => r = .returned (.int .i64 (lvN op : Nat)) ∧ Ext w w' := by
 refine Sx.enter (H := (fun _ => none)) Tryd.func12 rfl Tryd.ntmps12 rfl (fun _ _ e => by cases e) ?_
 refine .sr<|.a Z Z<|.nt<|.sq<|.bk<|.sr<|.m Z Z<|.yv (.leq Z Z) Z<|.a Z Z<|.nt<|.cd Z (fun h3 => ?_) (fun h3 => ?_)
 ·try simp only [dt] at h3
  refine .sr<|.a Z Z<|.nt<|.rt<|.bR<|.tR<|?_
  refine Sx.ret1 (.inl rfl) rfl (.tmp rfl) fun W s => ⟨?_,s.ext⟩
  unfold lvN
  repeat (first | rw [if_pos (by omega)] | rw [if_neg (by omega)])
  rfl
 try simp only [df] at h3
 refine .sr<|.m Z Z<|.yv (.leq Z Z) Z<|.a Z Z<|.nt<|.cd Z (fun h6 => ?_) (fun h6 => ?_)
 ·try simp only [dt] at h6
  refine .sr<|.a Z Z<|.nt<|.rt<|.bR<|.tR<|?_
  refine Sx.ret1 (.inl rfl) rfl (.tmp rfl) fun W s => ⟨?_,s.ext⟩
  unfold lvN
  repeat (first | rw [if_pos (by omega)] | rw [if_neg (by omega)])
  rfl
 try simp only [df] at h6
 refine .sr<|.m Z Z<|.yv (.leq Z Z) Z<|.a Z Z<|.nt<|.cd Z (fun h9 => ?_) (fun h9 => ?_)
 ·try simp only [dt] at h9
  refine .sr<|.a Z Z<|.nt<|.rt<|.bR<|.tR<|?_
  refine Sx.ret1 (.inl rfl) rfl (.tmp rfl) fun W s => ⟨?_,s.ext⟩
  unfold lvN
  repeat (first | rw [if_pos (by omega)] | rw [if_neg (by omega)])
  rfl
 try simp only [df] at h9
 refine .sr<|.m Z Z<|.yv (.eql Z Z) Z<|.a Z Z<|.nt<|.cd Z (fun h12 => ?_) (fun h12 => ?_)
 ·try simp only [dt] at h12
  refine .sr<|.a Z Z<|.nt<|.rt<|.bR<|.tR<|?_
  refine Sx.ret1 (.inl rfl) rfl (.tmp rfl) fun W s => ⟨?_,s.ext⟩
  unfold lvN
  repeat (first | rw [if_pos (by omega)] | rw [if_neg (by omega)])
  rfl
 try simp only [df] at h12
 refine .sk<|.bN<|.tN<|.sr<|.a Z Z<|.nt<|.rt<|?_
 refine Sx.ret1 (.inl rfl) rfl (.tmp rfl) fun W s => ⟨?_,s.ext⟩
 unfold lvN
 repeat (first | rw [if_pos (by omega)] | rw [if_neg (by omega)])
 rfl
set_option maxRecDepth 100000 in
theorem name7_any (l : Str) (w : World) : Calls Tryd.prog 13 #[strV l] w fun r w' => r = .returned (.agg [.int .u8 (5 : UInt8).toNat,strV l,.int .i64 (0 : Int64).toInt,.slice none 0 0].toArray) ∧ Ext w w' := by
 refine Sx.enter (H := (fun _ => none)) Tryd.func13 rfl Tryd.ntmps13 rfl (fun _ _ e => by cases e) ?_
 refine .sr<|.al Fx.zero31 Z fun b2 => .ns<|.m Z Z<|.yv (.build Z (Fx.bld31_0_1 _ _)) Z<|.sW .head Z Z Fx.size31 (by simp [Value.oneCell',strV]) Z<|.nt<|.rt<|?_
 exact Sx.ret1 (.inl rfl) rfl (.cell rfl Fx.agg31 (.head _) rfl) fun W s => ⟨rfl,s.ext⟩
theorem lvw_at {i : Nat} (h : i < 13) : ([.string ⟨#[42]⟩,.string ⟨#[47]⟩,.string ⟨#[37]⟩,.string ⟨#[43]⟩,.string ⟨#[45]⟩,.string ⟨#[61,61]⟩,.string ⟨#[33,61]⟩,.string ⟨#[60]⟩,.string ⟨#[60,61]⟩,.string ⟨#[62]⟩,.string ⟨#[62,61]⟩,.string ⟨#[97,110,100]⟩,.string ⟨#[111,114]⟩] : List Value)[i]? = some (strV (lvW.getD i [])) := by
 have e : (lvW.map strV)[i]? = some (strV (lvW.getD i [])) := by
  have h2 : i < lvW.length := h
  rw [List.getElem?_map,List.getElem?_eq_getElem h2,List.getD_eq_getElem?_getD,List.getElem?_eq_getElem h2]
  rfl
 exact e
theorem lvw_len {i : Nat} (h : i < 13) : (lvW.getD i []).length ≤ 3 := by
 have key : ∀ i ∈ List.range 13,(lvW.getD i []).length ≤ 3 := by decide
 exact key i (List.mem_range.2 h)
theorem opw {i : Nat} (h : i < 13) : IntKind.u8.wrap ((11 + i : Nat) : Int) = (((UInt8.ofNat (11 + i)).toNat : Nat) : Int) := by
 have key : ∀ i ∈ List.range 13,IntKind.u8.wrap ((11 + i : Nat) : Int) = (((UInt8.ofNat (11 + i)).toNat : Nat) : Int) := by decide +kernel
 exact key i (List.mem_range.2 h)
theorem lvt_len {i k : Nat} (h : i < 13) (h2 : k < 13) : (lvT i k).length ≤ 9223372036854775807 := by
 have := lvw_len h
 have := lvw_len h2
 unfold lvT
 simp only [List.length_append,List.length_cons,List.length_nil]
 omega
theorem lv_ck : ∀ i ∈ List.range 13,∀ k ∈ List.range 13,checkE (lvE i k) = 0 := by decide +kernel
theorem chain_sg {i k : Nat} (hi : i < 13) (hk : k < 13) (h : lvN (11 + i) = 3 ∧ lvN (11 + k) = 3) : (sgZ (gX 0) (lvT i k)).e = 8 ∧ (sgZ (gX 0) (lvT i k)).o = 5 + (lvW.getD i []).length := by
 obtain ⟨a,t,r,h1,h2⟩ := lv_chain hi hk h
 have hl := lvw_len hi
 have hl2 := lvw_len hk
 have h0 : sg0 (lvT i k) = ⟨lexR (lvT i k),0,0⟩ := by
  unfold sg0
  rw [if_neg]
  unfold lvT
  simp only [List.length_append,List.length_cons,List.length_nil]
  omega
 have hu : up (lvT i k).length (gX 0) (sg0 (lvT i k)) = ⟨t :: r,0,0⟩ := by
  rw [h0]
  unfold up
  rw [if_pos rfl,h1]
 unfold sgZ
 rw [hu]
 exact ⟨rfl,h2⟩
set_option maxRecDepth 100000 in
theorem levels_chain (H : Hp) (G : Gl H) (a b : UInt8) (hc : lvN (11 + (a.toNat % 13)) = 3 ∧ lvN (11 + (b.toNat % 13)) = 3) (w : World) (hA : Agr H w) :
 Calls Tryd.prog 4 #[.int .u8 a.toNat,.int .u8 b.toNat] w fun r w' => r = .returned (.bool true) ∧ Ext w w' := by
 obtain ⟨hl1,hl2⟩ : (lvW.getD (a.toNat % 13) []).length ≤ 3 ∧ (lvW.getD (b.toNat % 13) []).length ≤ 3 := ⟨lvw_len (by omega),lvw_len (by omega)⟩
 have ha := a.toNat_lt
 have hb := b.toNat_lt
 obtain ⟨hc1,hc2⟩ := hc
 obtain ⟨hz1,hz2⟩ := chain_sg (i := (a.toNat % 13)) (k := (b.toNat % 13)) (by omega) (by omega) ⟨hc1,hc2⟩
 refine Sx.enter (H := H) Tryd.func4 rfl Tryd.ntmps4 rfl hA ?_
 refine .sr<|.a Z Z<|.nt<|.sq<|.sr<|.yv (.call Fx.call6 Z (fun W s => awake_any H G W s.agr)) Z<|.yv (.not Z) Z<|.nt<|.cF Z<|.sk<|.tN<|.sr<|.bl Z (Fx.bsl39_13 _ _ _ _ _ _ _ _ _ _ _ _ _) Z fun b16 => ?_
 refine Sx.freezeBox fun H1 u1 m1 => ?_
 refine .a Z Z<|.ns<|.m Z Z<|.yv (.conv Z Fx.int5 Fx.int3 (c := ((a.toNat : Nat) : Int)) (w6 (by omega))) Z<|.yv (.rem Z Z (by decide) (c := ((a.toNat % 13 : Nat) : Int)) (by rw [Int.tmod_eq_emod_of_nonneg (by omega)];omega)) Z<|.m Z Z<|.yv (.conv Z Fx.int5 Fx.int3 (c := ((b.toNat : Nat) : Int)) (w6 (by omega))) Z<|.yv (.rem Z Z (by decide) (c := ((b.toNat % 13 : Nat) : Int)) (by rw [Int.tmod_eq_emod_of_nonneg (by omega)];omega)) Z<|.a Z Z<|.a Z Z<|.ns<|.m Z Z<|.yv (.add Z Z (c := ((11 + (a.toNat % 13) : Nat) : Int)) ((w6 (by omega)).trans (by omega))) Z<|.yv (.conv Z Fx.int3 Fx.int28 (c := (((UInt8.ofNat (11 + (a.toNat % 13))).toNat : Nat) : Int)) (opw (by omega))) Z<|.m Z Z<|.yv (.add Z Z (c := ((11 + (b.toNat % 13) : Nat) : Int)) ((w6 (by omega)).trans (by omega))) Z<|.yv (.conv Z Fx.int3 Fx.int28 (c := (((UInt8.ofNat (11 + (b.toNat % 13))).toNat : Nat) : Int)) (opw (by omega))) Z<|.a Z Z<|.a Z Z<|.nt<|.sq<|.ft (p := .light _ _ (.light _ _ (.light _ _ (.light _ _ (.light _ _ (.light _ _ (.light _ _ (.light _ _ (.light _ _ (.light _ _ (.light _ _ (.light _ _ (.alt _ _ _ (.light _ _ (.light _ _ (.light _ _ (.light _ _ (.alt _ _ _ (.alt _ _ _ (.light _ _ (.done)) (.no)) (.no)))))) (.alt _ _ _ (.alt _ _ _ (.light _ _ (.light _ _ (.light _ _ (.light _ _ (.alt _ _ _ (.light _ _ (.done)) (.no)))))) (.no)) (.no))))))))))))))) 20 (.light 0 (.light 1 (.light 2 (.light 3 (.light 4 (.light 5 (.light 6 (.light 7 (.light 8 (.light 9 (.light 10 (.light 11 (.alt 12 0 (.light 13 (.light 14 (.light 15 (.light 16 (.alt 17 0 (.alt 18 2 (.light 19 (.done)) (.no)) (.no)))))) (.alt 17 0 (.alt 12 0 (.light 13 (.light 14 (.light 15 (.light 16 (.alt 18 2 (.light 19 (.done)) (.no)))))) (.no)) (.no))))))))))))))) (by kernel_rfl) (by kernel_rfl) Z<|.m Z Z<|.m Z Z<|.yv (.indexSl Fx.sl39 Z Z (i := (a.toNat % 13)) Z (by omega) (q := (a.toNat % 13)) (by omega)) Z<|.yv (.loadM Z Fx.agg9 m1 (k := (a.toNat % 13)) (by omega) (lvw_at (by omega))) Z<|.yv (.app Z Z (by simp only [List.length_append,List.length_cons,List.length_nil];omega)) Z<|.yv (.app Z Z (by simp only [List.length_append,List.length_cons,List.length_nil];omega)) Z<|.m Z Z<|.m Z Z<|.yv (.indexSl Fx.sl39 Z Z (i := (b.toNat % 13)) Z (by omega) (q := (b.toNat % 13)) (by omega)) Z<|.yv (.loadM Z Fx.agg9 m1 (k := (b.toNat % 13)) (by omega) (lvw_at (by omega))) Z<|.yv (.app Z Z (by simp only [List.length_append,List.length_cons,List.length_nil];omega)) Z<|.yv (.app Z Z (by simp only [List.length_append,List.length_cons,List.length_nil];omega)) Z<|.h ?_ (.h ?_ .nn)
 ·
  refine .ct (X := Unit) Fx.call8 Z (fun W t => exprP_badG H1 (G.up u1.up) (lvT (a.toNat % 13) (b.toNat % 13)) 8 (5 + (lvW.getD (a.toNat % 13) []).length) (lvt_len (by omega) (by omega)) hz1 hz2 (by decide) W t.agr) Z fun _ H2 _ u2 => .m Z Z<|.yv (.extract Z Z) Z<|.yv (.extract Z Z) Z<|.yv (.extract Z Z) Z<|.h1<|.al Fx.zero31 Z fun b10 => .h1<|.sW .head Z Z Fx.size31 (by simp [Value.oneCell']) Z ((.yv (.extract Z Z)<|.yv (.extract Z Z)<|.done (by kernel_rfl)<|.done (by kernel_rfl)<|.done (by kernel_rfl)<|.done (by kernel_rfl)<|.done (by kernel_rfl)<|.done (by kernel_rfl)<|.done (by kernel_rfl)<|.done (by kernel_rfl)<|.done (by kernel_rfl)<|.done (by kernel_rfl)<|.done (by kernel_rfl)<|.done (by kernel_rfl)<|.done (by kernel_rfl)<|.done (by kernel_rfl)<|.nl))<|.a Z Z<|.fn (tl := [_]) Z<|.a Z Z<|.nt<|.sq<|.sr<|.m Z Z<|.yv (.add Z Z (c := ((11 + (a.toNat % 13) : Nat) : Int)) ((w6 (by omega)).trans (by omega))) Z<|.yv (.call Fx.call12 Z (fun W s => level_any (11 + (a.toNat % 13)) W)) Z<|.yv (.cast (.eql Z Z) (congrArg Value.bool (decide_eq_true (by omega)))) Z<|.m Z Z<|.gd Z Z<|.yv (.move Z) Z<|.gd Z Z<|.yv (.add Z Z (c := ((11 + (b.toNat % 13) : Nat) : Int)) ((w6 (by omega)).trans (by omega))) Z<|.gd Z Z<|.yv (.call Fx.call12 Z (fun W s => level_any (11 + (b.toNat % 13)) W)) Z<|.gd Z Z<|.yv (.cast (.eql Z Z) (congrArg Value.bool (decide_eq_true (by omega)))) Z<|.yv (.pickT Z Z) Z<|.nt<|.cT Z<|.sr<|.m Z Z<|.yv (.cast (.eql Z Z) (congrArg Value.bool (decide_eq_true Z))) Z<|.m Z Z<|.gd Z Z<|.yv (.move Z) Z<|.gd Z Z<|.yv (.move Z) Z<|.gd Z Z<|.yv (.move Z) Z<|.gd Z Z<|.yv (.indexSl Fx.sl39 Z Z (i := (a.toNat % 13)) Z (by omega) (q := (a.toNat % 13)) (by omega)) Z<|.gd Z Z<|.yv (.loadM Z Fx.agg9 (m1.up u2.up) (k := (a.toNat % 13)) (by omega) (lvw_at (by omega))) Z<|.gd Z Z<|.yv (.lenS Fx.str9 Z) Z<|.gd Z Z<|.yv (.add Z Z (w6 (by omega))) Z<|.gd Z Z<|.yv (.add Z Z (w6 (by omega))) Z<|.gd Z Z<|.yv (.cast (.eql Z Z) (congrArg Value.bool (decide_eq_true (by omega)))) Z<|.yv (.pickT Z Z) Z<|.a Z Z<|.nt<|.rt<|.tR<|?_
  exact Sx.ret1 (.inl rfl) rfl (.tmp rfl) fun W s => ⟨rfl,s.ext⟩
 refine .al Fx.zero31 Z fun b10 => .h1<|.ct (X := Unit) Fx.call8 Z (fun W t => exprP_badG H1 (G.up u1.up) (lvT (a.toNat % 13) (b.toNat % 13)) 8 (5 + (lvW.getD (a.toNat % 13) []).length) (lvt_len (by omega) (by omega)) hz1 hz2 (by decide) W t.agr) Z fun _ H2 _ u2 => .m Z Z<|.yv (.extract Z Z) Z<|.yv (.extract Z Z) Z<|.yv (.extract Z Z) Z<|.h1<|.sW .head Z Z Fx.size31 (by simp [Value.oneCell']) Z ((.yv (.extract Z Z)<|.yv (.extract Z Z)<|.done (by kernel_rfl)<|.done (by kernel_rfl)<|.done (by kernel_rfl)<|.done (by kernel_rfl)<|.done (by kernel_rfl)<|.done (by kernel_rfl)<|.done (by kernel_rfl)<|.done (by kernel_rfl)<|.done (by kernel_rfl)<|.done (by kernel_rfl)<|.done (by kernel_rfl)<|.done (by kernel_rfl)<|.done (by kernel_rfl)<|.done (by kernel_rfl)<|.nl))<|.a Z Z<|.fn (tl := [_]) Z<|.a Z Z<|.nt<|.sq<|.sr<|.m Z Z<|.yv (.add Z Z (c := ((11 + (a.toNat % 13) : Nat) : Int)) ((w6 (by omega)).trans (by omega))) Z<|.yv (.call Fx.call12 Z (fun W s => level_any (11 + (a.toNat % 13)) W)) Z<|.yv (.cast (.eql Z Z) (congrArg Value.bool (decide_eq_true (by omega)))) Z<|.m Z Z<|.gd Z Z<|.yv (.move Z) Z<|.gd Z Z<|.yv (.add Z Z (c := ((11 + (b.toNat % 13) : Nat) : Int)) ((w6 (by omega)).trans (by omega))) Z<|.gd Z Z<|.yv (.call Fx.call12 Z (fun W s => level_any (11 + (b.toNat % 13)) W)) Z<|.gd Z Z<|.yv (.cast (.eql Z Z) (congrArg Value.bool (decide_eq_true (by omega)))) Z<|.yv (.pickT Z Z) Z<|.nt<|.cT Z<|.sr<|.m Z Z<|.yv (.cast (.eql Z Z) (congrArg Value.bool (decide_eq_true Z))) Z<|.m Z Z<|.gd Z Z<|.yv (.move Z) Z<|.gd Z Z<|.yv (.move Z) Z<|.gd Z Z<|.yv (.move Z) Z<|.gd Z Z<|.yv (.indexSl Fx.sl39 Z Z (i := (a.toNat % 13)) Z (by omega) (q := (a.toNat % 13)) (by omega)) Z<|.gd Z Z<|.yv (.loadM Z Fx.agg9 (m1.up u2.up) (k := (a.toNat % 13)) (by omega) (lvw_at (by omega))) Z<|.gd Z Z<|.yv (.lenS Fx.str9 Z) Z<|.gd Z Z<|.yv (.add Z Z (w6 (by omega))) Z<|.gd Z Z<|.yv (.add Z Z (w6 (by omega))) Z<|.gd Z Z<|.yv (.cast (.eql Z Z) (congrArg Value.bool (decide_eq_true (by omega)))) Z<|.yv (.pickT Z Z) Z<|.a Z Z<|.nt<|.rt<|.tR<|?_
 exact Sx.ret1 (.inl rfl) rfl (.tmp rfl) fun W s => ⟨rfl,s.ext⟩
set_option maxRecDepth 100000 in
theorem levels_tree (H : Hp) (G : Gl H) (a b : UInt8) (hc : ¬ (lvN (11 + (a.toNat % 13)) = 3 ∧ lvN (11 + (b.toNat % 13)) = 3)) (w : World) (hA : Agr H w) :
 Calls Tryd.prog 4 #[.int .u8 a.toNat,.int .u8 b.toNat] w fun r w' => r = .returned (.bool true) ∧ Ext w w' := by
 obtain ⟨hl1,hl2⟩ : (lvW.getD (a.toNat % 13) []).length ≤ 3 ∧ (lvW.getD (b.toNat % 13) []).length ≤ 3 := ⟨lvw_len (by omega),lvw_len (by omega)⟩
 have ha := a.toNat_lt
 have hb := b.toNat_lt
 have htr := lv_tree (i := (a.toNat % 13)) (k := (b.toNat % 13)) (by omega) (by omega) hc
 have hck := lv_ck (a.toNat % 13) (List.mem_range.2 (by omega)) (b.toNat % 13) (List.mem_range.2 (by omega))
 refine Sx.enter (H := H) Tryd.func4 rfl Tryd.ntmps4 rfl hA ?_
 refine .sr<|.a Z Z<|.nt<|.sq<|.sr<|.yv (.call Fx.call6 Z (fun W s => awake_any H G W s.agr)) Z<|.yv (.not Z) Z<|.nt<|.cF Z<|.sk<|.tN<|.sr<|.bl Z (Fx.bsl39_13 _ _ _ _ _ _ _ _ _ _ _ _ _) Z fun b16 => ?_
 refine Sx.freezeBox fun H1 u1 m1 => ?_
 refine .a Z Z<|.ns<|.m Z Z<|.yv (.conv Z Fx.int5 Fx.int3 (c := ((a.toNat : Nat) : Int)) (w6 (by omega))) Z<|.yv (.rem Z Z (by decide) (c := ((a.toNat % 13 : Nat) : Int)) (by rw [Int.tmod_eq_emod_of_nonneg (by omega)];omega)) Z<|.m Z Z<|.yv (.conv Z Fx.int5 Fx.int3 (c := ((b.toNat : Nat) : Int)) (w6 (by omega))) Z<|.yv (.rem Z Z (by decide) (c := ((b.toNat % 13 : Nat) : Int)) (by rw [Int.tmod_eq_emod_of_nonneg (by omega)];omega)) Z<|.a Z Z<|.a Z Z<|.ns<|.m Z Z<|.yv (.add Z Z (c := ((11 + (a.toNat % 13) : Nat) : Int)) ((w6 (by omega)).trans (by omega))) Z<|.yv (.conv Z Fx.int3 Fx.int28 (c := (((UInt8.ofNat (11 + (a.toNat % 13))).toNat : Nat) : Int)) (opw (by omega))) Z<|.m Z Z<|.yv (.add Z Z (c := ((11 + (b.toNat % 13) : Nat) : Int)) ((w6 (by omega)).trans (by omega))) Z<|.yv (.conv Z Fx.int3 Fx.int28 (c := (((UInt8.ofNat (11 + (b.toNat % 13))).toNat : Nat) : Int)) (opw (by omega))) Z<|.a Z Z<|.a Z Z<|.nt<|.sq<|.ft (p := .light _ _ (.light _ _ (.light _ _ (.light _ _ (.light _ _ (.light _ _ (.light _ _ (.light _ _ (.light _ _ (.light _ _ (.light _ _ (.light _ _ (.alt _ _ _ (.light _ _ (.light _ _ (.light _ _ (.light _ _ (.alt _ _ _ (.alt _ _ _ (.light _ _ (.done)) (.no)) (.no)))))) (.alt _ _ _ (.alt _ _ _ (.light _ _ (.light _ _ (.light _ _ (.light _ _ (.alt _ _ _ (.light _ _ (.done)) (.no)))))) (.no)) (.no))))))))))))))) 20 (.light 0 (.light 1 (.light 2 (.light 3 (.light 4 (.light 5 (.light 6 (.light 7 (.light 8 (.light 9 (.light 10 (.light 11 (.alt 12 0 (.light 13 (.light 14 (.light 15 (.light 16 (.alt 17 0 (.alt 18 2 (.light 19 (.done)) (.no)) (.no)))))) (.alt 17 0 (.alt 12 0 (.light 13 (.light 14 (.light 15 (.light 16 (.alt 18 2 (.light 19 (.done)) (.no)))))) (.no)) (.no))))))))))))))) (by kernel_rfl) (by kernel_rfl) Z<|.m Z Z<|.m Z Z<|.yv (.indexSl Fx.sl39 Z Z (i := (a.toNat % 13)) Z (by omega) (q := (a.toNat % 13)) (by omega)) Z<|.yv (.loadM Z Fx.agg9 m1 (k := (a.toNat % 13)) (by omega) (lvw_at (by omega))) Z<|.yv (.app Z Z (by simp only [List.length_append,List.length_cons,List.length_nil];omega)) Z<|.yv (.app Z Z (by simp only [List.length_append,List.length_cons,List.length_nil];omega)) Z<|.m Z Z<|.m Z Z<|.yv (.indexSl Fx.sl39 Z Z (i := (b.toNat % 13)) Z (by omega) (q := (b.toNat % 13)) (by omega)) Z<|.yv (.loadM Z Fx.agg9 m1 (k := (b.toNat % 13)) (by omega) (lvw_at (by omega))) Z<|.yv (.app Z Z (by simp only [List.length_append,List.length_cons,List.length_nil];omega)) Z<|.yv (.app Z Z (by simp only [List.length_append,List.length_cons,List.length_nil];omega)) Z<|.h ?_ (.h ?_ .nn)
 ·
  refine .ct (X := List Value) Fx.call8 Z (fun W t => exprP_okG H1 (G.up u1.up) (lvT (a.toNat % 13) (b.toNat % 13)) (lvE (a.toNat % 13) (b.toNat % 13)) (by unfold lvT;simp only [List.length_append,List.length_cons,List.length_nil];omega) htr hck W t.agr) Z fun c1 H2 r1 u2 => ?_
  obtain ⟨x1,x2,x3,x4,rfl⟩ := four (ex_len r1)
  refine .m Z Z<|.yv (.extract Z Z) Z<|.yv (.extract Z Z) Z<|.yv (.extract Z Z) Z<|.h1<|.al Fx.zero31 Z fun b10 => .h1<|.sW .head Z Z Fx.size31 (Rep.one r1) Z ((.yv (.extract Z Z)<|.yv (.extract Z Z)<|.done (by kernel_rfl)<|.done (by kernel_rfl)<|.done (by kernel_rfl)<|.done (by kernel_rfl)<|.done (by kernel_rfl)<|.done (by kernel_rfl)<|.done (by kernel_rfl)<|.done (by kernel_rfl)<|.done (by kernel_rfl)<|.done (by kernel_rfl)<|.done (by kernel_rfl)<|.done (by kernel_rfl)<|.done (by kernel_rfl)<|.done (by kernel_rfl)<|.nl))<|.a Z Z<|.fn (tl := [_]) Z<|.a Z Z<|.nt<|.sq<|.sr<|.m Z Z<|.yv (.add Z Z (c := ((11 + (a.toNat % 13) : Nat) : Int)) ((w6 (by omega)).trans (by omega))) Z<|.yv (.call Fx.call12 Z (fun W s => level_any (11 + (a.toNat % 13)) W)) Z<|.yv (.eql Z Z) Z<|.m Z Z<|.b2 (fun h50 => ?_) (fun h50 => ?_)
  ·skip
   refine .gd Z Z<|.yv (.move Z) Z<|.gd Z Z<|.yv (.add Z Z (c := ((11 + (b.toNat % 13) : Nat) : Int)) ((w6 (by omega)).trans (by omega))) Z<|.gd Z Z<|.yv (.call Fx.call12 Z (fun W s => level_any (11 + (b.toNat % 13)) W)) Z<|.gd Z Z<|.yv (.cast (.eql Z Z) (congrArg Value.bool (decide_eq_false (fun h => hc ⟨by have := of_decide_eq_true h50;omega,by omega⟩)))) Z<|.yv (.pickT Z Z) Z<|.nt<|.cF Z<|.sk<|.tN<|.sr<|.m Z Z<|.m Z Z<|.yv (.call Fx.call13 Z (fun W s => name7_any [97] W)) Z<|.yv (.call Fx.call13 Z (fun W s => name7_any [98] W)) Z<|.bl Z (Fx.bsl29_2 _ _ _ _ _ _ _ _) Z fun b73 => ?_
   refine Sx.freezeBox fun H3 u3 m3 => ?_
   refine .yv (.build Z (Fx.bld31_0_3 _ _ _ _)) Z<|.yv (.call Fx.call13 Z (fun W s => name7_any [99] W)) Z<|.bl Z (Fx.bsl29_2 _ _ _ _ _ _ _ _) Z fun b76 => ?_
   refine Sx.freezeBox fun H4 u4 m4 => ?_
   have r13 : Rep H4 (dEx .u8 (opE (UInt8.ofNat (11 + (b.toNat % 13))) [opE (UInt8.ofNat (11 + (a.toNat % 13))) [nmE 97,nmE 98],nmE 99])) _ := ex_shut (op := (UInt8.ofNat (11 + (b.toNat % 13)))) (nm := []) (n := 0) (args := [opE (UInt8.ofNat (11 + (a.toNat % 13))) [nmE 97,nmE 98],nmE 99]) (by decide) (Rep.mk (n := 2) (c := 2) m4 (RepZ.app (RepZ.single (ex_shut (op := (UInt8.ofNat (11 + (a.toNat % 13)))) (nm := []) (n := 0) (args := [nmE 97,nmE 98]) (by decide) (Rep.mk (n := 2) (c := 2) (m3.up u4.up) (RepZ.app (RepZ.single (ex_shut (op := 5) (nm := [97]) (n := 0) (args := []) (by decide) (Rep.empty (p := none) (c := 0) (by decide))) rfl) (RepZ.single (ex_shut (op := 5) (nm := [98]) (n := 0) (args := []) (by decide) (Rep.empty (p := none) (c := 0) (by decide))) rfl)) rfl (Nat.le_refl _) (by decide))) rfl) (RepZ.single (ex_shut (op := 5) (nm := [99]) (n := 0) (args := []) (by decide) (Rep.empty (p := none) (c := 0) (by decide))) rfl)) rfl (Nat.le_refl _) (by decide))
   refine .yv (.build Z (Fx.bld31_0_3 _ _ _ _)) Z<|.al Fx.zero31 Z fun b13 => .sW .head Z Z Fx.size31 (by simp [Value.oneCell',strV]) Z<|.nt<|.sq<|.sr<|.m Z Z<|.yv (.add Z Z (c := ((11 + (a.toNat % 13) : Nat) : Int)) ((w6 (by omega)).trans (by omega))) Z<|.yv (.call Fx.call12 Z (fun W s => level_any (11 + (a.toNat % 13)) W)) Z<|.m Z Z<|.yv (.add Z Z (c := ((11 + (b.toNat % 13) : Nat) : Int)) ((w6 (by omega)).trans (by omega))) Z<|.yv (.call Fx.call12 Z (fun W s => level_any (11 + (b.toNat % 13)) W)) Z<|.yv (.lss Z Z) Z<|.nt<|.cd Z (fun h84 => ?_) (fun h84 => ?_)
   ·try simp only [dt] at h84
    have hE : lvE (a.toNat % 13) (b.toNat % 13) = opE (UInt8.ofNat (11 + (a.toNat % 13))) [nmE 97,opE (UInt8.ofNat (11 + (b.toNat % 13))) [nmE 98,nmE 99]] := by unfold lvE;rw [if_pos (by omega)]
    refine .rg<|.m Z Z<|.yv (.call Fx.call13 Z (fun W s => name7_any [97] W)) Z<|.m Z Z<|.yv (.call Fx.call13 Z (fun W s => name7_any [98] W)) Z<|.yv (.call Fx.call13 Z (fun W s => name7_any [99] W)) Z<|.bl Z (Fx.bsl29_2 _ _ _ _ _ _ _ _) Z fun b90 => ?_
    refine Sx.freezeBox fun H5 u5 m5 => ?_
    refine .yv (.build Z (Fx.bld31_0_3 _ _ _ _)) Z<|.bl Z (Fx.bsl29_2 _ _ _ _ _ _ _ _) Z fun b92 => ?_
    refine Sx.freezeBox fun H6 u6 m6 => ?_
    have r93 : Rep H6 (dEx .u8 (opE (UInt8.ofNat (11 + (a.toNat % 13))) [nmE 97,opE (UInt8.ofNat (11 + (b.toNat % 13))) [nmE 98,nmE 99]])) _ := ex_shut (op := (UInt8.ofNat (11 + (a.toNat % 13)))) (nm := []) (n := 0) (args := [nmE 97,opE (UInt8.ofNat (11 + (b.toNat % 13))) [nmE 98,nmE 99]]) (by decide) (Rep.mk (n := 2) (c := 2) m6 (RepZ.app (RepZ.single (ex_shut (op := 5) (nm := [97]) (n := 0) (args := []) (by decide) (Rep.empty (p := none) (c := 0) (by decide))) rfl) (RepZ.single (ex_shut (op := (UInt8.ofNat (11 + (b.toNat % 13)))) (nm := []) (n := 0) (args := [nmE 98,nmE 99]) (by decide) (Rep.mk (n := 2) (c := 2) (m5.up u6.up) (RepZ.app (RepZ.single (ex_shut (op := 5) (nm := [98]) (n := 0) (args := []) (by decide) (Rep.empty (p := none) (c := 0) (by decide))) rfl) (RepZ.single (ex_shut (op := 5) (nm := [99]) (n := 0) (args := []) (by decide) (Rep.empty (p := none) (c := 0) (by decide))) rfl)) rfl (Nat.le_refl _) (by decide))) rfl)) rfl (Nat.le_refl _) (by decide))
    refine .yv (.build Z (Fx.bld31_0_3 _ _ _ _)) Z<|.sW .head Z Z Fx.size31 (by simp [Value.oneCell',strV]) Z<|.ns<|.m Z Z<|.yv (.cast (.eql Z Z) (congrArg Value.bool (decide_eq_true Z))) Z<|.m Z Z<|.gd Z Z<|.yv (.move Z) Z<|.gd Z Z<|.yv (.cast (.eql Z Z) (congrArg Value.bool (decide_eq_true Z))) Z<|.yv (.pickT Z Z) Z<|.m Z Z<|.gd Z Z<|.yv (.loadW Z Fx.agg31 (.tail _<|.head _) Z) Z<|.gd Z Z<|.yv (.loadW Z Fx.agg31 (.head _) Z) Z<|.gd Z Z<|.yv (.call Fx.call10 Z (fun W s => eqx_same _ (lvE (a.toNat % 13) (b.toNat % 13)) _ _ W (r1.up (u3.trans (u4.trans (u5.trans u6))).up) (by rw [hE];exact r93) s.agr)) Z<|.yv (.pickT Z Z) Z<|.a Z Z<|.nt<|.rt<|?_
    exact Sx.ret1 (.inl rfl) rfl (.tmp rfl) fun W s => ⟨rfl,s.ext⟩
   try simp only [df] at h84
   have hE : lvE (a.toNat % 13) (b.toNat % 13) = opE (UInt8.ofNat (11 + (b.toNat % 13))) [opE (UInt8.ofNat (11 + (a.toNat % 13))) [nmE 97,nmE 98],nmE 99] := by unfold lvE;rw [if_neg (by omega)]
   refine .sk<|.tN<|.sr<|.m Z Z<|.yv (.cast (.eql Z Z) (congrArg Value.bool (decide_eq_true Z))) Z<|.m Z Z<|.gd Z Z<|.yv (.move Z) Z<|.gd Z Z<|.yv (.cast (.eql Z Z) (congrArg Value.bool (decide_eq_true Z))) Z<|.yv (.pickT Z Z) Z<|.m Z Z<|.gd Z Z<|.yv (.loadW Z Fx.agg31 (.tail _<|.head _) Z) Z<|.gd Z Z<|.yv (.loadW Z Fx.agg31 (.head _) Z) Z<|.gd Z Z<|.yv (.call Fx.call10 Z (fun W s => eqx_same _ (lvE (a.toNat % 13) (b.toNat % 13)) _ _ W (r1.up (u3.trans u4).up) (by rw [hE];exact r13) s.agr)) Z<|.yv (.pickT Z Z) Z<|.a Z Z<|.nt<|.rt<|?_
   exact Sx.ret1 (.inl rfl) rfl (.tmp rfl) fun W s => ⟨rfl,s.ext⟩
  skip
  refine .gF Z Z Z Z<|.gF Z Z Z Z<|.gF Z Z Z Z<|.gF Z Z Z Z<|.yv (.pickF Z Z) Z<|.nt<|.cF Z<|.sk<|.tN<|.sr<|.m Z Z<|.m Z Z<|.yv (.call Fx.call13 Z (fun W s => name7_any [97] W)) Z<|.yv (.call Fx.call13 Z (fun W s => name7_any [98] W)) Z<|.bl Z (Fx.bsl29_2 _ _ _ _ _ _ _ _) Z fun b73 => ?_
  refine Sx.freezeBox fun H3 u3 m3 => ?_
  refine .yv (.build Z (Fx.bld31_0_3 _ _ _ _)) Z<|.yv (.call Fx.call13 Z (fun W s => name7_any [99] W)) Z<|.bl Z (Fx.bsl29_2 _ _ _ _ _ _ _ _) Z fun b76 => ?_
  refine Sx.freezeBox fun H4 u4 m4 => ?_
  have r13 : Rep H4 (dEx .u8 (opE (UInt8.ofNat (11 + (b.toNat % 13))) [opE (UInt8.ofNat (11 + (a.toNat % 13))) [nmE 97,nmE 98],nmE 99])) _ := ex_shut (op := (UInt8.ofNat (11 + (b.toNat % 13)))) (nm := []) (n := 0) (args := [opE (UInt8.ofNat (11 + (a.toNat % 13))) [nmE 97,nmE 98],nmE 99]) (by decide) (Rep.mk (n := 2) (c := 2) m4 (RepZ.app (RepZ.single (ex_shut (op := (UInt8.ofNat (11 + (a.toNat % 13)))) (nm := []) (n := 0) (args := [nmE 97,nmE 98]) (by decide) (Rep.mk (n := 2) (c := 2) (m3.up u4.up) (RepZ.app (RepZ.single (ex_shut (op := 5) (nm := [97]) (n := 0) (args := []) (by decide) (Rep.empty (p := none) (c := 0) (by decide))) rfl) (RepZ.single (ex_shut (op := 5) (nm := [98]) (n := 0) (args := []) (by decide) (Rep.empty (p := none) (c := 0) (by decide))) rfl)) rfl (Nat.le_refl _) (by decide))) rfl) (RepZ.single (ex_shut (op := 5) (nm := [99]) (n := 0) (args := []) (by decide) (Rep.empty (p := none) (c := 0) (by decide))) rfl)) rfl (Nat.le_refl _) (by decide))
  refine .yv (.build Z (Fx.bld31_0_3 _ _ _ _)) Z<|.al Fx.zero31 Z fun b13 => .sW .head Z Z Fx.size31 (by simp [Value.oneCell',strV]) Z<|.nt<|.sq<|.sr<|.m Z Z<|.yv (.add Z Z (c := ((11 + (a.toNat % 13) : Nat) : Int)) ((w6 (by omega)).trans (by omega))) Z<|.yv (.call Fx.call12 Z (fun W s => level_any (11 + (a.toNat % 13)) W)) Z<|.m Z Z<|.yv (.add Z Z (c := ((11 + (b.toNat % 13) : Nat) : Int)) ((w6 (by omega)).trans (by omega))) Z<|.yv (.call Fx.call12 Z (fun W s => level_any (11 + (b.toNat % 13)) W)) Z<|.yv (.lss Z Z) Z<|.nt<|.cd Z (fun h84 => ?_) (fun h84 => ?_)
  ·try simp only [dt] at h84
   have hE : lvE (a.toNat % 13) (b.toNat % 13) = opE (UInt8.ofNat (11 + (a.toNat % 13))) [nmE 97,opE (UInt8.ofNat (11 + (b.toNat % 13))) [nmE 98,nmE 99]] := by unfold lvE;rw [if_pos (by omega)]
   refine .rg<|.m Z Z<|.yv (.call Fx.call13 Z (fun W s => name7_any [97] W)) Z<|.m Z Z<|.yv (.call Fx.call13 Z (fun W s => name7_any [98] W)) Z<|.yv (.call Fx.call13 Z (fun W s => name7_any [99] W)) Z<|.bl Z (Fx.bsl29_2 _ _ _ _ _ _ _ _) Z fun b90 => ?_
   refine Sx.freezeBox fun H5 u5 m5 => ?_
   refine .yv (.build Z (Fx.bld31_0_3 _ _ _ _)) Z<|.bl Z (Fx.bsl29_2 _ _ _ _ _ _ _ _) Z fun b92 => ?_
   refine Sx.freezeBox fun H6 u6 m6 => ?_
   have r93 : Rep H6 (dEx .u8 (opE (UInt8.ofNat (11 + (a.toNat % 13))) [nmE 97,opE (UInt8.ofNat (11 + (b.toNat % 13))) [nmE 98,nmE 99]])) _ := ex_shut (op := (UInt8.ofNat (11 + (a.toNat % 13)))) (nm := []) (n := 0) (args := [nmE 97,opE (UInt8.ofNat (11 + (b.toNat % 13))) [nmE 98,nmE 99]]) (by decide) (Rep.mk (n := 2) (c := 2) m6 (RepZ.app (RepZ.single (ex_shut (op := 5) (nm := [97]) (n := 0) (args := []) (by decide) (Rep.empty (p := none) (c := 0) (by decide))) rfl) (RepZ.single (ex_shut (op := (UInt8.ofNat (11 + (b.toNat % 13)))) (nm := []) (n := 0) (args := [nmE 98,nmE 99]) (by decide) (Rep.mk (n := 2) (c := 2) (m5.up u6.up) (RepZ.app (RepZ.single (ex_shut (op := 5) (nm := [98]) (n := 0) (args := []) (by decide) (Rep.empty (p := none) (c := 0) (by decide))) rfl) (RepZ.single (ex_shut (op := 5) (nm := [99]) (n := 0) (args := []) (by decide) (Rep.empty (p := none) (c := 0) (by decide))) rfl)) rfl (Nat.le_refl _) (by decide))) rfl)) rfl (Nat.le_refl _) (by decide))
   refine .yv (.build Z (Fx.bld31_0_3 _ _ _ _)) Z<|.sW .head Z Z Fx.size31 (by simp [Value.oneCell',strV]) Z<|.ns<|.m Z Z<|.yv (.cast (.eql Z Z) (congrArg Value.bool (decide_eq_true Z))) Z<|.m Z Z<|.gd Z Z<|.yv (.move Z) Z<|.gd Z Z<|.yv (.cast (.eql Z Z) (congrArg Value.bool (decide_eq_true Z))) Z<|.yv (.pickT Z Z) Z<|.m Z Z<|.gd Z Z<|.yv (.loadW Z Fx.agg31 (.tail _<|.head _) Z) Z<|.gd Z Z<|.yv (.loadW Z Fx.agg31 (.head _) Z) Z<|.gd Z Z<|.yv (.call Fx.call10 Z (fun W s => eqx_same _ (lvE (a.toNat % 13) (b.toNat % 13)) _ _ W (r1.up (u3.trans (u4.trans (u5.trans u6))).up) (by rw [hE];exact r93) s.agr)) Z<|.yv (.pickT Z Z) Z<|.a Z Z<|.nt<|.rt<|?_
   exact Sx.ret1 (.inl rfl) rfl (.tmp rfl) fun W s => ⟨rfl,s.ext⟩
  try simp only [df] at h84
  have hE : lvE (a.toNat % 13) (b.toNat % 13) = opE (UInt8.ofNat (11 + (b.toNat % 13))) [opE (UInt8.ofNat (11 + (a.toNat % 13))) [nmE 97,nmE 98],nmE 99] := by unfold lvE;rw [if_neg (by omega)]
  refine .sk<|.tN<|.sr<|.m Z Z<|.yv (.cast (.eql Z Z) (congrArg Value.bool (decide_eq_true Z))) Z<|.m Z Z<|.gd Z Z<|.yv (.move Z) Z<|.gd Z Z<|.yv (.cast (.eql Z Z) (congrArg Value.bool (decide_eq_true Z))) Z<|.yv (.pickT Z Z) Z<|.m Z Z<|.gd Z Z<|.yv (.loadW Z Fx.agg31 (.tail _<|.head _) Z) Z<|.gd Z Z<|.yv (.loadW Z Fx.agg31 (.head _) Z) Z<|.gd Z Z<|.yv (.call Fx.call10 Z (fun W s => eqx_same _ (lvE (a.toNat % 13) (b.toNat % 13)) _ _ W (r1.up (u3.trans u4).up) (by rw [hE];exact r13) s.agr)) Z<|.yv (.pickT Z Z) Z<|.a Z Z<|.nt<|.rt<|?_
  exact Sx.ret1 (.inl rfl) rfl (.tmp rfl) fun W s => ⟨rfl,s.ext⟩
 refine .al Fx.zero31 Z fun b10 => .h1<|.ct (X := List Value) Fx.call8 Z (fun W t => exprP_okG H1 (G.up u1.up) (lvT (a.toNat % 13) (b.toNat % 13)) (lvE (a.toNat % 13) (b.toNat % 13)) (by unfold lvT;simp only [List.length_append,List.length_cons,List.length_nil];omega) htr hck W t.agr) Z fun c1 H2 r1 u2 => ?_
 obtain ⟨x1,x2,x3,x4,rfl⟩ := four (ex_len r1)
 refine .m Z Z<|.yv (.extract Z Z) Z<|.yv (.extract Z Z) Z<|.yv (.extract Z Z) Z<|.h1<|.sW .head Z Z Fx.size31 (Rep.one r1) Z ((.yv (.extract Z Z)<|.yv (.extract Z Z)<|.done (by kernel_rfl)<|.done (by kernel_rfl)<|.done (by kernel_rfl)<|.done (by kernel_rfl)<|.done (by kernel_rfl)<|.done (by kernel_rfl)<|.done (by kernel_rfl)<|.done (by kernel_rfl)<|.done (by kernel_rfl)<|.done (by kernel_rfl)<|.done (by kernel_rfl)<|.done (by kernel_rfl)<|.done (by kernel_rfl)<|.done (by kernel_rfl)<|.nl))<|.a Z Z<|.fn (tl := [_]) Z<|.a Z Z<|.nt<|.sq<|.sr<|.m Z Z<|.yv (.add Z Z (c := ((11 + (a.toNat % 13) : Nat) : Int)) ((w6 (by omega)).trans (by omega))) Z<|.yv (.call Fx.call12 Z (fun W s => level_any (11 + (a.toNat % 13)) W)) Z<|.yv (.eql Z Z) Z<|.m Z Z<|.b2 (fun h50 => ?_) (fun h50 => ?_)
 ·skip
  refine .gd Z Z<|.yv (.move Z) Z<|.gd Z Z<|.yv (.add Z Z (c := ((11 + (b.toNat % 13) : Nat) : Int)) ((w6 (by omega)).trans (by omega))) Z<|.gd Z Z<|.yv (.call Fx.call12 Z (fun W s => level_any (11 + (b.toNat % 13)) W)) Z<|.gd Z Z<|.yv (.cast (.eql Z Z) (congrArg Value.bool (decide_eq_false (fun h => hc ⟨by have := of_decide_eq_true h50;omega,by omega⟩)))) Z<|.yv (.pickT Z Z) Z<|.nt<|.cF Z<|.sk<|.tN<|.sr<|.m Z Z<|.m Z Z<|.yv (.call Fx.call13 Z (fun W s => name7_any [97] W)) Z<|.yv (.call Fx.call13 Z (fun W s => name7_any [98] W)) Z<|.bl Z (Fx.bsl29_2 _ _ _ _ _ _ _ _) Z fun b73 => ?_
  refine Sx.freezeBox fun H3 u3 m3 => ?_
  refine .yv (.build Z (Fx.bld31_0_3 _ _ _ _)) Z<|.yv (.call Fx.call13 Z (fun W s => name7_any [99] W)) Z<|.bl Z (Fx.bsl29_2 _ _ _ _ _ _ _ _) Z fun b76 => ?_
  refine Sx.freezeBox fun H4 u4 m4 => ?_
  have r13 : Rep H4 (dEx .u8 (opE (UInt8.ofNat (11 + (b.toNat % 13))) [opE (UInt8.ofNat (11 + (a.toNat % 13))) [nmE 97,nmE 98],nmE 99])) _ := ex_shut (op := (UInt8.ofNat (11 + (b.toNat % 13)))) (nm := []) (n := 0) (args := [opE (UInt8.ofNat (11 + (a.toNat % 13))) [nmE 97,nmE 98],nmE 99]) (by decide) (Rep.mk (n := 2) (c := 2) m4 (RepZ.app (RepZ.single (ex_shut (op := (UInt8.ofNat (11 + (a.toNat % 13)))) (nm := []) (n := 0) (args := [nmE 97,nmE 98]) (by decide) (Rep.mk (n := 2) (c := 2) (m3.up u4.up) (RepZ.app (RepZ.single (ex_shut (op := 5) (nm := [97]) (n := 0) (args := []) (by decide) (Rep.empty (p := none) (c := 0) (by decide))) rfl) (RepZ.single (ex_shut (op := 5) (nm := [98]) (n := 0) (args := []) (by decide) (Rep.empty (p := none) (c := 0) (by decide))) rfl)) rfl (Nat.le_refl _) (by decide))) rfl) (RepZ.single (ex_shut (op := 5) (nm := [99]) (n := 0) (args := []) (by decide) (Rep.empty (p := none) (c := 0) (by decide))) rfl)) rfl (Nat.le_refl _) (by decide))
  refine .yv (.build Z (Fx.bld31_0_3 _ _ _ _)) Z<|.al Fx.zero31 Z fun b13 => .sW .head Z Z Fx.size31 (by simp [Value.oneCell',strV]) Z<|.nt<|.sq<|.sr<|.m Z Z<|.yv (.add Z Z (c := ((11 + (a.toNat % 13) : Nat) : Int)) ((w6 (by omega)).trans (by omega))) Z<|.yv (.call Fx.call12 Z (fun W s => level_any (11 + (a.toNat % 13)) W)) Z<|.m Z Z<|.yv (.add Z Z (c := ((11 + (b.toNat % 13) : Nat) : Int)) ((w6 (by omega)).trans (by omega))) Z<|.yv (.call Fx.call12 Z (fun W s => level_any (11 + (b.toNat % 13)) W)) Z<|.yv (.lss Z Z) Z<|.nt<|.cd Z (fun h84 => ?_) (fun h84 => ?_)
  ·try simp only [dt] at h84
   have hE : lvE (a.toNat % 13) (b.toNat % 13) = opE (UInt8.ofNat (11 + (a.toNat % 13))) [nmE 97,opE (UInt8.ofNat (11 + (b.toNat % 13))) [nmE 98,nmE 99]] := by unfold lvE;rw [if_pos (by omega)]
   refine .rg<|.m Z Z<|.yv (.call Fx.call13 Z (fun W s => name7_any [97] W)) Z<|.m Z Z<|.yv (.call Fx.call13 Z (fun W s => name7_any [98] W)) Z<|.yv (.call Fx.call13 Z (fun W s => name7_any [99] W)) Z<|.bl Z (Fx.bsl29_2 _ _ _ _ _ _ _ _) Z fun b90 => ?_
   refine Sx.freezeBox fun H5 u5 m5 => ?_
   refine .yv (.build Z (Fx.bld31_0_3 _ _ _ _)) Z<|.bl Z (Fx.bsl29_2 _ _ _ _ _ _ _ _) Z fun b92 => ?_
   refine Sx.freezeBox fun H6 u6 m6 => ?_
   have r93 : Rep H6 (dEx .u8 (opE (UInt8.ofNat (11 + (a.toNat % 13))) [nmE 97,opE (UInt8.ofNat (11 + (b.toNat % 13))) [nmE 98,nmE 99]])) _ := ex_shut (op := (UInt8.ofNat (11 + (a.toNat % 13)))) (nm := []) (n := 0) (args := [nmE 97,opE (UInt8.ofNat (11 + (b.toNat % 13))) [nmE 98,nmE 99]]) (by decide) (Rep.mk (n := 2) (c := 2) m6 (RepZ.app (RepZ.single (ex_shut (op := 5) (nm := [97]) (n := 0) (args := []) (by decide) (Rep.empty (p := none) (c := 0) (by decide))) rfl) (RepZ.single (ex_shut (op := (UInt8.ofNat (11 + (b.toNat % 13)))) (nm := []) (n := 0) (args := [nmE 98,nmE 99]) (by decide) (Rep.mk (n := 2) (c := 2) (m5.up u6.up) (RepZ.app (RepZ.single (ex_shut (op := 5) (nm := [98]) (n := 0) (args := []) (by decide) (Rep.empty (p := none) (c := 0) (by decide))) rfl) (RepZ.single (ex_shut (op := 5) (nm := [99]) (n := 0) (args := []) (by decide) (Rep.empty (p := none) (c := 0) (by decide))) rfl)) rfl (Nat.le_refl _) (by decide))) rfl)) rfl (Nat.le_refl _) (by decide))
   refine .yv (.build Z (Fx.bld31_0_3 _ _ _ _)) Z<|.sW .head Z Z Fx.size31 (by simp [Value.oneCell',strV]) Z<|.ns<|.m Z Z<|.yv (.cast (.eql Z Z) (congrArg Value.bool (decide_eq_true Z))) Z<|.m Z Z<|.gd Z Z<|.yv (.move Z) Z<|.gd Z Z<|.yv (.cast (.eql Z Z) (congrArg Value.bool (decide_eq_true Z))) Z<|.yv (.pickT Z Z) Z<|.m Z Z<|.gd Z Z<|.yv (.loadW Z Fx.agg31 (.tail _<|.head _) Z) Z<|.gd Z Z<|.yv (.loadW Z Fx.agg31 (.head _) Z) Z<|.gd Z Z<|.yv (.call Fx.call10 Z (fun W s => eqx_same _ (lvE (a.toNat % 13) (b.toNat % 13)) _ _ W (r1.up (u3.trans (u4.trans (u5.trans u6))).up) (by rw [hE];exact r93) s.agr)) Z<|.yv (.pickT Z Z) Z<|.a Z Z<|.nt<|.rt<|?_
   exact Sx.ret1 (.inl rfl) rfl (.tmp rfl) fun W s => ⟨rfl,s.ext⟩
  try simp only [df] at h84
  have hE : lvE (a.toNat % 13) (b.toNat % 13) = opE (UInt8.ofNat (11 + (b.toNat % 13))) [opE (UInt8.ofNat (11 + (a.toNat % 13))) [nmE 97,nmE 98],nmE 99] := by unfold lvE;rw [if_neg (by omega)]
  refine .sk<|.tN<|.sr<|.m Z Z<|.yv (.cast (.eql Z Z) (congrArg Value.bool (decide_eq_true Z))) Z<|.m Z Z<|.gd Z Z<|.yv (.move Z) Z<|.gd Z Z<|.yv (.cast (.eql Z Z) (congrArg Value.bool (decide_eq_true Z))) Z<|.yv (.pickT Z Z) Z<|.m Z Z<|.gd Z Z<|.yv (.loadW Z Fx.agg31 (.tail _<|.head _) Z) Z<|.gd Z Z<|.yv (.loadW Z Fx.agg31 (.head _) Z) Z<|.gd Z Z<|.yv (.call Fx.call10 Z (fun W s => eqx_same _ (lvE (a.toNat % 13) (b.toNat % 13)) _ _ W (r1.up (u3.trans u4).up) (by rw [hE];exact r13) s.agr)) Z<|.yv (.pickT Z Z) Z<|.a Z Z<|.nt<|.rt<|?_
  exact Sx.ret1 (.inl rfl) rfl (.tmp rfl) fun W s => ⟨rfl,s.ext⟩
 skip
 refine .gF Z Z Z Z<|.gF Z Z Z Z<|.gF Z Z Z Z<|.gF Z Z Z Z<|.yv (.pickF Z Z) Z<|.nt<|.cF Z<|.sk<|.tN<|.sr<|.m Z Z<|.m Z Z<|.yv (.call Fx.call13 Z (fun W s => name7_any [97] W)) Z<|.yv (.call Fx.call13 Z (fun W s => name7_any [98] W)) Z<|.bl Z (Fx.bsl29_2 _ _ _ _ _ _ _ _) Z fun b73 => ?_
 refine Sx.freezeBox fun H3 u3 m3 => ?_
 refine .yv (.build Z (Fx.bld31_0_3 _ _ _ _)) Z<|.yv (.call Fx.call13 Z (fun W s => name7_any [99] W)) Z<|.bl Z (Fx.bsl29_2 _ _ _ _ _ _ _ _) Z fun b76 => ?_
 refine Sx.freezeBox fun H4 u4 m4 => ?_
 have r13 : Rep H4 (dEx .u8 (opE (UInt8.ofNat (11 + (b.toNat % 13))) [opE (UInt8.ofNat (11 + (a.toNat % 13))) [nmE 97,nmE 98],nmE 99])) _ := ex_shut (op := (UInt8.ofNat (11 + (b.toNat % 13)))) (nm := []) (n := 0) (args := [opE (UInt8.ofNat (11 + (a.toNat % 13))) [nmE 97,nmE 98],nmE 99]) (by decide) (Rep.mk (n := 2) (c := 2) m4 (RepZ.app (RepZ.single (ex_shut (op := (UInt8.ofNat (11 + (a.toNat % 13)))) (nm := []) (n := 0) (args := [nmE 97,nmE 98]) (by decide) (Rep.mk (n := 2) (c := 2) (m3.up u4.up) (RepZ.app (RepZ.single (ex_shut (op := 5) (nm := [97]) (n := 0) (args := []) (by decide) (Rep.empty (p := none) (c := 0) (by decide))) rfl) (RepZ.single (ex_shut (op := 5) (nm := [98]) (n := 0) (args := []) (by decide) (Rep.empty (p := none) (c := 0) (by decide))) rfl)) rfl (Nat.le_refl _) (by decide))) rfl) (RepZ.single (ex_shut (op := 5) (nm := [99]) (n := 0) (args := []) (by decide) (Rep.empty (p := none) (c := 0) (by decide))) rfl)) rfl (Nat.le_refl _) (by decide))
 refine .yv (.build Z (Fx.bld31_0_3 _ _ _ _)) Z<|.al Fx.zero31 Z fun b13 => .sW .head Z Z Fx.size31 (by simp [Value.oneCell',strV]) Z<|.nt<|.sq<|.sr<|.m Z Z<|.yv (.add Z Z (c := ((11 + (a.toNat % 13) : Nat) : Int)) ((w6 (by omega)).trans (by omega))) Z<|.yv (.call Fx.call12 Z (fun W s => level_any (11 + (a.toNat % 13)) W)) Z<|.m Z Z<|.yv (.add Z Z (c := ((11 + (b.toNat % 13) : Nat) : Int)) ((w6 (by omega)).trans (by omega))) Z<|.yv (.call Fx.call12 Z (fun W s => level_any (11 + (b.toNat % 13)) W)) Z<|.yv (.lss Z Z) Z<|.nt<|.cd Z (fun h84 => ?_) (fun h84 => ?_)
 ·try simp only [dt] at h84
  have hE : lvE (a.toNat % 13) (b.toNat % 13) = opE (UInt8.ofNat (11 + (a.toNat % 13))) [nmE 97,opE (UInt8.ofNat (11 + (b.toNat % 13))) [nmE 98,nmE 99]] := by unfold lvE;rw [if_pos (by omega)]
  refine .rg<|.m Z Z<|.yv (.call Fx.call13 Z (fun W s => name7_any [97] W)) Z<|.m Z Z<|.yv (.call Fx.call13 Z (fun W s => name7_any [98] W)) Z<|.yv (.call Fx.call13 Z (fun W s => name7_any [99] W)) Z<|.bl Z (Fx.bsl29_2 _ _ _ _ _ _ _ _) Z fun b90 => ?_
  refine Sx.freezeBox fun H5 u5 m5 => ?_
  refine .yv (.build Z (Fx.bld31_0_3 _ _ _ _)) Z<|.bl Z (Fx.bsl29_2 _ _ _ _ _ _ _ _) Z fun b92 => ?_
  refine Sx.freezeBox fun H6 u6 m6 => ?_
  have r93 : Rep H6 (dEx .u8 (opE (UInt8.ofNat (11 + (a.toNat % 13))) [nmE 97,opE (UInt8.ofNat (11 + (b.toNat % 13))) [nmE 98,nmE 99]])) _ := ex_shut (op := (UInt8.ofNat (11 + (a.toNat % 13)))) (nm := []) (n := 0) (args := [nmE 97,opE (UInt8.ofNat (11 + (b.toNat % 13))) [nmE 98,nmE 99]]) (by decide) (Rep.mk (n := 2) (c := 2) m6 (RepZ.app (RepZ.single (ex_shut (op := 5) (nm := [97]) (n := 0) (args := []) (by decide) (Rep.empty (p := none) (c := 0) (by decide))) rfl) (RepZ.single (ex_shut (op := (UInt8.ofNat (11 + (b.toNat % 13)))) (nm := []) (n := 0) (args := [nmE 98,nmE 99]) (by decide) (Rep.mk (n := 2) (c := 2) (m5.up u6.up) (RepZ.app (RepZ.single (ex_shut (op := 5) (nm := [98]) (n := 0) (args := []) (by decide) (Rep.empty (p := none) (c := 0) (by decide))) rfl) (RepZ.single (ex_shut (op := 5) (nm := [99]) (n := 0) (args := []) (by decide) (Rep.empty (p := none) (c := 0) (by decide))) rfl)) rfl (Nat.le_refl _) (by decide))) rfl)) rfl (Nat.le_refl _) (by decide))
  refine .yv (.build Z (Fx.bld31_0_3 _ _ _ _)) Z<|.sW .head Z Z Fx.size31 (by simp [Value.oneCell',strV]) Z<|.ns<|.m Z Z<|.yv (.cast (.eql Z Z) (congrArg Value.bool (decide_eq_true Z))) Z<|.m Z Z<|.gd Z Z<|.yv (.move Z) Z<|.gd Z Z<|.yv (.cast (.eql Z Z) (congrArg Value.bool (decide_eq_true Z))) Z<|.yv (.pickT Z Z) Z<|.m Z Z<|.gd Z Z<|.yv (.loadW Z Fx.agg31 (.tail _<|.head _) Z) Z<|.gd Z Z<|.yv (.loadW Z Fx.agg31 (.head _) Z) Z<|.gd Z Z<|.yv (.call Fx.call10 Z (fun W s => eqx_same _ (lvE (a.toNat % 13) (b.toNat % 13)) _ _ W (r1.up (u3.trans (u4.trans (u5.trans u6))).up) (by rw [hE];exact r93) s.agr)) Z<|.yv (.pickT Z Z) Z<|.a Z Z<|.nt<|.rt<|?_
  exact Sx.ret1 (.inl rfl) rfl (.tmp rfl) fun W s => ⟨rfl,s.ext⟩
 try simp only [df] at h84
 have hE : lvE (a.toNat % 13) (b.toNat % 13) = opE (UInt8.ofNat (11 + (b.toNat % 13))) [opE (UInt8.ofNat (11 + (a.toNat % 13))) [nmE 97,nmE 98],nmE 99] := by unfold lvE;rw [if_neg (by omega)]
 refine .sk<|.tN<|.sr<|.m Z Z<|.yv (.cast (.eql Z Z) (congrArg Value.bool (decide_eq_true Z))) Z<|.m Z Z<|.gd Z Z<|.yv (.move Z) Z<|.gd Z Z<|.yv (.cast (.eql Z Z) (congrArg Value.bool (decide_eq_true Z))) Z<|.yv (.pickT Z Z) Z<|.m Z Z<|.gd Z Z<|.yv (.loadW Z Fx.agg31 (.tail _<|.head _) Z) Z<|.gd Z Z<|.yv (.loadW Z Fx.agg31 (.head _) Z) Z<|.gd Z Z<|.yv (.call Fx.call10 Z (fun W s => eqx_same _ (lvE (a.toNat % 13) (b.toNat % 13)) _ _ W (r1.up (u3.trans u4).up) (by rw [hE];exact r13) s.agr)) Z<|.yv (.pickT Z Z) Z<|.a Z Z<|.nt<|.rt<|?_
 exact Sx.ret1 (.inl rfl) rfl (.tmp rfl) fun W s => ⟨rfl,s.ext⟩
theorem parserLevels_any (H : Hp) (G : Gl H) (a b : UInt8) (w : World) (hA : Agr H w) : Calls Tryd.prog 4 #[.int .u8 a.toNat,.int .u8 b.toNat] w fun r w' => r = .returned (.bool true) ∧ Ext w w' := by
 by_cases hc : lvN (11 + (a.toNat % 13)) = 3 ∧ lvN (11 + (b.toNat % 13)) = 3
 ·exact levels_chain H G a b hc w hA
 ·exact levels_tree H G a b hc w hA
variable {H : Type} {enc : TypeId × Value → H}
theorem wrap {a : Assume} {C : Checked} {os : Os} {f : FuncId} {fn : Func} {s : ChangeSpec} {conds : List PathCond} {apart fresh handsOn again : Bool} {X : World → Array Value → Prop}
 (hX : ∀ (w w' : World) (args : Array Value),w.heap = w'.heap → X w args → X w' args)
 (own : ownKnob C.prog.godebug = none) (started : os.Started) (noInit : C.prog.inits.idxOf? f = none) (hfn : C.prog.funcs[f]? = some fn)
 (witness : ∃ (w : World) (tape : Tape) (i : Input),w.os = os ∧ (w.forCall tape i).Shaped C.prog ∧ i.vars = [] ∧ Input.okWide C.prog (w.forCall tape i) .any w.heap.size f i ∧
  ((s.pre enc C.prog fn conds apart (w.forCall tape i).memory i.args ∧ X (w.forCall tape i).memory i.args) ∧ sizedMet enc C.prog fn (OpenSpec.ofChange s) apart (w.forCall tape i).memory i.args) ∧ a.holds C.prog (lone (Frame.enter C.prog f i.args .normal) [] (w.forCall tape i)))
 (contract : ∀ (W : World) (base : Nat) (args : Array Value) (ds gs : List (DataW H)) (before : List MemPlace),
  (∀ (j : Nat) t v,fn.params[j]? = some t → args[j]? = some v → Value.okWide C.prog W .any base t v) →
  DataW.Whole enc C.prog fn.params.toList s.vars apart W args.toList ds gs before →
  X W args → W.ShapedOpen C.prog →
  Calls C.prog f args W fun e W' => ∃ v,e = .returned v ∧ s.post enc C.prog fn apart fresh handsOn again W args v W') :
 ReturnsInHanded a C os f .any (fun w args => (s.pre enc C.prog fn conds apart w args ∧ X w args) ∧ sizedMet enc C.prog fn (OpenSpec.ofChange s) apart w args) (s.post enc C.prog fn apart fresh handsOn again) := by
 refine returnsInHanded_of_calls own started noInit witness ?_
 intro w tape i _ hsh _ hok hpre _
 obtain ⟨_,_,_,fn',hfn',_,_,_,_,hval⟩ := hok
 have e : fn' = fn := Option.some.inj (hfn'.symm.trans hfn)
 subst e
 obtain ⟨⟨⟨ds,gs,before,hw,_⟩,hx⟩,_⟩ := hpre
 have hw' := DataW.Whole.of_heap (w' := w.forCall tape i) (by rfl) hw
 refine (contract (w.forCall tape i) w.heap.size i.args ds gs before hval hw' (hX _ _ _ (by rfl) hx) hsh).mono fun e W' ⟨v,he,hp⟩ => ?_
 subst he
 exact ChangeSpec.post_blind hp

theorem own : ownKnob Tryd.prog.godebug = none := by kernel_rfl
def laids : List (String × DataW Unit) := [("rootcause/lexer.words",Rows.laid_rootcause_lexer_words),("rootcause/lexer.symbols",Rows.laid_rootcause_lexer_symbols),("rootcause/syntax.shapes",Rows.laid_rootcause_syntax_shapes),("rootcause/syntax.forms",Rows.laid_rootcause_syntax_forms)]
theorem gl_of {W : World} (h : laidMet Tryd.prog laids W) : Gl (allH W) :=
 ⟨laid_mem (t := 101) (.arr 24 (.str [.int .i64,.bool,.int .i64,.strg])) _ (by kernel_rfl) (by kernel_rfl) (by kernel_rfl) (by kernel_rfl) (by kernel_rfl) h.tail.tail,
  laid_mem (t := 161) (.arr 11 (.str [.bool,.bool,.int .i64,.int .i64,.bool,.bool])) _ (by kernel_rfl) (by kernel_rfl) (by kernel_rfl) (by kernel_rfl) (by kernel_rfl) h.tail.tail.tail,
  laid_mem (t := 153) (.arr 39 .strg) _ (by kernel_rfl) (by kernel_rfl) (by kernel_rfl) (by kernel_rfl) (by kernel_rfl) h,
  laid_mem (t := 131) (.arr 25 .strg) _ (by kernel_rfl) (by kernel_rfl) (by kernel_rfl) (by kernel_rfl) (by kernel_rfl) h.tail⟩
theorem laid_met (os : Os) (args : Array Value) : laidMet Tryd.prog laids ((World.laidAll Tryd.prog os laids).forCall (fun _ _ => 0) ⟨#[],args,[]⟩).memory :=
 laidMet_laidAll _ (by kernel_rfl) (by kernel_rfl)
theorem laid_shaped (os : Os) (args : Array Value) : ((World.laidAll Tryd.prog os laids).forCall (fun _ _ => 0) ⟨#[],args,[]⟩).Shaped Tryd.prog :=
 World.shaped_of_ZipB (by kernel_rfl) (by kernel_rfl)
theorem ext_kept {W W' : World} (h : Ext W W') : ∀ may,W.keptBut W' may := fun may => (Ext.below h).frame may
theorem laidOut : laidOutB Tryd.prog = true := by kernel_rfl
end Go.Proofs.YthhoebdlfjffkaaDoor
