/- Texts of the proof, one behind the other. -/
import Derived.Test.YtmbiojpcidccjaaGreatDoorMe
import Derived.Lib.ItoaNum
import Derived.Lib.ItoaLen
import Derived.Lib.ParseIntB
import Derived.Lib.ParseIntBCases
import Derived.Lib.IndexMore
set_option linter.all false
namespace Go.Proofs.YtmbiojpcidccjaaGreatDoor
open Go.RowKit Go.Par Go.Sx
structure Sp where
 wh : UInt8
 i : UInt8
 nm : UInt8
 n : Int64
 nodes : List Nd
def dSp (x : Sp) : D := .str [.val (.int .u8 x.wh.toNat),.val (.int .u8 x.i.toNat),.val (.int .u8 x.nm.toNat),.val (.int .i64 x.n.toInt),.seq 5 (x.nodes.map dNd)]
theorem sp_open {H : Hp} {x : Sp} {cs : List Value} (h : Rep H (dSp x) cs) : ∃ p c,cs = [.int .u8 x.wh.toNat,.int .u8 x.i.toNat,.int .u8 x.nm.toNat,.int .i64 x.n.toInt,.slice p x.nodes.length c] ∧ Rep H (.seq 5 (x.nodes.map dNd)) [.slice p x.nodes.length c] := by
 rw [dSp,repS] at h
 obtain ⟨_,rfl,_,_,h⟩ := repL_val.1 h
 obtain ⟨_,rfl,_,_,h⟩ := repL_val.1 h
 obtain ⟨_,rfl,_,_,h⟩ := repL_val.1 h
 obtain ⟨_,rfl,_,_,h⟩ := repL_val.1 h
 obtain ⟨p,c,_,rfl,hs,h⟩ := repL_seq.1 h
 rw [repL_nil] at h
 subst h
 rw [List.length_map] at hs ⊢
 exact ⟨p,c,rfl,hs⟩
def stopS : Sm := .mk 10 [] [] [] [] []
def wrapS : Nat → Sm → Sm
 | 0,s => s
 | n + 1,s => .mk 4 [] [] [.mk 2 [] 0 []] [wrapS n s] []
def okE (e : Ex) : Bool := decide (e.depth ≤ 64) && Ex.all narrow e
def okS2 (N : Nat) : Sm → Bool
 | .mk _ _ _ ex _ _ => decide (ex.length ≤ N) && ex.all okE
structure okL (N : Nat) (l : List Sm) : Prop where
 cnt : Sm.counts l ≤ N
 dep : Sm.deeps l ≤ N
 all : Sm.alls (okS2 N) l = true
mutual
theorem sall_imp {q q' : Sm → Bool} (h : ∀ s,q s = true → q' s = true) : ∀ s,Sm.all q s = true → Sm.all q' s = true
 | .mk kd nm hd ex th el,hh => by
  rw [sall_mk] at hh ⊢
  simp only [Bool.and_eq_true] at hh ⊢
  exact ⟨⟨h _ hh.1.1,salls_imp h th hh.1.2⟩,salls_imp h el hh.2⟩
theorem salls_imp {q q' : Sm → Bool} (h : ∀ s,q s = true → q' s = true) : ∀ l,Sm.alls q l = true → Sm.alls q' l = true
 | [],_ => rfl
 | s :: r,hh => by
  rw [Sm.alls,Bool.and_eq_true] at hh ⊢
  exact ⟨sall_imp h s hh.1,salls_imp h r hh.2⟩
end
theorem okS2_mono {N M : Nat} (h : N ≤ M) : ∀ s,okS2 N s = true → okS2 M s = true
 | .mk _ _ _ ex _ _,hh => by
  simp only [okS2,Bool.and_eq_true,decide_eq_true_eq] at hh ⊢
  exact ⟨by omega,hh.2⟩
theorem okL.mono {N M : Nat} {l : List Sm} (h : okL N l) (k : N ≤ M) : okL M l := ⟨by have := h.cnt;omega,by have := h.dep;omega,salls_imp (okS2_mono k) l h.all⟩
theorem okL.nil {N : Nat} : okL N [] := ⟨by simp [Sm.counts],by simp [Sm.deeps],rfl⟩
theorem okL.app {N M : Nat} {a b : List Sm} (h : okL N a) (k : okL M b) : okL (N + M) (a ++ b) := by
 have h2 := h.mono (M := N + M) (by omega)
 have k2 := k.mono (M := N + M) (by omega)
 refine ⟨?_,?_,?_⟩
 ·rw [scounts_app];have := h.cnt;have := k.cnt;omega
 ·rw [sdeeps_app];have := h2.dep;have := k2.dep;omega
 ·rw [salls_app,h2.all,k2.all];rfl
theorem okL.len {N : Nat} {l : List Sm} (h : okL N l) : l.length ≤ N := Nat.le_trans (scounts_len l) h.cnt
theorem okL.left {N : Nat} {a b : List Sm} (h : okL N (a ++ b)) : okL N a := by
 obtain ⟨h1,h2,h3⟩ := h
 rw [scounts_app] at h1
 rw [sdeeps_app] at h2
 rw [salls_app,Bool.and_eq_true] at h3
 exact ⟨by omega,by omega,h3.1⟩
theorem okL.right {N : Nat} {a b : List Sm} (h : okL N (a ++ b)) : okL N b := by
 obtain ⟨h1,h2,h3⟩ := h
 rw [scounts_app] at h1
 rw [sdeeps_app] at h2
 rw [salls_app,Bool.and_eq_true] at h3
 exact ⟨by omega,by omega,h3.2⟩
theorem split_at {α : Type} {l : List α} {j : Nat} (h : j < l.length) : l = l.take j ++ ([l[j]] ++ l.drop (j + 1)) := by simp
theorem set_at {α : Type} {l : List α} {j : Nat} (h : j < l.length) (s : α) : l.set j s = l.take j ++ ([s] ++ l.drop (j + 1)) := by
 rw [List.set_eq_take_append_cons_drop,if_pos h];rfl
theorem okL.at {N : Nat} {l : List Sm} (h : okL N l) {j : Nat} (hj : j < l.length) : okL N [l[j]] := by
 have h2 := h
 rw [split_at hj] at h2
 exact h2.right.left
theorem okL.put {N M : Nat} {l : List Sm} (h : okL N l) {j : Nat} (hj : j < l.length) {s : Sm} (k : okL (N + M) [s]) : okL (N + (N + M)) (l.set j s) := by
 have h2 := h
 rw [split_at hj] at h2
 have h3 : okL N (l.take j ++ l.drop (j + 1)) := by
  obtain ⟨a1,a2,a3⟩ := h2
  simp only [scounts_app,sdeeps_app,salls_app,Bool.and_eq_true] at a1 a2 a3
  refine ⟨?_,?_,?_⟩
  ·rw [scounts_app];omega
  ·rw [sdeeps_app];omega
  ·rw [salls_app,a3.1,a3.2.2];rfl
 rw [set_at hj]
 obtain ⟨a1,a2,a3⟩ := h3
 obtain ⟨b1,b2,b3⟩ := k
 rw [scounts_app] at a1
 rw [sdeeps_app] at a2
 rw [salls_app,Bool.and_eq_true] at a3
 have m1 := okS2_mono (N := N) (M := N + (N + M)) (by omega)
 have m2 := okS2_mono (N := N + M) (M := N + (N + M)) (by omega)
 refine ⟨?_,?_,?_⟩
 ·rw [scounts_app,scounts_app];omega
 ·rw [sdeeps_app,sdeeps_app];omega
 ·rw [salls_app,salls_app,salls_imp m1 _ a3.1,salls_imp m2 _ b3,salls_imp m1 _ a3.2];rfl
theorem okL_one {N : Nat} {kd : UInt8} {nm hd : Str} {ex : List Ex} {th el : List Sm} : okL N [.mk kd nm hd ex th el] ↔ Sm.counts th + Sm.counts el + 1 ≤ N ∧ Sm.deeps th + 1 ≤ N ∧ Sm.deeps el + 1 ≤ N ∧ ex.length ≤ N ∧ ex.all okE = true ∧ Sm.alls (okS2 N) th = true ∧ Sm.alls (okS2 N) el = true := by
 constructor
 ·rintro ⟨h1,h2,h3⟩
  simp only [Sm.counts,scount_mk] at h1
  simp only [Sm.deeps,sdepth_mk] at h2
  simp only [Sm.alls,sall_mk,okS2,Bool.and_eq_true,decide_eq_true_eq] at h3
  exact ⟨by omega,by omega,by omega,h3.1.1.1.1,h3.1.1.1.2,h3.1.1.2,h3.1.2⟩
 ·rintro ⟨h1,h2,h3,h4,h5,h6,h7⟩
  refine ⟨?_,?_,?_⟩
  ·simp only [Sm.counts,scount_mk];omega
  ·simp only [Sm.deeps,sdepth_mk];omega
  ·simp only [Sm.alls,sall_mk,okS2,Bool.and_eq_true,decide_eq_true_eq]
   exact ⟨⟨⟨⟨h4,h5⟩,h6⟩,h7⟩,trivial⟩
theorem okL_stop {N : Nat} (h : 1 ≤ N) : okL N [stopS] := okL_one.2 ⟨by simp [Sm.counts];omega,by simp [Sm.deeps];omega,by simp [Sm.deeps];omega,by simp,rfl,rfl,rfl⟩
theorem okL_wrap {N : Nat} {s : Sm} (h : okL N [s]) : ∀ n,okL (N + n) [wrapS n s]
 | 0 => h
 | n + 1 => by
  have ih := okL_wrap h n
  refine okL_one.2 ⟨?_,?_,?_,?_,?_,salls_imp (okS2_mono (by omega)) _ ih.all,rfl⟩
  ·have := ih.cnt;simp only [Sm.counts] at this ⊢;omega
  ·have := ih.dep;omega
  ·simp [Sm.deeps];omega
  ·simp;omega
  ·decide
theorem okE_good {e : Ex} (h : goodE 1 e) : okE e = true := by
 simp only [okE,Bool.and_eq_true,decide_eq_true_eq]
 exact ⟨by have := h.1;omega,h.2⟩
def Grew (s s' : Sm) : Prop := ∀ N,okL N [s] → okL (N + 20) [s']
theorem grew_kind {kd kd' : UInt8} {nm hd nm' hd' : Str} {ex : List Ex} {th el : List Sm} : Grew (.mk kd nm hd ex th el) (.mk kd' nm' hd' ex th el) := fun N h => by
 obtain ⟨h1,h2,h3,h4,h5,h6,h7⟩ := okL_one.1 h
 exact okL_one.2 ⟨by omega,by omega,by omega,by omega,h5,salls_imp (okS2_mono (by omega)) _ h6,salls_imp (okS2_mono (by omega)) _ h7⟩
theorem grew_add {kd : UInt8} {nm hd : Str} {ex : List Ex} {th el : List Sm} {e : Ex} (he : goodE 1 e) : Grew (.mk kd nm hd ex th el) (.mk kd nm hd (ex ++ [e]) th el) := fun N h => by
 obtain ⟨h1,h2,h3,h4,h5,h6,h7⟩ := okL_one.1 h
 exact okL_one.2 ⟨by omega,by omega,by omega,by rw [List.length_append,List.length_singleton];omega,by rw [List.all_append,h5];simp [okE_good he],salls_imp (okS2_mono (by omega)) _ h6,salls_imp (okS2_mono (by omega)) _ h7⟩
theorem grew_one {kd : UInt8} {nm hd : Str} {ex : List Ex} {th el : List Sm} {e : Ex} (he : goodE 1 e) : Grew (.mk kd nm hd ex th el) (.mk kd nm hd [e] th el) := fun N h => by
 obtain ⟨h1,h2,h3,h4,h5,h6,h7⟩ := okL_one.1 h
 exact okL_one.2 ⟨by omega,by omega,by omega,by simp,by simp [okE_good he],salls_imp (okS2_mono (by omega)) _ h6,salls_imp (okS2_mono (by omega)) _ h7⟩
theorem grew_then {kd : UInt8} {nm hd : Str} {ex : List Ex} {th el : List Sm} : Grew (.mk kd nm hd ex th el) (.mk kd nm hd ex [stopS] el) := fun N h => by
 obtain ⟨h1,h2,h3,h4,h5,h6,h7⟩ := okL_one.1 h
 have hs := okL_stop (N := N + 20) (by omega)
 exact okL_one.2 ⟨by have : Sm.counts [stopS] = 1 := by decide
                     omega, by have : Sm.deeps [stopS] = 1 := by decide
                               omega,by omega,by omega,h5,hs.all,salls_imp (okS2_mono (by omega)) _ h7⟩
theorem grew_else {kd : UInt8} {nm hd : Str} {ex : List Ex} {th el : List Sm} : Grew (.mk kd nm hd ex th el) (.mk kd nm hd ex th [stopS]) := fun N h => by
 obtain ⟨h1,h2,h3,h4,h5,h6,h7⟩ := okL_one.1 h
 have hs := okL_stop (N := N + 20) (by omega)
 exact okL_one.2 ⟨by have : Sm.counts [stopS] = 1 := by decide
                     omega, by omega, by have : Sm.deeps [stopS] = 1 := by decide
                                         omega,by omega,h5,salls_imp (okS2_mono (by omega)) _ h6,hs.all⟩
theorem grew_wrap {s : Sm} {n : Nat} (h : n < 13) : Grew s (wrapS n s) := fun N k => (okL_wrap k n).mono (by omega)
theorem grew_refl (s : Sm) : Grew s s := fun N k => k.mono (by omega)
structure okHd (N : Nat) (h : Hd) : Prop where
 ps : h.ps.length ≤ N
 body : okL N h.body
theorem okHd.mono {N M : Nat} {h : Hd} (k : okHd N h) (l : N ≤ M) : okHd M h := ⟨by have := k.ps;omega,k.body.mono l⟩
structure okV2 (N : Nat) (v : List Hd) : Prop where
 len : v.length ≤ N
 all : ∀ h ∈ v,okHd N h
theorem okV2.mono {N M : Nat} {v : List Hd} (k : okV2 N v) (l : N ≤ M) : okV2 M v := ⟨by have := k.len;omega,fun h m => (k.all h m).mono l⟩
theorem okV2.nil {N : Nat} : okV2 N [] := ⟨by simp,fun _ h => by cases h⟩
structure okCp (N : Nat) (c : Cp) : Prop where
 vars : c.vars.length ≤ N
 vers : c.vers.length ≤ N
 all : ∀ v ∈ c.vers,okV2 N v
theorem okCp.mono {N M : Nat} {c : Cp} (k : okCp N c) (l : N ≤ M) : okCp M c := ⟨by have := k.vars;omega,by have := k.vers;omega,fun v m => (k.all v m).mono l⟩
structure okFt (N : Nat) (f : Ft) : Prop where
 flags : f.flags.length ≤ N
 links : f.links.length ≤ N
 comps : f.comps.length ≤ N
 pos : 0 < f.comps.length
 all : ∀ c ∈ f.comps,okCp N c
theorem okFt.mono {N M : Nat} {f : Ft} (k : okFt N f) (l : N ≤ M) : okFt M f := ⟨by have := k.flags;omega,by have := k.links;omega,by have := k.comps;omega,k.pos,fun c m => (k.all c m).mono l⟩
theorem qu8 (a : Nat) {b : Nat} (h : a < 256) (hb : 0 < b) : IntKind.u8.wrap (Int.tdiv (a : Int) (b : Int)) = ((a / b : Nat) : Int) := by
 rw [Int.tdiv_eq_ediv_of_nonneg (Int.natCast_nonneg _),show (a : Int) / (b : Int) = ((a / b : Nat) : Int) from rfl]
 have h3 : ∀ n : Nat,n < 256 → IntKind.u8.wrap (n : Int) = (n : Int) := fun n hn => by
  have key : ∀ i ∈ List.range 256,IntKind.u8.wrap (i : Int) = (i : Int) := by decide +kernel
  exact key n (List.mem_range.2 hn)
 exact h3 _ (Nat.lt_of_le_of_lt (Nat.div_le_self _ _) h)
theorem wu64 (i : Int) : ∃ m : Nat,IntKind.u64.wrap i = (m : Int) := ⟨(IntKind.u64.wrap i).toNat,by
 have : 0 ≤ IntKind.u64.wrap i := by simp only [IntKind.wrap,IntKind.signed,IntKind.bits];simp;omega
 omega⟩
theorem ofN13 {m : Nat} (h : m < 13) : (UInt8.ofNat m).toNat = m := by rw [UInt8.toNat_ofNat'];omega
theorem sm_len {H : Hp} {k : IntKind} {s : Sm} {cs : List Value} (h : Rep H (dSm k s) cs) : cs.length = 6 := by
 obtain ⟨kd,nm,hd,ex,th,el⟩ := s
 obtain ⟨p1,c1,p2,c2,p3,c3,rfl,_⟩ := sm_open h
 rfl
set_option maxRecDepth 100000 in
theorem wrap_any (H : Hp) (s : Sm) (n : Nat) (hn : n ≤ 100) (cs : List Value) (w : World) (h : Rep H (dSm .i64 s) cs) (hA : Agr H w) : Calls Tryz.prog 93 #[.agg cs.toArray,.int .i64 (n : Nat)] w fun r w' => ∃ (v : List Value) (H' : Hp),Rep H' (dSm .i64 (wrapS n s)) v ∧ r = .returned (.agg v.toArray) ∧ Grow H w H' w' := by
 refine Sx.enter (H := H) Tryz.func93 rfl Tryz.ntmps93 rfl hA ?_
 refine .sr<|.bx Z Z Z fun b2 => .al Fx.zero150 Z fun b4 => .nt<|.sq<|.sr<|.a Z Z<|.nt<|.bk<|.pm [1,0] [_,_] Z Z<|.lp (X := Nat × Hp × List Value) [(1,_),(2,_),(4,_)] ⟨rfl,rfl,rfl,trivial⟩ [_] (fun z => [(5,.int .i64 (z.1 : Nat))]) (fun z => z.2.1) (fun z => [.box b2 z.2.2 150]) (fun z => z.1 ≤ n ∧ HUp w H z.2.1 ∧ Rep z.2.1 (dSm .i64 (wrapS z.1 s)) z.2.2) (fun z => n - z.1) (0,H,_) (fun _ s => s) ⟨rfl,trivial⟩ ⟨by simp,.refl,h⟩ fun z hC => ?_
 obtain ⟨k,H1,xs⟩ := z
 dsimp only at hC ⊢
 obtain ⟨hk0,u1,hr⟩ := hC
 generalize hw : wrapS k s = s1 at hr
 obtain ⟨kd,nm,hd,ex,th,el⟩ := s1
 obtain ⟨p1,c1,p2,c2,p3,c3,rfl,hs1,hs2,hs3,hn1,hn2⟩ := sm_open hr
 refine .sq<|.sr<|.m Z Z<|.m Z Z<|.yv (.lss Z Z) Z<|.nt<|.cd Z (fun h8 => ?_) (fun h8 => ?_)
 ·try simp only [dt] at h8
  have hk : k < n := by omega
  refine .sk<|.tN<|.sq<|.bk<|.rg<|.yv (.build Z (Fx.bld51_0 _)) Z<|.bl Z (Fx.bsl49_1 _ _ _ _) Z fun b12 => .yv (.loadW Z Fx.agg150 (.tail _<|.head _) Z) Z<|.bl Z (Fx.bsl98_1 _ _ _ _ _ _) Z fun b14 => .yv (.build Z (Fx.bld150_0_3_4 _ _ _ _ _ _ _)) Z<|.sW (.tail<|.tail<|.head) Z Z Fx.size150 (by simp [Value.oneCell',strV]) Z<|?_
  refine Sx.freezeBox fun Ha ua ma => ?_
  refine Sx.freezeBox fun Hb ub mb => ?_
  exact .nl<|.bN<|.tN<|.rg<|.m Z Z<|.yv (.add Z Z (w6 (by omega))) Z<|.a Z Z<|.nt<|.ag (x := (k,H1,[.int .i64 kd.toNat,strV nm,strV hd,.slice p1 ex.length c1,.slice p2 th.length c2,.slice p3 el.length c3])) (k + 1,Hb,[.int .i64 4,.string ⟨#[]⟩,.string ⟨#[]⟩,.slice (some ⟨b12,0,none⟩) 1 1,.slice (some ⟨b14,0,none⟩) 1 1,.slice none 0 0]) ⟨rfl,trivial⟩ ⟨rfl,rfl,rfl,trivial⟩ (fun _ s => (s.pick [0,1] _ Z Z)) ⟨by dsimp only;omega,u1.trans (ua.trans ub),by dsimp only;rw [wrapS,hw];exact sm_shut (kd := 4) (nm := []) (hd := []) (ex := [.mk 2 [] 0 []]) (el := []) (by decide) (by decide) (Rep.mk (n := 1) (c := 1) mb (.single (ex_shut (op := 2) (nm := []) (n := 0) (args := []) (by decide) (Rep.empty (by decide))) Z) Z (Nat.le_refl _) (by decide)) (Rep.mk (n := 1) (c := 1) (ma.up ub.up) (.single (hr.up (ua.trans ub).up) Z) Z (Nat.le_refl _) (by decide)) (Rep.empty (by decide))⟩ (by dsimp only;omega)
 try simp only [df] at h8
 obtain rfl : k = n := by omega
 refine .ex<|.tE<|.tE<|.bE<|.tN<|.sr<|.yv (.loadW Z Fx.agg150 (.head _) Z) Z<|.sW (.tail<|.head) Z Z Fx.size150 (by simp [Value.oneCell',strV]) Z<|.nt<|.rt<|?_
 exact Sx.ret1 (.inl rfl) rfl (.cell rfl Fx.agg150 (.tail _<|.head _) rfl) fun W t => ⟨_,H1,by rw [hw];exact hr,rfl,u1.grow t⟩
set_option maxRecDepth 100000 in
theorem change_any (H : Hp) (s : Sm) (x : Sp) (cs xs : List Value) (w : World) (h : Rep H (dSm .i64 s) cs) (hX : Rep H (dSp x) xs) (hs : s.ex.length ≤ 1000000) (hA : Agr H w) : Calls Tryz.prog 94 #[.agg cs.toArray,.agg xs.toArray] w fun r w' => ∃ (v : List Value) (H' : Hp),(∃ s',Rep H' (dSm .i64 s') v ∧ Grew s s') ∧ r = .returned (.agg v.toArray) ∧ Grow H w H' w' := by
 obtain ⟨kd,nm,hd,ex,th,el⟩ := s
 obtain ⟨p1,c1,p2,c2,p3,c3,rfl,hs1,hs2,hs3,hn1,hn2⟩ := sm_open h
 obtain ⟨pN,cN,rfl,hN⟩ := sp_open hX
 have hs : ex.length ≤ 1000000 := hs
 obtain ⟨m0,hm0⟩ := wu64 x.n.toInt
 obtain ⟨m,hmm⟩ : ∃ m,m = m0 % 13 := ⟨_,rfl⟩
 have hm13 : m < 13 := by omega
 refine Sx.enter (H := H) Tryz.func94 rfl Tryz.ntmps94 rfl hA ?_
 refine .sr<|.bx Z Z Z fun b2 => .bx Z Z Z fun b3 => .al Fx.zero150 Z fun b4 => .ns<|.yv (.fieldAddr Z Fx.field55_3) Z<|.yv (.load Z Fx.agg2 (.tail _<|.head _) Z) Z<|.yv (.conv Z Fx.int2 Fx.int139 hm0) Z<|.yv (.rem Z Z (by decide) (c := ((m : Nat) : Int)) (by rw [hmm];exact tm2 _ 13)) Z<|.yv (.conv Z Fx.int139 Fx.int3 (c := ((m : Nat) : Int)) (w6 (by omega))) Z<|.a Z Z<|.nt<|.sq<|.sr<|.yv (.fieldAddr Z Fx.field55_0) Z<|.yv (.load Z Fx.agg5 (.tail _<|.head _) Z) Z<|.yv (.rem Z Z (by decide) (c := ((x.wh.toNat % 26 : Nat) : Int)) (by rw [Int.tmod_eq_emod_of_nonneg (by omega)];omega)) Z<|.nt<|.bk<|.sr<|.yv (.eql Z Z) Z<|.a Z Z<|.nt<|.cd Z (fun h14 => ?_) (fun h14 => ?_)
 ·skip
  refine .rg<|.m Z Z<|.yv (.fieldAddr Z Fx.field150_0) Z<|.st (.tail<|.tail<|.head) Z Z Fx.size3 Z (nb Z) Z<|.nl<|.bN<|.tN<|.sr<|.yv (.loadW Z Fx.agg150 (.tail _<|.tail _<|.head _) Z) Z<|.sW .head Z Z Fx.size150 (by show ∀ u ∈ [_,_,_,_,_,_],Value.oneCell' u = true;simp [Value.oneCell',strV]) Z<|.nt<|.rt<|?_
  exact Sx.ret1 (.inl rfl) rfl (.cell rfl Fx.agg150 (.head _) rfl) fun W t => ⟨_,H,⟨_,by have := sm_shut (kd := UInt8.ofNat m) (nm := nm) (hd := hd) (by omega) (by omega) hs1 hs2 hs3;rw [ofN13 hm13] at this;exact this,grew_kind⟩,rfl,(.refl : HUp w H H).grow t⟩
 skip
 refine .sr<|.yv (.eql Z Z) Z<|.a Z Z<|.nt<|.cd Z (fun h18 => ?_) (fun h18 => ?_)
 ·skip
  refine .rg<|.yv (.fieldAddr Z Fx.field55_2) Z<|.yv (.load Z Fx.agg5 (.tail _<|.head _) Z) Z<|.yv (.call Fx.call53 Z (fun W s => word_any H x.nm W s.agr)) Z<|.yv (.fieldAddr Z Fx.field150_1) Z<|.st (.tail<|.tail<|.head) Z Z Fx.size9 Z (nb Z) Z<|.nl<|.bN<|.tN<|.sr<|.yv (.loadW Z Fx.agg150 (.tail _<|.tail _<|.head _) Z) Z<|.sW .head Z Z Fx.size150 (by show ∀ u ∈ [_,_,_,_,_,_],Value.oneCell' u = true;simp [Value.oneCell',strV]) Z<|.nt<|.rt<|?_
  exact Sx.ret1 (.inl rfl) rfl (.cell rfl Fx.agg150 (.head _) rfl) fun W t => ⟨_,H,⟨_,sm_shut (kd := kd) (nm := wordR x.nm) (hd := hd) (by exact Nat.le_trans (word_len _) (by decide)) (by omega) hs1 hs2 hs3,grew_kind⟩,rfl,(.refl : HUp w H H).grow t⟩
 skip
 refine .sr<|.yv (.eql Z Z) Z<|.a Z Z<|.nt<|.cd Z (fun h24 => ?_) (fun h24 => ?_)
 ·skip
  refine .rg<|.yv (.fieldAddr Z Fx.field55_2) Z<|.yv (.load Z Fx.agg5 (.tail _<|.head _) Z) Z<|.yv (.call Fx.call53 Z (fun W s => word_any H x.nm W s.agr)) Z<|.yv (.fieldAddr Z Fx.field150_2) Z<|.st (.tail<|.tail<|.head) Z Z Fx.size9 Z (nb Z) Z<|.nl<|.bN<|.tN<|.sr<|.yv (.loadW Z Fx.agg150 (.tail _<|.tail _<|.head _) Z) Z<|.sW .head Z Z Fx.size150 (by show ∀ u ∈ [_,_,_,_,_,_],Value.oneCell' u = true;simp [Value.oneCell',strV]) Z<|.nt<|.rt<|?_
  exact Sx.ret1 (.inl rfl) rfl (.cell rfl Fx.agg150 (.head _) rfl) fun W t => ⟨_,H,⟨_,sm_shut (kd := kd) (nm := nm) (hd := wordR x.nm) (by omega) (by exact Nat.le_trans (word_len _) (by decide)) hs1 hs2 hs3,grew_kind⟩,rfl,(.refl : HUp w H H).grow t⟩
 skip
 refine .sr<|.yv (.eql Z Z) Z<|.a Z Z<|.nt<|.cd Z (fun h30 => ?_) (fun h30 => ?_)
 ·skip
  refine .fl (trip := [(_,_,_),(_,_,_),(_,_,_),(_,_,_),(_,_,_),(_,_,_),(_,_,_),(_,_,_)]) 8 [(1,0),(2,0),(4,0),(5,0),(0,1),(3,3),(6,1),(7,1)] (by kernel_rfl) (by kernel_rfl) Z<|.yv (.fieldAddr Z Fx.field150_3) Z<|.yv (.load Z Fx.agg49 (.tail _<|.tail _<|.head _) Z) Z<|.yv (.fieldAddr Z Fx.field55_4) Z<|.yv (.load Z Fx.agg53 (.tail _<|.head _) Z) Z<|.blR Z Fx.bsl49_0 Z (z := 4) Z (by decide) fun b32 => .apD Fx.row49 Z (fun _ _ => .head) Z hs1 (by simp [maxLen];omega) (by omega) Z (fun _ _ => (.yv (.load Z Fx.agg53 (.tail _<|.tail _<|.head _) Z)<|.yv (.fieldAddr Z Fx.field55_4)<|.done (by kernel_rfl)<|.done (by kernel_rfl)<|.nl)) fun xs35 p35 c35 hz35 => .ct (X := List Value) Fx.call17 Z (fun W s => buildR_any H x.nodes _ hN W s.agr) Z fun y H1 hc u1 => ?_
  obtain ⟨e,hx,hg⟩ := hc
  obtain ⟨op,enm,en,args⟩ := e
  obtain ⟨pe,ce,rfl,hes,hen⟩ := ex_open hx
  refine .bl Z (Fx.bsl49_1 _ _ _ _) Z fun b39 => .fn (tl := [_,_,_]) Z<|.ap (news := [.int .i64 op.toNat,strV enm,.int .i64 en.toInt,.slice pe args.length ce]) Fx.row49 Z (fun _ => (.tail<|.head)) Z (.box (.head _) z0) Z (by simp [Value.oneCell',strV]) (by simp [maxLen];omega) (by omega) Z fun r40 _ => .ra (.tail _<|.head _) fun p40 c40 e40 => .yv (.fieldAddr Z Fx.field150_3) Z<|.st (.tail<|.tail<|.tail<|.tail<|.head) Z Z Fx.size49 (by rw [e40];rfl) (nb Z) Z<|?_
  refine At.pm [1,0,2,3,4] [_,_,_,_,_] rfl rfl ?_
  refine Sx.freezeSeq (ds := (ex ++ [Ex.mk op enm en args]).map (dEx .i64)) (by simp) (by rw [List.map_append];exact ((hz35.up u1.up).snoc hx rfl)) fun H3 p3 c3 u3 e3 hE => ?_
  subst e3
  have v3 := u1.trans u3
  have v2 := v3.up
  refine .nl<|.bN<|.tN<|.sr<|.yv (.loadW Z Fx.agg150 (.tail _<|.tail _<|.tail _<|.head _) Z) Z<|.sW (.tail<|.head) Z Z Fx.size150 (by show ∀ u ∈ [_,_,_,_,_,_],Value.oneCell' u = true;simp [Value.oneCell',strV]) Z<|.nt<|.rt<|?_
  exact Sx.ret1 (.inl rfl) rfl (.cell rfl Fx.agg150 (.tail _<|.head _) rfl) fun W t => ⟨_,H3,⟨_,sm_shut (kd := kd) (nm := nm) (hd := hd) (by omega) (by omega) hE (hs2.up v2) (hs3.up v2),grew_add hg⟩,rfl,(v3 : HUp w H H3).grow t⟩
 skip
 refine .sr<|.yv (.eql Z Z) Z<|.a Z Z<|.nt<|.cd Z (fun h42 => ?_) (fun h42 => ?_)
 ·skip
  refine .rg<|.yv (.fieldAddr Z Fx.field55_4) Z<|.yv (.load Z Fx.agg53 (.tail _<|.head _) Z) Z<|.ct (X := List Value) Fx.call17 Z (fun W s => buildR_any H x.nodes _ hN W s.agr) Z fun y H1 hc u1 => ?_
  obtain ⟨e,hx,hg⟩ := hc
  obtain ⟨op,enm,en,args⟩ := e
  obtain ⟨pe,ce,rfl,hes,hen⟩ := ex_open hx
  refine .bl Z (Fx.bsl49_1 _ _ _ _) Z fun b47 => ?_
  refine Sx.freezeBox fun H3 u3 m3 => ?_
  have v3 := u1.trans u3
  have v2 := v3.up
  have hE : Rep H3 (.seq 4 (([.mk op enm en args] : List Ex).map (dEx .i64))) [.slice (some ⟨b47,0,none⟩) 1 1] := Rep.mk (n := 1) (c := 1) m3 (.single (hx.up u3.up) rfl) rfl (Nat.le_refl _) (by decide)
  refine .yv (.fieldAddr Z Fx.field150_3) Z<|.st (.tail<|.tail<|.head) Z Z Fx.size49 Z (nb Z) Z<|.nl<|.bN<|.tN<|.sr<|.yv (.loadW Z Fx.agg150 (.tail _<|.tail _<|.head _) Z) Z<|.sW .head Z Z Fx.size150 (by show ∀ u ∈ [_,_,_,_,_,_],Value.oneCell' u = true;simp [Value.oneCell',strV]) Z<|.nt<|.rt<|?_
  exact Sx.ret1 (.inl rfl) rfl (.cell rfl Fx.agg150 (.head _) rfl) fun W t => ⟨_,H3,⟨_,sm_shut (kd := kd) (nm := nm) (hd := hd) (by omega) (by omega) hE (hs2.up v2) (hs3.up v2),grew_one hg⟩,rfl,(v3 : HUp w H H3).grow t⟩
 skip
 refine .sr<|.yv (.eql Z Z) Z<|.a Z Z<|.nt<|.cd Z (fun h49 => ?_) (fun h49 => ?_)
 ·skip
  refine .rg<|.yv (.build Z (Fx.bld150_0 _)) Z<|.bl Z (Fx.bsl98_1 _ _ _ _ _ _) Z fun b52 => ?_
  refine Sx.freezeBox fun Ha ua ma => ?_
  have hST : Rep Ha (.seq 6 (([stopS] : List Sm).map (dSm .i64))) [.slice (some ⟨b52,0,none⟩) 1 1] := (Rep.mk (n := 1) (c := 1) ma (.single (sm_shut (kd := 10) (nm := []) (hd := []) (ex := []) (th := []) (el := []) (by decide) (by decide) (Rep.empty (by decide)) (Rep.empty (by decide)) (Rep.empty (by decide))) rfl) rfl (Nat.le_refl _) (by decide))
  refine .yv (.fieldAddr Z Fx.field150_4) Z<|.st (.tail<|.tail<|.head) Z Z Fx.size49 Z (nb Z) Z<|.nl<|.bN<|.tN<|.sr<|.yv (.loadW Z Fx.agg150 (.tail _<|.tail _<|.head _) Z) Z<|.sW .head Z Z Fx.size150 (by show ∀ u ∈ [_,_,_,_,_,_],Value.oneCell' u = true;simp [Value.oneCell',strV]) Z<|.nt<|.rt<|?_
  exact Sx.ret1 (.inl rfl) rfl (.cell rfl Fx.agg150 (.head _) rfl) fun W t => ⟨_,Ha,⟨_,sm_shut (kd := kd) (nm := nm) (hd := hd) (by omega) (by omega) (hs1.up ua.up) hST (hs3.up ua.up),grew_then⟩,rfl,(ua : HUp w H Ha).grow t⟩
 skip
 refine .sr<|.yv (.eql Z Z) Z<|.a Z Z<|.nt<|.cd Z (fun h54 => ?_) (fun h54 => ?_)
 ·skip
  refine .rg<|.yv (.build Z (Fx.bld150_0 _)) Z<|.bl Z (Fx.bsl98_1 _ _ _ _ _ _) Z fun b57 => ?_
  refine Sx.freezeBox fun Ha ua ma => ?_
  have hST : Rep Ha (.seq 6 (([stopS] : List Sm).map (dSm .i64))) [.slice (some ⟨b57,0,none⟩) 1 1] := (Rep.mk (n := 1) (c := 1) ma (.single (sm_shut (kd := 10) (nm := []) (hd := []) (ex := []) (th := []) (el := []) (by decide) (by decide) (Rep.empty (by decide)) (Rep.empty (by decide)) (Rep.empty (by decide))) rfl) rfl (Nat.le_refl _) (by decide))
  refine .yv (.fieldAddr Z Fx.field150_5) Z<|.st (.tail<|.tail<|.head) Z Z Fx.size49 Z (nb Z) Z<|.nl<|.bN<|.tN<|.sr<|.yv (.loadW Z Fx.agg150 (.tail _<|.tail _<|.head _) Z) Z<|.sW .head Z Z Fx.size150 (by show ∀ u ∈ [_,_,_,_,_,_],Value.oneCell' u = true;simp [Value.oneCell',strV]) Z<|.nt<|.rt<|?_
  exact Sx.ret1 (.inl rfl) rfl (.cell rfl Fx.agg150 (.head _) rfl) fun W t => ⟨_,Ha,⟨_,sm_shut (kd := kd) (nm := nm) (hd := hd) (by omega) (by omega) (hs1.up ua.up) (hs2.up ua.up) hST,grew_else⟩,rfl,(ua : HUp w H Ha).grow t⟩
 skip
 refine .sr<|.yv (.eql Z Z) Z<|.a Z Z<|.nt<|.cd Z (fun h59 => ?_) (fun h59 => ?_)
 ·skip
  refine .rg<|.yv (.loadW Z Fx.agg150 (.tail _<|.tail _<|.head _) Z) Z<|.m Z Z<|.ct (X := List Value) Fx.call93 Z (fun W s => wrap_any H _ m (by omega) _ W h s.agr) Z fun y1 H1 hwr u1 => .sV (.tail<|.tail<|.head) Z Z Fx.size150 (sm_len hwr) hwr.one Z<|.nl<|.bN<|.tN<|.sr<|.yv (.loadW Z Fx.agg150 (.tail _<|.tail _<|.head _) (sm_len hwr)) Z<|.sV .head Z Z Fx.size150 (sm_len hwr) hwr.one Z<|.nt<|.rt<|?_
  exact Sx.ret1 (.inl rfl) rfl (.cell rfl Fx.agg150 (.head _) (sm_len hwr)) fun W t => ⟨_,H1,⟨_,hwr,grew_wrap hm13⟩,rfl,(u1 : HUp w H H1).grow t⟩
 skip
 refine .sk<|.bN<|.tN<|.sr<|.yv (.loadW Z Fx.agg150 (.tail _<|.tail _<|.head _) Z) Z<|.sW .head Z Z Fx.size150 (by show ∀ u ∈ [_,_,_,_,_,_],Value.oneCell' u = true;simp [Value.oneCell',strV]) Z<|.nt<|.rt<|?_
 exact Sx.ret1 (.inl rfl) rfl (.cell rfl Fx.agg150 (.head _) rfl) fun W t => ⟨_,H,⟨_,h,grew_refl _⟩,rfl,(.refl : HUp w H H).grow t⟩
def gsP (n : Nat) : List Hd := (List.range n).map fun (j : Nat) => ⟨[103] ++ Lib.itoa (j : Nat),[],[]⟩
theorem gsP_succ (n : Nat) : gsP (n + 1) = gsP n ++ [⟨[103] ++ Lib.itoa (n : Nat),[],[]⟩] := by simp [gsP,List.range_succ]
theorem itoaN_len (j : Nat) (h : j < 100) : (Lib.itoa (j : Nat)).length ≤ 21 := Lib.itoa_length_le _ (by omega) (by omega)
theorem sl_inj {p q : Option Addr} {n m c d : Nat} (h : Value.slice p n c = .slice q m d) : p = q ∧ c = d := by injection h with a _ b;exact ⟨a,b⟩
theorem rep0 {H : Hp} {z n c : Nat} {ds : List D} {p : Option Addr} (h : Rep H (.seq z ds) [.slice p (0 + n) c]) : Rep H (.seq z ds) [.slice p (0 + n) c] := h
theorem hd_len {H : Hp} {k : IntKind} {x : Hd} {cs : List Value} (h : Rep H (dHd k x) cs) : cs.length = 3 := by
 obtain ⟨_,_,_,_,rfl,_⟩ := hd_open h;rfl
theorem stop_shut {H : Hp} : Rep H (dSm .i64 stopS) [.int .i64 10,.string ⟨#[]⟩,.string ⟨#[]⟩,.slice none 0 0,.slice none 0 0,.slice none 0 0] :=
 sm_shut (kd := 10) (nm := []) (hd := []) (ex := []) (th := []) (el := []) (by decide) (by decide) (Rep.empty (by decide)) (Rep.empty (by decide)) (Rep.empty (by decide))
theorem okL_reps : ∀ n,okL n (List.replicate n stopS)
 | 0 => .nil
 | n + 1 => by rw [List.replicate_succ'];exact (okL_reps n).app (okL_stop (Nat.le_refl 1))
theorem get_app {xs more : List Value} {i : Nat} {u : Value} (h : xs[i]? = some u) : (xs ++ more)[i]? = some u := by rw [List.getElem?_append_left (List.getElem?_eq_some_iff.1 h).1];exact h
theorem ex_bnd {N M : Nat} {l : List Sm} (h : okL N l) {j : Nat} (hj : j < l.length) (hN : N ≤ M) : (l[j]).ex.length ≤ M := by
 have h2 := h.at hj
 generalize l[j] = s at h2
 obtain ⟨kd,nm,hd,ex,th,el⟩ := s
 have := (okL_one.1 h2).2.2.2.1
 exact Nat.le_trans this hN
theorem okV_gs {N m : Nat} {l : List Hd} (h : okV2 N l) (hm : m < 13) : okV2 (2 * N + 100) (l ++ gsP m) := by
 refine ⟨by have := h.len;simp [gsP];omega,fun x hx => ?_⟩
 rcases List.mem_append.1 hx with hx | hx
 ·exact (h.all x hx).mono (by omega)
 ·obtain ⟨j,_,rfl⟩ := List.mem_map.1 hx
  exact ⟨by simp,.nil⟩
theorem okV_set {N k : Nat} {l : List Hd} {h1 : Hd} (h : okV2 N l) (k1 : okHd (2 * N + 100) h1) : okV2 (2 * N + 100) (l.set k h1) := by
 refine ⟨by have := h.len;simp;omega,fun x hx => ?_⟩
 rcases List.mem_or_eq_of_mem_set hx with hx | rfl
 ·exact (h.all x hx).mono (by omega)
 ·exact k1
theorem num_name {j : Nat} {c : UInt8} (h : j < 100) : ([c] ++ Lib.itoa (j : Nat)).length ≤ 1000000 := by
 have := itoaN_len j h;simp;omega
set_option maxHeartbeats 4000000 in
set_option maxRecDepth 100000 in
theorem handlersOf_any (H : Hp) (l : List Hd) (x : Sp) (v : Value) (xs : List Value) (N : Nat) (hN1 : N ≤ 100000) (w : World) (h : Rep H (.seq 3 (l.map (dHd .i64))) [v]) (hX : Rep H (dSp x) xs) (hpos : 0 < l.length) (hok : okV2 N l) (hA : Agr H w) :
 Calls Tryz.prog 54 #[v,.agg xs.toArray] w fun r w' => ∃ (v' : Value) (H' : Hp),(∃ l',Rep H' (.seq 3 (l'.map (dHd .i64))) [v'] ∧ okV2 (2 * N + 100) l') ∧ r = .returned v' ∧ Grow H w H' w' := by
 obtain ⟨pl,cl,el,_⟩ := h.sl
 simp only [List.cons.injEq,and_true,List.length_map] at el
 subst el
 have hl := h
 have hll := hok.len
 have hi256 := x.i.toNat_lt
 obtain ⟨pN,cN,rfl,hN⟩ := sp_open hX
 obtain ⟨m0,hm0⟩ := wu64 x.n.toInt
 obtain ⟨m,hmm⟩ : ∃ m,m = m0 % 13 := ⟨_,rfl⟩
 have hm13 : m < 13 := by omega
 refine Sx.enter (H := H) Tryz.func54 rfl Tryz.ntmps54 rfl hA ?_
 refine .sr<|.bx Z Z Z fun b3 => .a Z Z<|.ns<|.yv (.fieldAddr Z Fx.field55_3) Z<|.yv (.load Z Fx.agg2 (.head _) Z) Z<|.yv (.conv Z Fx.int2 Fx.int139 hm0) Z<|.yv (.rem Z Z (by decide) (c := ((m : Nat) : Int)) (by rw [hmm];exact tm2 _ 13)) Z<|.yv (.conv Z Fx.int139 Fx.int3 (c := ((m : Nat) : Int)) (w6 (by omega))) Z<|.a Z Z<|.ns<|.blR Z Fx.bsl97_0 Z (z := 3) Z (by decide) fun g18 => .m Z Z<|.apD Fx.row97 Z (fun _ _ => .head) Z hl (by simp [maxLen];omega) (by omega) Z fun xs20 r20 hz20 => ?_
 refine At.rs (.head _) (by omega) fun g20 c20 e20 => ?_
 subst e20
 refine .a Z Z<|.ns<|.yv (.fieldAddr Z Fx.field55_1) Z<|.yv (.load Z Fx.agg5 (.tail _<|.head _) Z) Z<|.yv (.quo Z Z (by decide) (c := ((x.i.toNat / 8 : Nat) : Int)) (qu8 _ (by have := (x.i).toNat_lt;omega) (by decide))) Z<|.yv (.conv Z Fx.int5 Fx.int3 (c := ((x.i.toNat / 8 : Nat) : Int)) (w6 (by omega))) Z<|.m Z Z<|.yv (.lenSl Fx.sl97 Z) Z<|.yv (.rem Z Z (by omega) (c := ((x.i.toNat / 8 % (0 + l.length) : Nat) : Int)) (tm2 _ _)) Z<|?_
 have hk : x.i.toNat / 8 % (0 + l.length) < l.length := by have := Nat.mod_lt (x.i.toNat / 8) (show 0 < 0 + l.length by omega);omega
 generalize x.i.toNat / 8 % (0 + l.length) = k at hk ⊢
 obtain ⟨cE,rE,lE,mE⟩ := hz20.at (i := k) (map_at (f := dHd .i64) hk)
 have ok0 := hok.all _ (List.getElem_mem hk)
 generalize hh0 : l[k] = h0 at rE ok0
 obtain ⟨nm0,ps0,bd0⟩ := h0
 obtain ⟨q1,d1,q2,d2,rfl,k0,k1,k2⟩ := hd_open rE
 dsimp only at k0 k1 k2 mE
 have hbd : bd0.length ≤ N := ok0.body.len
 have hpl : ps0.length ≤ N := ok0.ps
 refine .a Z Z<|.ns<|.m Z Z<|.m Z Z<|.yv (.indexSl Fx.sl97 Z Z (i := k) Z (by omega) (q := k * 3) (by omega)) Z<|.yv (.loadR (vs := [strV nm0,.slice q1 ps0.length d1,.slice q2 bd0.length d2]) Z Fx.agg100 (.head _) Z mE) Z<|.al Fx.zero100 Z fun b8 => .sW .head Z Z Fx.size100 (by simp [Value.oneCell',strV]) Z<|.ns<|.blR Z Fx.bsl98_0 Z (z := 6) Z (by decide) fun g32 => .yv (.fieldAddr Z Fx.field100_2) Z<|.yv (.load Z Fx.agg98 (.tail _<|.head _) Z) Z<|.apD Fx.row98 Z (fun _ _ => .head) Z k2 (by simp [maxLen];omega) (by omega) Z fun xs35 r35 hz35 => ?_
 refine At.ra (.head _) fun p35 c35 e35 => ?_
 subst e35
 refine .yv (.fieldAddr Z Fx.field100_2) Z<|.st (.tail<|.head) Z Z Fx.size98 Z (nb Z) Z<|.nt<|.cu (X := Hp × Hd × List Value) [(7,_),(8,_)] ⟨rfl,rfl,trivial⟩ (fun z => [(6,.slice (some ⟨g20,0,none⟩) (0 + l.length) c20)]) (fun z => z.1) (fun z => [.row 100 3 (.slice (some ⟨g20,0,none⟩) (0 + l.length) c20) (0 + l.length) ([] ++ xs20),.box b8 z.2.2 100]) (fun z => HUp w H z.1 ∧ Rep z.1 (dHd .i64 z.2.1) z.2.2 ∧ okHd (2 * N + 100) z.2.1) ?_ fun z hC => ?_
 ·
  refine .sr<|.yv (.fieldAddr Z Fx.field55_0) Z<|.yv (.load Z Fx.agg5 (.tail _<|.tail _<|.tail _<|.head _) Z) Z<|.yv (.rem Z Z (by decide) (c := ((x.wh.toNat % 26 : Nat) : Int)) (by rw [Int.tmod_eq_emod_of_nonneg (by omega)];omega)) Z<|.nt<|.bk<|.sr<|.yv (.eql Z Z) Z<|.a Z Z<|.nt<|.cd Z (fun h66 => ?_) (fun h66 => ?_)
  ·skip
   refine .sq<|.sr<|.a Z Z<|.nt<|.bk<|.pm [2,0,1,3] [_,_,_,_] Z Z<|.lp (X := Nat × Value × List Value) [(5,_),(7,_),(8,_)] ⟨rfl,rfl,rfl,trivial⟩ [_,_,_] (fun z => [(6,z.2.1),(9,.int .i64 (z.1 : Nat))]) (fun z => H) (fun z => [.row 100 3 z.2.1 (0 + l.length + z.1) z.2.2]) (fun z => z.1 ≤ m ∧ RepZ H 3 ((l ++ gsP z.1).map (dHd .i64)) z.2.2) (fun z => m - z.1) (0,_,_) (fun _ s => s) ⟨rfl,rfl,trivial⟩ ⟨by simp,by rw [show gsP 0 = [] from Z,List.append_nil];exact hz20⟩ fun z hC => ?_
   obtain ⟨j,ro,ys⟩ := z
   dsimp only at hC ⊢
   obtain ⟨hj0,hzg⟩ := hC
   refine .sq<|.sr<|.m Z Z<|.m Z Z<|.yv (.lss Z Z) Z<|.nt<|.cd Z (fun h70 => ?_) (fun h70 => ?_)
   ·try simp only [dt] at h70
    have hj : j < m := by omega
    exact .sk<|.tN<|.sq<|.bk<|.rg<|.m Z Z<|.m Z Z<|.yv (.call Fx.call33 Z (fun W s => number_any H ((j : Nat) : Int) (by omega) (by omega) W s.agr)) Z<|.yv (.app Z Z (by have := itoaN_len j (by omega);simp;omega)) Z<|.yv (.build Z (Fx.bld100_0 _)) Z<|.bl Z (Fx.bsl97_1 _ _ _) Z fun b78 => .ap (news := [strV ([103] ++ Lib.itoa (j : Nat)),.slice none 0 0,.slice none 0 0]) Fx.row97 Z (fun _ => (.tail<|.head)) Z (.box (.head _) z0) Z (by simp [Value.oneCell',strV]) (by simp [maxLen];omega) (by omega) Z fun r79 _ => .a Z Z<|.nl<|.bN<|.tN<|.rg<|.m Z Z<|.yv (.add Z Z (w6 (by omega))) Z<|.a Z Z<|.nt<|.ag (x := (j,ro,ys)) (j + 1,r79,ys ++ [strV ([103] ++ Lib.itoa (j : Nat)),.slice none 0 0,.slice none 0 0]) ⟨rfl,rfl,trivial⟩ ⟨rfl,rfl,rfl,trivial⟩ (fun _ s => (s.pick [1,2,3,4] _ Z Z)) ⟨by dsimp only;omega,by dsimp only;rw [gsP_succ,← List.append_assoc,List.map_append];exact hzg.snoc (hd_shut (x := ⟨[103] ++ Lib.itoa (j : Nat),[],[]⟩) (num_name (by omega)) (Rep.empty (by decide)) (Rep.empty (by decide))) Z⟩ (by dsimp only;omega)
   try simp only [df] at h70
   obtain rfl : m = j := by omega
   refine .ex<|.tE<|.tE<|.bE<|.tN<|.sr<|.m Z Z<|.a Z Z<|.nt<|.rt<|.bR<|.tR<|?_
   refine Sx.freezeSeq (ds := (l ++ gsP m).map (dHd .i64)) (by simp [gsP]) hzg fun HB pB cB uB eB hB => ?_
   exact Sx.ret1 (.inl rfl) rfl (.tmp rfl) fun W t => ⟨ro,HB,⟨l ++ gsP m,hB,okV_gs hok (by omega)⟩,rfl,uB.grow t⟩
  skip
  refine .sr<|.yv (.eql Z Z) Z<|.a Z Z<|.nt<|.cd Z (fun h81 => ?_) (fun h81 => ?_)
  ·skip
   refine .rg<|.yv (.fieldAddr Z Fx.field55_2) Z<|.yv (.load Z Fx.agg5 (.tail _<|.tail _<|.tail _<|.head _) Z) Z<|.yv (.call Fx.call53 Z (fun W s => word_any H x.nm W s.agr)) Z<|.yv (.fieldAddr Z Fx.field100_0) Z<|.st (.tail<|.head) Z Z Fx.size9 Z (nb Z) Z<|?_
   refine Sx.freezeSeq (ds := bd0.map (dSm .i64)) (by simp) hz35 fun HB pB cB uB eB hB => ?_
   obtain ⟨rfl,rfl⟩ := sl_inj eB
   exact .nl<|.bN<|.tN<|.me (HB,⟨wordR x.nm,ps0,bd0⟩,_) ⟨rfl,trivial⟩ ⟨rfl,rfl,trivial⟩ (fun _ s => s.pick [1,0] [_,_] Z Z) ⟨uB,hd_shut (x := ⟨wordR x.nm,ps0,bd0⟩) (Nat.le_trans (word_len _) (by decide)) (k1.up uB.up) (rep0 hB),⟨by have := ok0.ps;show ps0.length ≤ _;have h : ps0.length ≤ N := this;omega,ok0.body.mono (by omega)⟩⟩
  skip
  refine .sr<|.yv (.eql Z Z) Z<|.a Z Z<|.nt<|.cd Z (fun h87 => ?_) (fun h87 => ?_)
  ·skip
   refine .sr<|.a Z Z<|.nt<|.bk<|.pm [1,0,2,3] [_,_,_,_] Z Z<|.lp (X := Nat × Hp × Option Addr × Nat × Nat) [(5,_),(6,_),(7,_),(8,_)] ⟨rfl,rfl,rfl,rfl,trivial⟩ [_,_,_] (fun z => [(10,.int .i64 (z.1 : Nat))]) (fun z => z.2.1) (fun z => [.box b8 [strV nm0,.slice z.2.2.1 z.2.2.2.1 z.2.2.2.2,.slice p35 (0 + bd0.length) c35] 100]) (fun z => z.1 ≤ m ∧ HUp w H z.2.1 ∧ ∃ ps : List Str,ps.length = ps0.length + z.1 ∧ Rep z.2.1 (.seq 1 (ps.map dStr)) [.slice z.2.2.1 z.2.2.2.1 z.2.2.2.2]) (fun z => m - z.1) (0,H,_,_,_) (fun _ s => s) ⟨rfl,trivial⟩ ⟨by simp,.refl,ps0,by simp,k1⟩ fun z hC => ?_
   obtain ⟨j,H1,pp,pn,pc⟩ := z
   dsimp only at hC ⊢
   obtain ⟨hj0,uP,ps,hpsl,hps⟩ := hC
   have hpn := hps.len.1
   rw [List.length_map] at hpn
   refine .sq<|.sr<|.m Z Z<|.m Z Z<|.yv (.lss Z Z) Z<|.nt<|.cd Z (fun h91 => ?_) (fun h91 => ?_)
   ·try simp only [dt] at h91
    have hj : j < m := by omega
    refine .sk<|.tN<|.sq<|.bk<|.rg<|.blR Z Fx.bsl66_0 Z (z := 1) Z (by decide) fun g94 => .yv (.fieldAddr Z Fx.field100_1) Z<|.yv (.load Z Fx.agg66 (.tail _<|.head _) Z) Z<|.apD Fx.row66 Z (fun _ _ => .head) Z hps (by simp [maxLen];omega) (by omega) Z fun xs97 r97 hz97 => .m Z Z<|.yv (.call Fx.call33 Z (fun W s => number_any H1 ((j : Nat) : Int) (by omega) (by omega) W s.agr)) Z<|.yv (.app Z Z (by have := itoaN_len j (by omega);simp;omega)) Z<|.bl Z (Fx.bsl66_1 _) Z fun b101 => .ap (news := [strV ([113] ++ Lib.itoa (j : Nat))]) Fx.row66 Z (fun _ => (.tail<|.head)) Z (.box (.head _) z0) Z (by simp [Value.oneCell',strV]) (by simp [maxLen];omega) (by omega) Z fun r102 _ => ?_
    refine At.ra (.tail _<|.head _) fun p102 c102 e102 => ?_
    subst e102
    refine .yv (.fieldAddr Z Fx.field100_1) Z<|.st (.tail<|.tail<|.head) Z Z Fx.size66 Z (nb Z) Z<|?_
    refine At.pm [1,0,2,3,4,5] [_,_,_,_,_,_] rfl rfl ?_
    refine Sx.freezeSeq (ds := (ps ++ [[113] ++ Lib.itoa (j : Nat)]).map dStr) (by simp;omega) (by rw [List.map_append];exact hz97.snoc (str_shut (num_name (by omega))) rfl) fun H2 p2 c2 u2 e2 h2 => ?_
    obtain ⟨rfl,rfl⟩ := sl_inj e2
    exact .nl<|.bN<|.tN<|.rg<|.m Z Z<|.yv (.add Z Z (w6 (by omega))) Z<|.a Z Z<|.nt<|.ag (x := (j,H1,pp,pn,pc)) (j + 1,H2,p102,0 + pn + 1,c102) ⟨rfl,trivial⟩ ⟨rfl,rfl,rfl,rfl,trivial⟩ (fun _ s => (s.pick [1,2,3,4] _ Z Z)) ⟨by dsimp only;omega,uP.trans u2,ps ++ [[113] ++ Lib.itoa (j : Nat)],by simp;omega,h2⟩ (by dsimp only;omega)
   try simp only [df] at h91
   obtain rfl : m = j := by omega
   refine At.pm [1,0,2,3] [_,_,_,_] rfl rfl ?_
   refine Sx.freezeSeq (ds := bd0.map (dSm .i64)) (by simp) (RepZ.up uP.up hz35) fun HB pB cB uB eB hB => ?_
   obtain ⟨rfl,rfl⟩ := sl_inj eB
   exact .ex<|.tE<|.tE<|.bE<|.bN<|.tN<|.me (HB,⟨nm0,ps,bd0⟩,_) ⟨rfl,trivial⟩ ⟨rfl,rfl,trivial⟩ (fun _ s => s.pick [1,0] [_,_] Z Z) ⟨uP.trans uB,hd_shut (x := ⟨nm0,ps,bd0⟩) k0 (hps.up uB.up) (rep0 hB),⟨by show ps.length ≤ _;have h : ps0.length ≤ N := ok0.ps;omega,ok0.body.mono (by omega)⟩⟩
  skip
  refine .sr<|.yv (.eql Z Z) Z<|.a Z Z<|.nt<|.cd Z (fun h104 => ?_) (fun h104 => ?_)
  ·skip
   refine .fl (trip := [(_,_,_),(_,_,_),(_,_,_),(_,_,_),(_,_,_),(_,_,_),(_,_,_),(_,_,_)]) 8 [(1,0),(2,0),(4,0),(5,0),(0,1),(3,3),(6,0),(7,1)] (by kernel_rfl) (by kernel_rfl) Z<|.yv (.fieldAddr Z Fx.field100_1) Z<|.yv (.load Z Fx.agg66 (.tail _<|.head _) Z) Z<|.yv (.fieldAddr Z Fx.field55_2) Z<|.yv (.load Z Fx.agg5 (.tail _<|.tail _<|.tail _<|.head _) Z) Z<|.blR Z Fx.bsl66_0 Z (z := 1) Z (by decide) fun g106 => .apD Fx.row66 Z (fun _ _ => .head) Z k1 (by simp [maxLen];omega) (by omega) Z (fun _ _ => (.yv (.load Z Fx.agg5 (.tail _<|.tail _<|.tail _<|.tail _<|.head _) Z)<|.yv (.fieldAddr Z Fx.field55_2)<|.done (by kernel_rfl)<|.done (by kernel_rfl)<|.nl)) fun xs109 p109 c109 hz109 => .yv (.call Fx.call53 Z (fun W s => word_any H x.nm W s.agr)) Z<|.bl Z (Fx.bsl66_1 _) Z fun b113 => .fn (tl := [_,_,_]) Z<|.ap (news := [strV (wordR x.nm)]) Fx.row66 Z (fun _ => (.tail<|.head)) Z (.box (.head _) z0) Z (by simp [Value.oneCell',strV]) (by simp [maxLen];omega) (by omega) Z fun r114 _ => ?_
   refine At.ra (.tail _<|.head _) fun p114 c114 e114 => ?_
   subst e114
   refine .yv (.fieldAddr Z Fx.field100_1) Z<|.st (.tail<|.tail<|.tail<|.head) Z Z Fx.size66 Z (nb Z) Z<|?_
   refine At.pm [1,0,2,3,4,5] [_,_,_,_,_,_] rfl rfl ?_
   refine Sx.freezeSeq (ds := (ps0 ++ [wordR x.nm]).map dStr) (by simp) (by rw [List.map_append];exact hz109.snoc (str_shut (Nat.le_trans (word_len _) (by decide))) rfl) fun H2 p2 c2 uP e2 hps => ?_
   obtain ⟨rfl,rfl⟩ := sl_inj e2
   refine At.pm [1,0,2,3,4] [_,_,_,_,_] rfl rfl ?_
   refine Sx.freezeSeq (ds := bd0.map (dSm .i64)) (by simp) (RepZ.up uP.up hz35) fun HB pB cB uB eB hB => ?_
   obtain ⟨rfl,rfl⟩ := sl_inj eB
   exact .nl<|.bN<|.tN<|.me (HB,⟨nm0,ps0 ++ [wordR x.nm],bd0⟩,_) ⟨rfl,trivial⟩ ⟨rfl,rfl,trivial⟩ (fun _ s => s.pick [2,1] [_,_] Z Z) ⟨uP.trans uB,hd_shut (x := ⟨nm0,ps0 ++ [wordR x.nm],bd0⟩) k0 (hps.up uB.up) (rep0 hB),⟨by show (ps0 ++ [wordR x.nm]).length ≤ _;have h : ps0.length ≤ N := ok0.ps;rw [List.length_append,List.length_singleton];omega,ok0.body.mono (by omega)⟩⟩
  skip
  refine .sr<|.yv (.eql Z Z) Z<|.a Z Z<|.nt<|.cd Z (fun h116 => ?_) (fun h116 => ?_)
  ·skip
   refine .sr<|.a Z Z<|.nt<|.bk<|.lp (X := Nat × Value × List Value) [(5,_),(6,_),(7,_),(8,_)] ⟨rfl,rfl,rfl,rfl,trivial⟩ [_,_] (fun z => [(11,.int .i64 (z.1 : Nat))]) (fun z => H) (fun z => [.row 150 6 z.2.1 (0 + bd0.length + z.1) z.2.2,.box b8 [strV nm0,.slice q1 ps0.length d1,z.2.1] 100]) (fun z => z.1 ≤ 4 * m ∧ RepZ H 6 ((bd0 ++ List.replicate z.1 stopS).map (dSm .i64)) z.2.2) (fun z => 4 * m - z.1) (0,_,_) (fun _ s => s) ⟨rfl,trivial⟩ ⟨by simp,by simpa using hz35⟩ fun z hC => ?_
   obtain ⟨j,rb,ys⟩ := z
   dsimp only at hC ⊢
   obtain ⟨hj0,hzb⟩ := hC
   refine .sq<|.sr<|.m Z Z<|.m Z Z<|.yv (.mul Z Z (c := ((4 * m : Nat) : Int)) ((w6 (by omega)).trans (by omega))) Z<|.yv (.lss Z Z) Z<|.nt<|.cd Z (fun h121 => ?_) (fun h121 => ?_)
   ·try simp only [dt] at h121
    have hj : j < 4 * m := by omega
    refine .sk<|.tN<|.sq<|.bk<|.rg<|.yv (.fieldAddr Z Fx.field100_2) Z<|.yv (.load Z Fx.agg98 (.tail _<|.head _) Z) Z<|.yv (.build Z (Fx.bld150_0 _)) Z<|.bl Z (Fx.bsl98_1 _ _ _ _ _ _) Z fun b127 => .ap (news := [.int .i64 10,.string ⟨#[]⟩,.string ⟨#[]⟩,.slice none 0 0,.slice none 0 0,.slice none 0 0]) Fx.row98 Z (fun _ => (.tail<|.head)) Z (.box (.head _) z0) Z (by simp [Value.oneCell',strV]) (by simp [maxLen];omega) (by omega) Z fun r128 _ => ?_
    refine At.ra (.tail _<|.head _) fun p128 c128 e128 => ?_
    exact .yv (.fieldAddr Z Fx.field100_2) Z<|.st (.tail<|.tail<|.head) Z Z Fx.size98 (by rw [e128];rfl) (nb Z) Z<|.nl<|.bN<|.tN<|.rg<|.m Z Z<|.yv (.add Z Z (w6 (by omega))) Z<|.a Z Z<|.nt<|.ag (x := (j,rb,ys)) (j + 1,r128,ys ++ [.int .i64 10,.string ⟨#[]⟩,.string ⟨#[]⟩,.slice none 0 0,.slice none 0 0,.slice none 0 0]) ⟨rfl,trivial⟩ ⟨rfl,rfl,rfl,rfl,trivial⟩ (fun _ s => (s.pick [1,2,3,4] _ Z Z)) ⟨by dsimp only;omega,by dsimp only;rw [List.replicate_succ',← List.append_assoc,List.map_append];exact hzb.snoc stop_shut Z⟩ (by dsimp only;omega)
   try simp only [df] at h121
   obtain rfl : j = 4 * m := by omega
   refine Sx.freezeSeq (ds := (bd0 ++ List.replicate (4 * m) stopS).map (dSm .i64)) (by simp) hzb fun HB pB cB uB eB hB => ?_
   subst eB
   exact .ex<|.tE<|.tE<|.bE<|.bN<|.tN<|.me (HB,⟨nm0,ps0,bd0 ++ List.replicate (4 * m) stopS⟩,_) ⟨rfl,trivial⟩ ⟨rfl,rfl,trivial⟩ (fun _ s => s.pick [1,0] [_,_] Z Z) ⟨uB,hd_shut (x := ⟨nm0,ps0,bd0 ++ List.replicate (4 * m) stopS⟩) k0 (k1.up uB.up) hB,⟨by show ps0.length ≤ _;have h : ps0.length ≤ N := ok0.ps;omega,(ok0.body.app (okL_reps (4 * m))).mono (by omega)⟩⟩
  skip
  refine .sr<|.yv (.eql Z Z) Z<|.a Z Z<|.nt<|.cd Z (fun h130 => ?_) (fun h130 => ?_)
  ·skip
   refine .fl (trip := [(_,_,_),(_,_,_),(_,_,_),(_,_,_),(_,_,_),(_,_,_)]) 6 [(0,0),(1,0),(2,0),(3,0),(4,1),(5,1)] (by kernel_rfl) (by kernel_rfl) Z<|.yv (.fieldAddr Z Fx.field100_2) Z<|.yv (.load Z Fx.agg98 (.tail _<|.head _) Z) Z<|.yv (.build Z (Fx.bld150_0 _)) Z<|.m Z Z<|.ct (X := List Value) Fx.call93 Z (fun W s => wrap_any H stopS m (by omega) _ W stop_shut s.agr) Z fun y136 H136 hw136 u136 => ?_
   generalize hws : wrapS m stopS = sw at hw136
   obtain ⟨kd,snm,shd,ex,th,el⟩ := sw
   obtain ⟨p1,c1,p2,c2,p3,c3,rfl,hs1,hs2,hs3,hn1,hn2⟩ := sm_open hw136
   refine .bl Z (Fx.bsl98_1 _ _ _ _ _ _) Z fun b137 => .fn (tl := [_,_,_]) Z<|.ap (news := [.int .i64 kd.toNat,strV snm,strV shd,.slice p1 ex.length c1,.slice p2 th.length c2,.slice p3 el.length c3]) Fx.row98 Z (fun _ => (.tail<|.head)) Z (.box (.head _) z0) Z (by simp [Value.oneCell',strV]) (by simp [maxLen];omega) (by omega) Z fun r138 _ => ?_
   refine At.ra (.tail _<|.head _) fun p138 c138 e138 => ?_
   subst e138
   refine .yv (.fieldAddr Z Fx.field100_2) Z<|.st (.tail<|.tail<|.head) Z Z Fx.size98 Z (nb Z) Z<|?_
   refine At.pm [1,0,2,3,4] [_,_,_,_,_] rfl rfl ?_
   refine Sx.freezeSeq (ds := (bd0 ++ [wrapS m stopS]).map (dSm .i64)) (by simp) (by rw [List.map_append,hws];exact (RepZ.up u136.up hz35).snoc hw136 rfl) fun HB pB cB uB eB hB => ?_
   obtain ⟨rfl,rfl⟩ := sl_inj eB
   exact .nl<|.bN<|.tN<|.me (HB,⟨nm0,ps0,bd0 ++ [wrapS m stopS]⟩,_) ⟨rfl,trivial⟩ ⟨rfl,rfl,trivial⟩ (fun _ s => s.pick [2,1] [_,_] Z Z) ⟨u136.trans uB,hd_shut (x := ⟨nm0,ps0,bd0 ++ [wrapS m stopS]⟩) k0 (k1.up (u136.trans uB).up) hB,⟨by show ps0.length ≤ _;have h : ps0.length ≤ N := ok0.ps;omega,(ok0.body.app (okL_wrap (okL_stop (Nat.le_refl 1)) m)).mono (by omega)⟩⟩
  skip
  refine .cu (X := List Sm × Value × List Value) [(3,_),(6,_),(7,_),(8,_)] ⟨rfl,rfl,rfl,rfl,trivial⟩ (fun z => []) (fun z => H) (fun z => [.row 150 6 z.2.1 z.1.length z.2.2,.box b8 [strV nm0,.slice q1 ps0.length d1,z.2.1] 100,.row 100 3 (.slice (some ⟨g20,0,none⟩) (0 + l.length) c20) (0 + l.length) ([] ++ xs20),.box b3 [.int .u8 x.wh.toNat,.int .u8 x.i.toNat,.int .u8 x.nm.toNat,.int .i64 x.n.toInt,.slice pN x.nodes.length cN] 55]) (fun z => 0 < z.1.length ∧ RepZ H 6 (z.1.map (dSm .i64)) z.2.2 ∧ okL (N + 1) z.1) ?_ fun z hC => ?_
  ·
   refine .sr<|.yv (.fieldAddr Z Fx.field100_2) Z<|.yv (.load Z Fx.agg98 (.tail _<|.head _) Z) Z<|.yv (.lenSl Fx.sl98 Z) Z<|.yv (.eql Z Z) Z<|.nt<|.cd Z (fun h43 => ?_) (fun h43 => ?_)
   ·try simp only [dt] at h43
    have hb0 : bd0.length = 0 := by omega
    exact .rg<|.yv (.build Z (Fx.bld150_0 _)) Z<|.blR Z (Fx.bsl98_1 _ _ _ _ _ _) Z (z := 6) Z (by decide) fun g45 => .yv (.fieldAddr Z Fx.field100_2) Z<|.st (.tail<|.tail<|.head) Z Z Fx.size98 Z (nb Z) Z<|.nt<|.me ([stopS],_,_) trivial ⟨rfl,rfl,rfl,rfl,trivial⟩ (fun _ s => s.pick [0,2,3,4] [_,_,_,_] Z Z) ⟨by simp,.single stop_shut Z,okL_stop (by omega)⟩
   try simp only [df] at h43
   have hb0 : 0 < bd0.length := by omega
   exact .sk<|.tN<|.me (bd0,_,_) trivial ⟨rfl,rfl,rfl,rfl,trivial⟩ (fun _ s => by rw [Nat.zero_add] at s;exact (s.pick [0,1,2,3] _ Z Z)) ⟨hb0,hz35,ok0.body.mono (by omega)⟩
  obtain ⟨bs,rb,ys⟩ := z
  dsimp only at hC ⊢
  obtain ⟨hb0,hzb,okb⟩ := hC
  have hbl : bs.length ≤ N + 1 := okb.len
  refine At.rb hb0 fun gB capB moreB eB hcB1 hcB2 => ?_
  subst eB
  refine .sr<|.yv (.fieldAddr Z Fx.field55_1) Z<|.yv (.load Z Fx.agg5 (.tail _<|.tail _<|.tail _<|.head _) Z) Z<|.yv (.quo Z Z (by decide) (c := ((x.i.toNat / 4 : Nat) : Int)) (qu8 _ (by have := (x.i).toNat_lt;omega) (by decide))) Z<|.yv (.conv Z Fx.int5 Fx.int3 (c := ((x.i.toNat / 4 : Nat) : Int)) (w6 (by omega))) Z<|.yv (.fieldAddr Z Fx.field100_2) Z<|.yv (.load Z Fx.agg98 (.tail _<|.head _) Z) Z<|.yv (.lenSl Fx.sl98 Z) Z<|.yv (.rem Z Z (by omega) (c := ((x.i.toNat / 4 % bs.length : Nat) : Int)) (tm2 _ _)) Z<|?_
  have hj : x.i.toNat / 4 % bs.length < bs.length := Nat.mod_lt _ hb0
  generalize x.i.toNat / 4 % bs.length = j at hj ⊢
  obtain ⟨cS,rS,lS,mS⟩ := hzb.at (i := j) (map_at (f := dSm .i64) hj)
  refine .a Z Z<|.nt<|.fl (trip := [(_,_,_),(_,_,_),(_,_,_),(_,_,_),(_,_,_),(_,_,_),(_,_,_),(_,_,_),(_,_,_),(_,_,_)]) 10 [(0,0),(1,0),(2,0),(3,0),(4,0),(5,0),(6,0),(7,0),(8,0),(9,1)] (by kernel_rfl) (by kernel_rfl) Z<|.yv (.fieldAddr Z Fx.field100_2) Z<|.yv (.load Z Fx.agg98 (.tail _<|.head _) Z) Z<|.m Z Z<|.yv (.fieldAddr Z Fx.field100_2) Z<|.yv (.load Z Fx.agg98 (.tail _<|.head _) Z) Z<|.m Z Z<|.yv (.indexSl Fx.sl98 Z Z (i := j) Z (by omega) (q := j * 6) (by omega)) Z<|.yv (.loadS (vs := cS) Z Fx.agg150 (.head _) lS (fun j u e => get_app (mS j u e))) Z<|.yv (.loadW Z Fx.agg55 (.tail _<|.tail _<|.tail _<|.head _) Z) Z<|.ct (X := List Value) Fx.call94 Z (fun W s => change_any H _ x cS _ W rS hX (ex_bnd okb hj (by omega)) s.agr) Z fun y64 H64 hc64 u64 => ?_
  obtain ⟨s2,hs2,gs⟩ := hc64
  refine .fn (tl := [_,_]) Z<|.yv (.indexSl Fx.sl98 Z Z (i := j) Z (by omega) (q := j * 6) (by omega)) Z<|.sE (vs := y64) .head Z Z (by rw [sm_len hs2];exact Fx.size150) hs2.one (by rw [sm_len hs2,List.length_append,hzb.len,List.length_map];omega)<|?_
  refine Sx.freezeBox fun HB uB mB => ?_
  rw [setsL_app _ _ _ _ (by rw [sm_len hs2,hzb.len,List.length_map];omega)] at mB
  have hB : Rep HB (.seq 6 ((bs.set j s2).map (dSm .i64))) [.slice (some ⟨gB,0,none⟩) bs.length capB] := Rep.mk mB.pre (by rw [List.map_set];exact RepZ.put (hs2.up uB.up) (sm_len hs2) (hzb.up (u64.trans uB).up) (by simpa using hj)) (by simp) hcB1 hcB2
  exact .nl<|.bN<|.tN<|.me (HB,⟨nm0,ps0,bs.set j s2⟩,_) ⟨rfl,trivial⟩ ⟨rfl,rfl,trivial⟩ (fun _ s => s.pick [1,0] [_,_] Z Z) ⟨u64.trans uB,hd_shut (x := ⟨nm0,ps0,bs.set j s2⟩) k0 (k1.up (u64.trans uB).up) hB,⟨by show ps0.length ≤ _;have h : ps0.length ≤ N := ok0.ps;omega,(okb.put hj (gs _ (okb.at hj))).mono (by omega)⟩⟩
 obtain ⟨H1,h1,ch⟩ := z
 dsimp only at hC ⊢
 obtain ⟨u1,hch,ok1⟩ := hC
 refine At.rc (by omega) fun more hc1 hc2 => ?_
 refine .sr<|.m Z Z<|.m Z Z<|.yv (.loadW Z Fx.agg100 (.tail _<|.head _) (hd_len hch)) Z<|.yv (.indexSl Fx.sl97 Z Z (i := k) Z (by omega) (q := k * 3) (by omega)) Z<|.sE (vs := ch) .head Z Z (by rw [hd_len hch];exact Fx.size100) hch.one (by rw [hd_len hch,List.length_append,List.length_append,hz20.len,List.length_map];simp;omega)<|.ns<|.m Z Z<|.a Z Z<|.nt<|.rt<|?_
 refine Sx.freezeBox fun HB uB mB => ?_
 rw [setsL_app _ _ _ _ (by rw [hd_len hch,List.length_append,hz20.len,List.length_map];simp;omega)] at mB
 exact Sx.ret1 (.inl rfl) rfl (.tmp rfl) fun W t => ⟨_,HB,⟨l.set k h1,Rep.mk mB.pre (by rw [List.map_set];exact RepZ.put (hch.up uB.up) (hd_len hch) (hz20.up (u1.trans uB).up) (by simpa using hk)) (by simp) hc1 hc2,okV_set hok ok1⟩,rfl,(u1.trans uB).grow t⟩
theorem one_at {v : Value} {xs : List Value} {o : Nat} (h : xs[o]? = some v) : ∀ (j : Nat) u,[v][j]? = some u → xs[o + j]? = some u := fun j u e => by
 match j,e with
 | 0,e => simp at e;rw [Nat.add_zero,h,e]
def wvar (n : UInt8) : Vr := ⟨wordR n,1,0⟩
theorem yvar_shut {H : Hp} (n : UInt8) (i : Int64) : Rep H (dVr .i64 ⟨[121],UInt8.ofNat (n.toNat % 5),i⟩) [strV [121],.int .i64 (n.toNat % 5 : Nat),.int .i64 i.toInt] := by
 have := vr_shut (H := H) (k := .i64) (x := ⟨[121],UInt8.ofNat (n.toNat % 5),i⟩) (show [(121 : UInt8)].length ≤ 1000000 by decide)
 have e : (UInt8.ofNat (n.toNat % 5)).toNat = n.toNat % 5 := by rw [UInt8.toNat_ofNat'];omega
 simp only [e] at this
 exact this
theorem cp_len {H : Hp} {k : IntKind} {x : Cp} {cs : List Value} (h : Rep H (dCp k x) cs) : cs.length = 3 := by
 obtain ⟨_,_,_,_,rfl,_⟩ := cp_open h;rfl
theorem okC_set {N k : Nat} {c : Cp} {l : List Hd} (h : okCp N c) (k1 : okV2 (2 * N + 100) l) : okCp (2 * N + 100) ⟨c.nm,c.vars,c.vers.set k l⟩ := by
 refine ⟨by have := h.vars;show c.vars.length ≤ _;omega,by have := h.vers;simp;omega,fun v hv => ?_⟩
 rcases List.mem_or_eq_of_mem_set hv with hv | rfl
 ·exact (h.all v hv).mono (by omega)
 ·exact k1
theorem okF_set {N k : Nat} {f : Ft} {c : Cp} (h : okFt N f) (k1 : okCp (2 * N + 100) c) : okFt (2 * N + 100) ⟨f.nm,f.flags,f.links,f.comps.set k c⟩ := by
 refine ⟨by have := h.flags;show f.flags.length ≤ _;omega,by have := h.links;show f.links.length ≤ _;omega,by have := h.comps;simp;omega,by have := h.pos;simp;omega,fun v hv => ?_⟩
 rcases List.mem_or_eq_of_mem_set hv with hv | rfl
 ·exact (h.all v hv).mono (by omega)
 ·exact k1
set_option maxHeartbeats 4000000 in
set_option maxRecDepth 100000 in
theorem apply_any (H : Hp) (f : Ft) (x : Sp) (cs xs : List Value) (N : Nat) (hN1 : N ≤ 50000) (w : World) (h : Rep H (dFt .i64 f) cs) (hX : Rep H (dSp x) xs) (hok : okFt N f) (hA : Agr H w) :
 Calls Tryz.prog 23 #[.agg cs.toArray,.agg xs.toArray] w fun r w' => ∃ (v : List Value) (H' : Hp),(∃ f',Rep H' (dFt .i64 f') v ∧ okFt (2 * (N + 100) + 100) f') ∧ r = .returned (.agg v.toArray) ∧ Grow H w H' w' := by
 obtain ⟨p1,c1,p2,c2,p3,c3,rfl,n00,k1,k2,k3⟩ := ft_open h
 have hi256 := x.i.toNat_lt
 have hn256 := x.nm.toNat_lt
 have hcap := k3.cap
 obtain ⟨pN,cN,rfl,hNd⟩ := sp_open hX
 obtain ⟨m0,hm0⟩ := wu64 x.n.toInt
 obtain ⟨m,hmm⟩ : ∃ m,m = m0 % 13 := ⟨_,rfl⟩
 have hm13 : m < 13 := by omega
 refine Sx.enter (H := H) Tryz.func23 rfl Tryz.ntmps23 rfl hA ?_
 refine .sr<|.bx Z Z Z fun b2 => .bx Z Z Z fun b3 => .al Fx.zero32 Z fun b4 => .ns<|.yv (.fieldAddr Z Fx.field55_3) Z<|.yv (.load Z Fx.agg2 (.tail _<|.head _) Z) Z<|.yv (.conv Z Fx.int2 Fx.int139 hm0) Z<|.yv (.rem Z Z (by decide) (c := ((m : Nat) : Int)) (by rw [hmm];exact tm2 _ 13)) Z<|.yv (.conv Z Fx.int139 Fx.int3 (c := ((m : Nat) : Int)) (w6 (by omega))) Z<|.a Z Z<|.ns<|.yv (.fieldAddr Z Fx.field55_2) Z<|.yv (.load Z Fx.agg5 (.tail _<|.head _) Z) Z<|.yv (.call Fx.call53 Z (fun W s => word_any H x.nm W s.agr)) Z<|.a Z Z<|.ns<|.yv (.fieldAddr Z Fx.field55_1) Z<|.yv (.load Z Fx.agg5 (.tail _<|.head _) Z) Z<|.yv (.conv Z Fx.int5 Fx.int3 (c := ((x.i.toNat : Nat) : Int)) (w6 (by omega))) Z<|.yv (.fieldAddr Z Fx.field32_3) Z<|.yv (.load Z Fx.agg30 (.tail _<|.tail _<|.head _) Z) Z<|.yv (.lenSl Fx.sl30 Z) Z<|.yv (.rem Z Z (by have := hok.pos;omega) (c := ((x.i.toNat % f.comps.length : Nat) : Int)) (tm2 _ _)) Z<|?_
 have hi : x.i.toNat % f.comps.length < f.comps.length := Nat.mod_lt _ hok.pos
 generalize x.i.toNat % f.comps.length = i at hi ⊢
 obtain ⟨bE,oE,cE,hpE,rE,lE,mE⟩ := k3.elem (map_at (f := dCp .i64) hi)
 cases hpE
 have ok0 := hok.all _ (List.getElem_mem hi)
 generalize hc0 : f.comps[i] = c0 at rE ok0
 obtain ⟨nm0,vs0,vr0⟩ := c0
 obtain ⟨q1,d1,q2,d2,rfl,n0,g1,g2⟩ := cp_open rE
 dsimp only at n0 g1 g2 mE
 have hvl : vs0.length ≤ N := ok0.vars
 have hrl : vr0.length ≤ N := ok0.vers
 have hfl := hok.flags
 have hll := hok.links
 have hcl := hok.comps
 refine .a Z Z<|.ns<|.yv (.fieldAddr Z Fx.field32_3) Z<|.yv (.load Z Fx.agg30 (.tail _<|.tail _<|.head _) Z) Z<|.m Z Z<|.yv (.indexSl Fx.sl30 Z Z (i := i) Z hi (q := oE + i * 3) Z) Z<|.yv (.loadMW Z Fx.agg91 mE Z) Z<|.al Fx.zero91 Z fun b8 => .sW .head Z Z Fx.size91 (by show ∀ u ∈ [_,_,_],Value.oneCell' u = true;simp [Value.oneCell',strV]) Z<|.nt<|.cu (X := List Value × Option Addr × Nat × List Value × Option Addr × Nat) [(2,_),(3,_),(4,_),(5,_),(6,_),(7,_),(8,_)] ⟨rfl,rfl,rfl,rfl,rfl,rfl,rfl,trivial⟩ (fun z => []) (fun z => H) (fun z => [.row 93 3 (.slice z.2.1 vs0.length z.2.2.1) vs0.length z.1,.row 97 1 (.slice z.2.2.2.2.1 vr0.length z.2.2.2.2.2) vr0.length z.2.2.2.1,.box b8 [strV nm0,.slice z.2.1 vs0.length z.2.2.1,.slice z.2.2.2.2.1 vr0.length z.2.2.2.2.2] 91,.box b4 [.string ⟨#[]⟩,.slice none 0 0,.slice none 0 0,.slice none 0 0] 32,.box b3 [.int .u8 x.wh.toNat,.int .u8 x.i.toNat,.int .u8 x.nm.toNat,.int .i64 x.n.toInt,.slice pN x.nodes.length cN] 55,.box b2 [strV f.nm,.slice p1 f.flags.length c1,.slice p2 f.links.length c2,.slice (some ⟨bE,oE,none⟩) f.comps.length c3] 32]) (fun z => RepZ H 3 (vs0.map (dVr .i64)) z.1 ∧ RepZ H 1 (vr0.map (dVs .i64)) z.2.2.2.1) ?_ fun z hC => ?_
 ·
  refine .ft (p := .light _ _ (.light _ _ (.light _ _ (.light _ _ (.alt _ _ _ (.alt _ _ _ (.light _ _ (.alt _ _ _ (.alt _ _ _ (.done) (.no)) (.no))) (.alt _ _ _ (.alt _ _ _ (.light _ _ (.alt _ _ _ (.done) (.no))) (.no)) (.no))) (.alt _ _ _ (.alt _ _ _ (.alt _ _ _ (.light _ _ (.alt _ _ _ (.done) (.no))) (.no)) (.no)) (.no))))))) 9 (.light 1 (.light 2 (.light 5 (.light 6 (.alt 0 0 (.alt 3 2 (.light 8 (.alt 4 0 (.alt 7 2 (.done) (.no)) (.no))) (.alt 4 0 (.alt 3 2 (.light 8 (.alt 7 2 (.done) (.no))) (.no)) (.no))) (.alt 4 0 (.alt 0 0 (.alt 3 2 (.light 8 (.alt 7 2 (.done) (.no))) (.no)) (.no)) (.no))))))) (by kernel_rfl) (by kernel_rfl) Z<|.yv (.fieldAddr Z Fx.field91_1) Z<|.yv (.load Z Fx.agg88 (.head _) Z) Z<|.yv (.fieldAddr Z Fx.field91_2) Z<|.yv (.load Z Fx.agg89 (.head _) Z) Z<|.h ?_ (.h ?_ .nn)
  ·
   refine .blR Z Fx.bsl88_0 Z (z := 3) Z (by decide) fun g34 => .h ?_ (.h ?_ .nn)
   ·
    exact .apD0 Fx.row88 Z (fun _ _ => .head) Z g1 (by simp [maxLen];omega) (by omega) Z (fun _ _ => (.yv (.load Z Fx.agg89 (.tail _<|.head _) Z)<|.yv (.fieldAddr Z Fx.field91_2)<|.done (by kernel_rfl)<|.done (by kernel_rfl)<|.nl)) fun xs37 p37 c37 hz37 => .yv (.fieldAddr Z Fx.field91_1) Z<|.h1<|.blR Z Fx.bsl89_0 Z (z := 1) Z (by decide) fun g38 => .h1<|.apD0 Fx.row89 Z (fun _ _ => .head) Z g2 (by simp [maxLen];omega) (by omega) Z (fun _ _ => (.yv (.fieldAddr Z Fx.field91_1)<|.done (by kernel_rfl)<|.done (by kernel_rfl)<|.done (by kernel_rfl)<|.done (by kernel_rfl)<|.nl)) fun xs41 p41 c41 hz41 => .fn (tl := [_,_,_]) Z<|.st (.tail<|.tail<|.head) Z Z Fx.size88 Z (nb Z) Z<|.yv (.fieldAddr Z Fx.field91_2) Z<|.st (.tail<|.tail<|.head) Z Z Fx.size89 Z (nb Z) Z<|.nt<|.me (xs37,p37,c37,xs41,p41,c41) trivial ⟨rfl,rfl,rfl,rfl,rfl,rfl,rfl,trivial⟩ (fun _ s => s.pick [1,0,2,3,4,5] [_,_,_,_,_,_] Z Z) ⟨hz37,hz41⟩
   exact .blR Z Fx.bsl89_0 Z (z := 1) Z (by decide) fun g38 => .h1<|.apD0 Fx.row88 Z (fun _ _ => (.tail<|.head)) Z g1 (by simp [maxLen];omega) (by omega) Z (fun _ _ => (.yv (.load Z Fx.agg89 (.tail _<|.tail _<|.head _) Z)<|.yv (.fieldAddr Z Fx.field91_2)<|.done (by kernel_rfl)<|.done (by kernel_rfl)<|.nl)) fun xs37 p37 c37 hz37 => .yv (.fieldAddr Z Fx.field91_1) Z<|.h1<|.apD0 Fx.row89 Z (fun _ _ => .head) Z g2 (by simp [maxLen];omega) (by omega) Z (fun _ _ => (.yv (.fieldAddr Z Fx.field91_1)<|.done (by kernel_rfl)<|.done (by kernel_rfl)<|.done (by kernel_rfl)<|.done (by kernel_rfl)<|.nl)) fun xs41 p41 c41 hz41 => .fn (tl := [_,_,_]) Z<|.st (.tail<|.tail<|.head) Z Z Fx.size88 Z (nb Z) Z<|.yv (.fieldAddr Z Fx.field91_2) Z<|.st (.tail<|.tail<|.head) Z Z Fx.size89 Z (nb Z) Z<|.nt<|.me (xs37,p37,c37,xs41,p41,c41) trivial ⟨rfl,rfl,rfl,rfl,rfl,rfl,rfl,trivial⟩ (fun _ s => s.pick [1,0,2,3,4,5] [_,_,_,_,_,_] Z Z) ⟨hz37,hz41⟩
  exact .blR Z Fx.bsl89_0 Z (z := 1) Z (by decide) fun g38 => .h1<|.blR Z Fx.bsl88_0 Z (z := 3) Z (by decide) fun g34 => .h1<|.apD0 Fx.row88 Z (fun _ _ => .head) Z g1 (by simp [maxLen];omega) (by omega) Z (fun _ _ => (.yv (.load Z Fx.agg89 (.tail _<|.tail _<|.head _) Z)<|.yv (.fieldAddr Z Fx.field91_2)<|.done (by kernel_rfl)<|.done (by kernel_rfl)<|.nl)) fun xs37 p37 c37 hz37 => .yv (.fieldAddr Z Fx.field91_1) Z<|.h1<|.apD0 Fx.row89 Z (fun _ _ => (.tail<|.head)) Z g2 (by simp [maxLen];omega) (by omega) Z (fun _ _ => (.yv (.fieldAddr Z Fx.field91_1)<|.done (by kernel_rfl)<|.done (by kernel_rfl)<|.done (by kernel_rfl)<|.done (by kernel_rfl)<|.nl)) fun xs41 p41 c41 hz41 => .fn (tl := [_,_,_]) Z<|.st (.tail<|.tail<|.head) Z Z Fx.size88 Z (nb Z) Z<|.yv (.fieldAddr Z Fx.field91_2) Z<|.st (.tail<|.tail<|.head) Z Z Fx.size89 Z (nb Z) Z<|.nt<|.me (xs37,p37,c37,xs41,p41,c41) trivial ⟨rfl,rfl,rfl,rfl,rfl,rfl,rfl,trivial⟩ (fun _ s => s) ⟨hz37,hz41⟩
 obtain ⟨xs37,p37,c37,xs41,p41,c41⟩ := z
 dsimp only at hC ⊢
 obtain ⟨hz37,hz41⟩ := hC
 refine .cu (X := Hp × Ft × List Value × Cp × Value × List Value × Value × List Value) [(2,_),(3,_),(4,_),(7,_),(8,_)] ⟨rfl,rfl,rfl,rfl,rfl,trivial⟩ (fun z => []) (fun z => z.1) (fun z => [.row 93 3 z.2.2.2.2.1 z.2.2.2.1.vars.length z.2.2.2.2.2.1,.row 97 1 z.2.2.2.2.2.2.1 z.2.2.2.1.vers.length z.2.2.2.2.2.2.2,.box b8 [strV z.2.2.2.1.nm,z.2.2.2.2.1,z.2.2.2.2.2.2.1] 91,.box b2 z.2.2.1 32,.box b3 [.int .u8 x.wh.toNat,.int .u8 x.i.toNat,.int .u8 x.nm.toNat,.int .i64 x.n.toInt,.slice pN x.nodes.length cN] 55,.box b4 [.string ⟨#[]⟩,.slice none 0 0,.slice none 0 0,.slice none 0 0] 32]) (fun z => HUp w H z.1 ∧ Rep z.1 (dFt .i64 z.2.1) z.2.2.1 ∧ okFt (N + 100) z.2.1 ∧ f.comps.length ≤ z.2.1.comps.length ∧ z.2.2.2.1.nm.length ≤ 1000000 ∧ RepZ z.1 3 (z.2.2.2.1.vars.map (dVr .i64)) z.2.2.2.2.2.1 ∧ RepZ z.1 1 (z.2.2.2.1.vers.map (dVs .i64)) z.2.2.2.2.2.2.2 ∧ okCp (N + 100) z.2.2.2.1) ?_ fun z hC => ?_
 ·
  refine .sr<|.yv (.fieldAddr Z Fx.field55_0) Z<|.yv (.load Z Fx.agg5 (.tail _<|.tail _<|.tail _<|.tail _<|.head _) Z) Z<|.yv (.rem Z Z (by decide) (c := ((x.wh.toNat % 26 : Nat) : Int)) (by rw [Int.tmod_eq_emod_of_nonneg (by omega)];omega)) Z<|.nt<|.bk<|.sr<|.yv (.eql Z Z) Z<|.a Z Z<|.nt<|.cd Z (fun h47 => ?_) (fun h47 => ?_)
  ·skip
   exact .rg<|.m Z Z<|.yv (.fieldAddr Z Fx.field32_0) Z<|.st (.tail<|.tail<|.tail<|.tail<|.tail<|.head) Z Z Fx.size9 Z (nb Z) Z<|.nl<|.bN<|.tN<|.me (H,⟨wordR x.nm,f.flags,f.links,f.comps⟩,_,⟨nm0,vs0,vr0⟩,_,_,_,_) trivial ⟨rfl,rfl,rfl,rfl,rfl,trivial⟩ (fun _ s => s.pick [0,1,2,5,4,3] [_,_,_,_,_,_] Z Z) ⟨.refl,ft_shut (x := ⟨wordR x.nm,f.flags,f.links,f.comps⟩) (Nat.le_trans (word_len _) (by decide)) k1 k2 k3,⟨(hok.mono (M := N + 100) (by omega)).flags,(hok.mono (M := N + 100) (by omega)).links,(hok.mono (M := N + 100) (by omega)).comps,hok.pos,(hok.mono (M := N + 100) (by omega)).all⟩,Nat.le_refl _,n0,hz37,hz41,ok0.mono (by omega)⟩
  skip
  refine .sr<|.yv (.eql Z Z) Z<|.a Z Z<|.nt<|.cd Z (fun h51 => ?_) (fun h51 => ?_)
  ·skip
   refine .sr<|.a Z Z<|.nt<|.bk<|.pm [5,0,1,2,3,4] [_,_,_,_,_,_] Z Z<|.lp (X := Nat × Hp × Option Addr × Nat × Nat) [(2,_),(3,_),(4,_),(5,_),(7,_),(8,_)] ⟨rfl,rfl,rfl,rfl,rfl,rfl,trivial⟩ [_,_,_,_,_] (fun z => [(9,.int .i64 (z.1 : Nat))]) (fun z => z.2.1) (fun z => [.box b2 [strV f.nm,.slice p1 f.flags.length c1,.slice p2 f.links.length c2,.slice z.2.2.1 z.2.2.2.1 z.2.2.2.2] 32]) (fun z => z.1 ≤ m ∧ HUp w H z.2.1 ∧ ∃ L : List Cp,L.length = f.comps.length + z.1 ∧ Rep z.2.1 (.seq 3 (L.map (dCp .i64))) [.slice z.2.2.1 z.2.2.2.1 z.2.2.2.2] ∧ ∀ c ∈ L,okCp N c) (fun z => m - z.1) (0,H,_,_,_) (fun _ s => s) ⟨rfl,trivial⟩ ⟨by simp,.refl,f.comps,by simp,k3,fun c m => (hok.all c m)⟩ fun z hC => ?_
   obtain ⟨j,H1,pp,pn,pc⟩ := z
   dsimp only at hC ⊢
   obtain ⟨hj0,uP,L,hL,hr,hall⟩ := hC
   have hpn := hr.len.1
   rw [List.length_map] at hpn
   have hrc := hr.cap
   refine .sq<|.sr<|.m Z Z<|.m Z Z<|.yv (.lss Z Z) Z<|.nt<|.cd Z (fun h55 => ?_) (fun h55 => ?_)
   ·try simp only [dt] at h55
    have hj : j < m := by omega
    have hL0 : 0 < L.length := by have := hok.pos;omega
    obtain ⟨bF,oF,cF,hpF,rF,lF,mF⟩ := hr.elem (map_at (f := dCp .i64) hL0)
    cases hpF
    generalize hcx : L[0] = cx at rF
    obtain ⟨nmx,vsx,vrx⟩ := cx
    obtain ⟨qx1,dx1,qx2,dx2,rfl,nx0,kx1,kx2⟩ := cp_open rF
    dsimp only at mF
    refine .sk<|.tN<|.sq<|.bk<|.ft (p := .light _ _ (.light _ _ (.light _ _ (.light _ _ (.light _ _ (.light _ _ (.alt _ _ _ (.alt _ _ _ (.alt _ _ _ (.done) (.no)) (.alt _ _ _ (.alt _ _ _ (.done) (.no)) (.no))) (.alt _ _ _ (.alt _ _ _ (.alt _ _ _ (.done) (.no)) (.no)) (.no))))))))) 9 (.light 1 (.light 2 (.light 4 (.light 5 (.light 6 (.light 7 (.alt 0 0 (.alt 3 2 (.alt 8 0 (.done) (.no)) (.alt 8 0 (.alt 3 2 (.done) (.no)) (.no))) (.alt 8 0 (.alt 0 0 (.alt 3 2 (.done) (.no)) (.no)) (.no))))))))) (by kernel_rfl) (by kernel_rfl) Z<|.yv (.fieldAddr Z Fx.field32_3) Z<|.yv (.load Z Fx.agg30 (.head _) Z) Z<|.yv (.fieldAddr Z Fx.field32_3) Z<|.yv (.load Z Fx.agg30 (.head _) Z) Z<|.yv (.indexSl Fx.sl30 Z Z (i := 0) Z (by omega) (q := oF + 0 * 3) Z) Z<|.yv (.loadMW Z Fx.agg91 mF Z) Z<|.h ?_ (.h ?_ .nn)
    ·
     refine .blR Z Fx.bsl30_0 Z (z := 3) Z (by decide) fun g58 => .h ?_ (.h ?_ .nn)
     ·
      refine .apD0 Fx.row30 Z (fun _ _ => .head) Z hr (by simp [maxLen];omega) (by omega) Z (fun _ _ => (.yv (.loadMW Z Fx.agg91 mF Z)<|.yv (.indexSl Fx.sl30 Z Z (i := 0) Z (by omega) (q := oF + 0 * 3) Z)<|.yv (.load Z Fx.agg30 (.tail _<|.head _) Z)<|.yv (.fieldAddr Z Fx.field32_3)<|.done (by kernel_rfl)<|.done (by kernel_rfl)<|.nl)) fun xs61 p61 c61 hz61 => .h1<|.bl Z (Fx.bsl30_1 _ _ _) Z fun b66 => .fn (tl := [_,_,_]) Z<|.ap (news := [strV nmx,.slice qx1 vsx.length dx1,.slice qx2 vrx.length dx2]) Fx.row30 Z (fun _ => (.tail<|.head)) Z (.box (.head _) z0) Z (by simp [Value.oneCell',strV]) (by simp [maxLen];omega) (by omega) Z fun r67 _ => ?_
      refine At.ra (.tail _<|.head _) fun p67 c67 e67 => ?_
      subst e67
      refine .yv (.fieldAddr Z Fx.field32_3) Z<|.st (.tail<|.tail<|.head) Z Z Fx.size30 Z (nb Z) Z<|?_
      refine At.pm [1,0,2,3,4,5,6,7] [_,_,_,_,_,_,_,_] rfl rfl ?_
      refine Sx.freezeSeq (ds := (L ++ [L[0]]).map (dCp .i64)) (by simp <;> omega) (by rw [List.map_append,hcx];exact hz61.snoc rF rfl) fun H2 p2 c2 u2 e2 h2 => ?_
      obtain ⟨rfl,rfl⟩ := sl_inj e2
      exact .nl<|.bN<|.tN<|.rg<|.m Z Z<|.yv (.add Z Z (w6 (by omega))) Z<|.a Z Z<|.nt<|.ag (x := (j,H1,some ⟨bF,oF,none⟩,pn,pc)) (j + 1,H2,p67,pn + 1,c67) ⟨rfl,trivial⟩ ⟨rfl,rfl,rfl,rfl,rfl,rfl,trivial⟩ (fun _ s => (s.pick [1,2,3,4,5,6] _ Z Z)) ⟨by dsimp only;omega,uP.trans u2,L ++ [L[0]],by simp;omega,h2,fun c m => (List.mem_append.1 m).elim (hall c) (fun m => by rw [List.mem_singleton.1 m];exact hall _ (List.getElem_mem hL0))⟩ (by dsimp only;omega)
     refine .bl Z (Fx.bsl30_1 _ _ _) Z fun b66 => .h1<|.apD0 Fx.row30 Z (fun _ _ => (.tail<|.head)) Z hr (by simp [maxLen];omega) (by omega) Z (fun _ _ => (.yv (.loadMW Z Fx.agg91 mF Z)<|.yv (.indexSl Fx.sl30 Z Z (i := 0) Z (by omega) (q := oF + 0 * 3) Z)<|.yv (.load Z Fx.agg30 (.tail _<|.tail _<|.head _) Z)<|.yv (.fieldAddr Z Fx.field32_3)<|.done (by kernel_rfl)<|.done (by kernel_rfl)<|.nl)) fun xs61 p61 c61 hz61 => .fn (tl := [_,_,_]) Z<|.ap (news := [strV nmx,.slice qx1 vsx.length dx1,.slice qx2 vrx.length dx2]) Fx.row30 Z (fun _ => (.tail<|.head)) Z (.box (.head _) z0) Z (by simp [Value.oneCell',strV]) (by simp [maxLen];omega) (by omega) Z fun r67 _ => ?_
     refine At.ra (.tail _<|.head _) fun p67 c67 e67 => ?_
     subst e67
     refine .yv (.fieldAddr Z Fx.field32_3) Z<|.st (.tail<|.tail<|.head) Z Z Fx.size30 Z (nb Z) Z<|?_
     refine At.pm [1,0,2,3,4,5,6,7] [_,_,_,_,_,_,_,_] rfl rfl ?_
     refine Sx.freezeSeq (ds := (L ++ [L[0]]).map (dCp .i64)) (by simp <;> omega) (by rw [List.map_append,hcx];exact hz61.snoc rF rfl) fun H2 p2 c2 u2 e2 h2 => ?_
     obtain ⟨rfl,rfl⟩ := sl_inj e2
     exact .nl<|.bN<|.tN<|.rg<|.m Z Z<|.yv (.add Z Z (w6 (by omega))) Z<|.a Z Z<|.nt<|.ag (x := (j,H1,some ⟨bF,oF,none⟩,pn,pc)) (j + 1,H2,p67,pn + 1,c67) ⟨rfl,trivial⟩ ⟨rfl,rfl,rfl,rfl,rfl,rfl,trivial⟩ (fun _ s => (s.pick [1,2,3,4,5,6] _ Z Z)) ⟨by dsimp only;omega,uP.trans u2,L ++ [L[0]],by simp;omega,h2,fun c m => (List.mem_append.1 m).elim (hall c) (fun m => by rw [List.mem_singleton.1 m];exact hall _ (List.getElem_mem hL0))⟩ (by dsimp only;omega)
    refine .bl Z (Fx.bsl30_1 _ _ _) Z fun b66 => .h1<|.blR Z Fx.bsl30_0 Z (z := 3) Z (by decide) fun g58 => .h1<|.apD0 Fx.row30 Z (fun _ _ => .head) Z hr (by simp [maxLen];omega) (by omega) Z (fun _ _ => (.yv (.loadMW Z Fx.agg91 mF Z)<|.yv (.indexSl Fx.sl30 Z Z (i := 0) Z (by omega) (q := oF + 0 * 3) Z)<|.yv (.load Z Fx.agg30 (.tail _<|.tail _<|.head _) Z)<|.yv (.fieldAddr Z Fx.field32_3)<|.done (by kernel_rfl)<|.done (by kernel_rfl)<|.nl)) fun xs61 p61 c61 hz61 => .fn (tl := [_,_,_]) Z<|.ap (news := [strV nmx,.slice qx1 vsx.length dx1,.slice qx2 vrx.length dx2]) Fx.row30 Z (fun _ => .head) Z (.box (.tail _<|.head _) z0) Z (by simp [Value.oneCell',strV]) (by simp [maxLen];omega) (by omega) Z fun r67 _ => ?_
    refine At.ra (.head _) fun p67 c67 e67 => ?_
    subst e67
    refine .yv (.fieldAddr Z Fx.field32_3) Z<|.st (.tail<|.tail<|.head) Z Z Fx.size30 Z (nb Z) Z<|?_
    refine Sx.freezeSeq (ds := (L ++ [L[0]]).map (dCp .i64)) (by simp <;> omega) (by rw [List.map_append,hcx];exact hz61.snoc rF rfl) fun H2 p2 c2 u2 e2 h2 => ?_
    obtain ⟨rfl,rfl⟩ := sl_inj e2
    exact .nl<|.bN<|.tN<|.rg<|.m Z Z<|.yv (.add Z Z (w6 (by omega))) Z<|.a Z Z<|.nt<|.ag (x := (j,H1,some ⟨bF,oF,none⟩,pn,pc)) (j + 1,H2,p67,pn + 1,c67) ⟨rfl,trivial⟩ ⟨rfl,rfl,rfl,rfl,rfl,rfl,trivial⟩ (fun _ s => (s.pick [1,2,3,4,5,6] _ Z Z)) ⟨by dsimp only;omega,uP.trans u2,L ++ [L[0]],by simp;omega,h2,fun c m => (List.mem_append.1 m).elim (hall c) (fun m => by rw [List.mem_singleton.1 m];exact hall _ (List.getElem_mem hL0))⟩ (by dsimp only;omega)
   skip
   exact .ex<|.tE<|.tE<|.bE<|.bN<|.tN<|.me (H1,⟨f.nm,f.flags,f.links,L⟩,_,⟨nm0,vs0,vr0⟩,_,_,_,_) trivial ⟨rfl,rfl,rfl,rfl,rfl,trivial⟩ (fun _ s => s.pick [1,2,3,0,5,4] [_,_,_,_,_,_] Z Z) ⟨uP,ft_shut (x := ⟨f.nm,f.flags,f.links,L⟩) n00 (k1.up uP.up) (k2.up uP.up) hr,⟨(hok.mono (M := N + 100) (by omega)).flags,(hok.mono (M := N + 100) (by omega)).links,by show L.length ≤ _;have := hok.comps;omega,by show 0 < L.length;have := hok.pos;omega,fun c m => (hall c m).mono (by omega)⟩,(by show f.comps.length ≤ L.length;omega),n0,RepZ.up uP.up hz37,RepZ.up uP.up hz41,ok0.mono (by omega)⟩
  skip
  refine .sr<|.yv (.eql Z Z) Z<|.a Z Z<|.nt<|.cd Z (fun h69 => ?_) (fun h69 => ?_)
  ·skip
   refine .sr<|.a Z Z<|.nt<|.bk<|.pm [5,0,1,2,3,4] [_,_,_,_,_,_] Z Z<|.lp (X := Nat × Hp × Option Addr × Nat × Nat) [(2,_),(3,_),(4,_),(5,_),(6,_),(7,_),(8,_)] ⟨rfl,rfl,rfl,rfl,rfl,rfl,rfl,trivial⟩ [_,_,_,_,_] (fun z => [(10,.int .i64 (z.1 : Nat))]) (fun z => z.2.1) (fun z => [.box b2 [strV f.nm,.slice z.2.2.1 z.2.2.2.1 z.2.2.2.2,.slice p2 f.links.length c2,.slice (some ⟨bE,oE,none⟩) f.comps.length c3] 32]) (fun z => z.1 ≤ m ∧ HUp w H z.2.1 ∧ ∃ L : List Fg,L.length = f.flags.length + z.1 ∧ Rep z.2.1 (.seq 2 (L.map dFg)) [.slice z.2.2.1 z.2.2.2.1 z.2.2.2.2]) (fun z => m - z.1) (0,H,_,_,_) (fun _ s => s) ⟨rfl,trivial⟩ ⟨by simp,.refl,f.flags,by simp,k1⟩ fun z hC => ?_
   obtain ⟨j,H1,pp,pn,pc⟩ := z
   dsimp only at hC ⊢
   obtain ⟨hj0,uP,L,hL,hr⟩ := hC
   have hpn := hr.len.1
   rw [List.length_map] at hpn
   have hrc := hr.cap
   refine .sq<|.sr<|.m Z Z<|.m Z Z<|.yv (.lss Z Z) Z<|.nt<|.cd Z (fun h73 => ?_) (fun h73 => ?_)
   ·try simp only [dt] at h73
    have hj : j < m := by omega
    refine .sk<|.tN<|.sq<|.bk<|.rg<|.blR Z Fx.bsl28_0 Z (z := 2) Z (by decide) fun g76 => .yv (.fieldAddr Z Fx.field32_1) Z<|.yv (.load Z Fx.agg28 (.tail _<|.head _) Z) Z<|.apD0 Fx.row28 Z (fun _ _ => .head) Z hr (by simp [maxLen];omega) (by omega) Z fun xs79 r79 hz79 => .m Z Z<|.yv (.build Z (Fx.bld84_0 _)) Z<|.bl Z (Fx.bsl28_1 _ _) Z fun b82 => .ap (news := [strV (wordR x.nm),.bool false]) Fx.row28 Z (fun _ => (.tail<|.head)) Z (.box (.head _) z0) Z (by simp [Value.oneCell',strV]) (by simp [maxLen];omega) (by omega) Z fun r83 _ => ?_
    refine At.ra (.tail _<|.head _) fun p83 c83 e83 => ?_
    subst e83
    refine .yv (.fieldAddr Z Fx.field32_1) Z<|.st (.tail<|.tail<|.head) Z Z Fx.size28 Z (nb Z) Z<|?_
    refine At.pm [1,0,2,3,4,5,6,7] [_,_,_,_,_,_,_,_] rfl rfl ?_
    refine Sx.freezeSeq (ds := (L ++ [(⟨wordR x.nm,false⟩ : Fg)]).map dFg) (by simp <;> omega) (by rw [List.map_append];exact hz79.snoc (fg_shut (x := ⟨wordR x.nm,false⟩) (Nat.le_trans (word_len _) (by decide))) rfl) fun H2 p2 c2 u2 e2 h2 => ?_
    obtain ⟨rfl,rfl⟩ := sl_inj e2
    exact .nl<|.bN<|.tN<|.rg<|.m Z Z<|.yv (.add Z Z (w6 (by omega))) Z<|.a Z Z<|.nt<|.ag (x := (j,H1,pp,pn,pc)) (j + 1,H2,p83,pn + 1,c83) ⟨rfl,trivial⟩ ⟨rfl,rfl,rfl,rfl,rfl,rfl,rfl,trivial⟩ (fun _ s => (s.pick [1,2,3,4,5,6] _ Z Z)) ⟨by dsimp only;omega,uP.trans u2,L ++ [⟨wordR x.nm,false⟩],by simp;omega,h2⟩ (by dsimp only;omega)
   skip
   exact .ex<|.tE<|.tE<|.bE<|.bN<|.tN<|.me (H1,⟨f.nm,L,f.links,f.comps⟩,_,⟨nm0,vs0,vr0⟩,_,_,_,_) trivial ⟨rfl,rfl,rfl,rfl,rfl,trivial⟩ (fun _ s => s.pick [1,2,3,0,5,4] [_,_,_,_,_,_] Z Z) ⟨uP,ft_shut (x := ⟨f.nm,L,f.links,f.comps⟩) n00 hr (k2.up uP.up) (k3.up uP.up),⟨by show L.length ≤ _;have := hok.flags;omega,(hok.mono (M := N + 100) (by omega)).links,(hok.mono (M := N + 100) (by omega)).comps,hok.pos,(hok.mono (M := N + 100) (by omega)).all⟩,Nat.le_refl _,n0,RepZ.up uP.up hz37,RepZ.up uP.up hz41,ok0.mono (by omega)⟩
  skip
  refine .sr<|.yv (.eql Z Z) Z<|.a Z Z<|.nt<|.cd Z (fun h85 => ?_) (fun h85 => ?_)
  ·skip
   refine .sr<|.a Z Z<|.nt<|.bk<|.pm [5,0,1,2,3,4] [_,_,_,_,_,_] Z Z<|.lp (X := Nat × Hp × Option Addr × Nat × Nat) [(2,_),(3,_),(4,_),(5,_),(6,_),(7,_),(8,_)] ⟨rfl,rfl,rfl,rfl,rfl,rfl,rfl,trivial⟩ [_,_,_,_,_] (fun z => [(11,.int .i64 (z.1 : Nat))]) (fun z => z.2.1) (fun z => [.box b2 [strV f.nm,.slice p1 f.flags.length c1,.slice z.2.2.1 z.2.2.2.1 z.2.2.2.2,.slice (some ⟨bE,oE,none⟩) f.comps.length c3] 32]) (fun z => z.1 ≤ 6 * m ∧ HUp w H z.2.1 ∧ ∃ L : List Lk,L.length = f.links.length + z.1 ∧ Rep z.2.1 (.seq 3 (L.map dLk)) [.slice z.2.2.1 z.2.2.2.1 z.2.2.2.2]) (fun z => 6 * m - z.1) (0,H,_,_,_) (fun _ s => s) ⟨rfl,trivial⟩ ⟨by simp,.refl,f.links,by simp,k2⟩ fun z hC => ?_
   obtain ⟨j,H1,pp,pn,pc⟩ := z
   dsimp only at hC ⊢
   obtain ⟨hj0,uP,L,hL,hr⟩ := hC
   have hpn := hr.len.1
   rw [List.length_map] at hpn
   have hrc := hr.cap
   refine .sq<|.sr<|.m Z Z<|.m Z Z<|.yv (.mul Z Z (c := ((6 * m : Nat) : Int)) ((w6 (by omega)).trans (by omega))) Z<|.yv (.lss Z Z) Z<|.nt<|.cd Z (fun h90 => ?_) (fun h90 => ?_)
   ·try simp only [dt] at h90
    have hj : j < 6 * m := by omega
    refine .sk<|.tN<|.sq<|.bk<|.rg<|.blR Z Fx.bsl29_0 Z (z := 3) Z (by decide) fun g93 => .yv (.fieldAddr Z Fx.field32_2) Z<|.yv (.load Z Fx.agg29 (.tail _<|.head _) Z) Z<|.apD0 Fx.row29 Z (fun _ _ => .head) Z hr (by simp [maxLen];omega) (by omega) Z fun xs96 r96 hz96 => .m Z Z<|.yv (.build Z (Fx.bld86_0_1_2 _ _ _)) Z<|.bl Z (Fx.bsl29_1 _ _ _) Z fun b99 => .ap (news := [strV [97],strV (wordR x.nm),.int .i64 1]) Fx.row29 Z (fun _ => (.tail<|.head)) Z (.box (.head _) z0) Z (by simp [Value.oneCell',strV]) (by simp [maxLen];omega) (by omega) Z fun r100 _ => ?_
    refine At.ra (.tail _<|.head _) fun p100 c100 e100 => ?_
    subst e100
    refine .yv (.fieldAddr Z Fx.field32_2) Z<|.st (.tail<|.tail<|.head) Z Z Fx.size29 Z (nb Z) Z<|?_
    refine At.pm [1,0,2,3,4,5,6,7] [_,_,_,_,_,_,_,_] rfl rfl ?_
    refine Sx.freezeSeq (ds := (L ++ [(⟨[97],wordR x.nm,1⟩ : Lk)]).map dLk) (by simp <;> omega) (by rw [List.map_append];exact hz96.snoc (lk_shut (x := ⟨[97],wordR x.nm,1⟩) (show [(97 : UInt8)].length ≤ 1000000 by decide) (Nat.le_trans (word_len _) (by decide))) rfl) fun H2 p2 c2 u2 e2 h2 => ?_
    obtain ⟨rfl,rfl⟩ := sl_inj e2
    exact .nl<|.bN<|.tN<|.rg<|.m Z Z<|.yv (.add Z Z (w6 (by omega))) Z<|.a Z Z<|.nt<|.ag (x := (j,H1,pp,pn,pc)) (j + 1,H2,p100,pn + 1,c100) ⟨rfl,trivial⟩ ⟨rfl,rfl,rfl,rfl,rfl,rfl,rfl,trivial⟩ (fun _ s => (s.pick [1,2,3,4,5,6] _ Z Z)) ⟨by dsimp only;omega,uP.trans u2,L ++ [⟨[97],wordR x.nm,1⟩],by simp;omega,h2⟩ (by dsimp only;omega)
   skip
   exact .ex<|.tE<|.tE<|.bE<|.bN<|.tN<|.me (H1,⟨f.nm,f.flags,L,f.comps⟩,_,⟨nm0,vs0,vr0⟩,_,_,_,_) trivial ⟨rfl,rfl,rfl,rfl,rfl,trivial⟩ (fun _ s => s.pick [1,2,3,0,5,4] [_,_,_,_,_,_] Z Z) ⟨uP,ft_shut (x := ⟨f.nm,f.flags,L,f.comps⟩) n00 (k1.up uP.up) hr (k3.up uP.up),⟨(hok.mono (M := N + 100) (by omega)).flags,by show L.length ≤ _;have := hok.links;omega,(hok.mono (M := N + 100) (by omega)).comps,hok.pos,(hok.mono (M := N + 100) (by omega)).all⟩,Nat.le_refl _,n0,RepZ.up uP.up hz37,RepZ.up uP.up hz41,ok0.mono (by omega)⟩
  skip
  refine .sr<|.yv (.eql Z Z) Z<|.a Z Z<|.nt<|.cd Z (fun h102 => ?_) (fun h102 => ?_)
  ·skip
   refine .ft (p := .light _ _ (.light _ _ (.light _ _ (.light _ _ (.light _ _ (.alt _ _ _ (.alt _ _ _ (.alt _ _ _ (.done) (.no)) (.alt _ _ _ (.alt _ _ _ (.done) (.no)) (.no))) (.alt _ _ _ (.alt _ _ _ (.alt _ _ _ (.done) (.no)) (.no)) (.no)))))))) 8 (.light 1 (.light 2 (.light 4 (.light 5 (.light 6 (.alt 0 0 (.alt 3 2 (.alt 7 0 (.done) (.no)) (.alt 7 0 (.alt 3 2 (.done) (.no)) (.no))) (.alt 7 0 (.alt 0 0 (.alt 3 2 (.done) (.no)) (.no)) (.no)))))))) (by kernel_rfl) (by kernel_rfl) Z<|.yv (.fieldAddr Z Fx.field32_2) Z<|.yv (.load Z Fx.agg29 (.tail _<|.tail _<|.tail _<|.tail _<|.tail _<|.head _) Z) Z<|.yv (.fieldAddr Z Fx.field55_3) Z<|.yv (.load Z Fx.agg2 (.tail _<|.tail _<|.tail _<|.tail _<|.head _) Z) Z<|.yv (.build Z (Fx.bld86_0_1_2 _ _ _)) Z<|.h ?_ (.h ?_ .nn)
   ·
    refine .blR Z Fx.bsl29_0 Z (z := 3) Z (by decide) fun g104 => .h ?_ (.h ?_ .nn)
    ·
     refine .apD0 Fx.row29 Z (fun _ _ => .head) Z k2 (by simp [maxLen];omega) (by omega) Z (fun _ _ => (.yv (.build Z (Fx.bld86_0_1_2 _ _ _))<|.yv (.load Z Fx.agg2 (.tail _<|.tail _<|.tail _<|.tail _<|.tail _<|.head _) Z)<|.yv (.fieldAddr Z Fx.field55_3)<|.done (by kernel_rfl)<|.done (by kernel_rfl)<|.nl)) fun xs107 p107 c107 hz107 => .h1<|.bl Z (Fx.bsl29_1 _ _ _) Z fun b111 => .fn (tl := [_,_,_]) Z<|.ap (news := [strV [97],strV [97],.int .i64 x.n.toInt]) Fx.row29 Z (fun _ => (.tail<|.head)) Z (.box (.head _) z0) Z (by simp [Value.oneCell',strV]) (by simp [maxLen];omega) (by omega) Z fun r112 _ => ?_
     refine At.ra (.tail _<|.head _) fun p112 c112 e112 => ?_
     subst e112
     refine .yv (.fieldAddr Z Fx.field32_2) Z<|.st (.tail<|.tail<|.tail<|.tail<|.tail<|.tail<|.tail<|.head) Z Z Fx.size29 Z (nb Z) Z<|?_
     refine At.pm [1,0,2,3,4,5,6,7] [_,_,_,_,_,_,_,_] rfl rfl ?_
     refine Sx.freezeSeq (ds := (f.links ++ [(⟨[97],[97],x.n⟩ : Lk)]).map dLk) (by simp <;> omega) (by rw [List.map_append];exact hz107.snoc (lk_shut (x := ⟨[97],[97],x.n⟩) (show [(97 : UInt8)].length ≤ 1000000 by decide) (show [(97 : UInt8)].length ≤ 1000000 by decide)) rfl) fun H2 p2 c2 u2 e2 h2 => ?_
     obtain ⟨rfl,rfl⟩ := sl_inj e2
     exact .nl<|.bN<|.tN<|.me (H2,⟨f.nm,f.flags,f.links ++ [⟨[97],[97],x.n⟩],f.comps⟩,_,⟨nm0,vs0,vr0⟩,_,_,_,_) trivial ⟨rfl,rfl,rfl,rfl,rfl,trivial⟩ (fun _ s => s.pick [1,2,3,6,5,4] [_,_,_,_,_,_] Z Z) ⟨u2,ft_shut (x := ⟨f.nm,f.flags,f.links ++ [⟨[97],[97],x.n⟩],f.comps⟩) n00 (k1.up u2.up) h2 (k3.up u2.up),⟨(hok.mono (M := N + 100) (by omega)).flags,by show (f.links ++ [_]).length ≤ _;have := hok.links;rw [List.length_append,List.length_singleton];omega,(hok.mono (M := N + 100) (by omega)).comps,hok.pos,(hok.mono (M := N + 100) (by omega)).all⟩,Nat.le_refl _,n0,RepZ.up u2.up hz37,RepZ.up u2.up hz41,ok0.mono (by omega)⟩
    refine .bl Z (Fx.bsl29_1 _ _ _) Z fun b111 => .h1<|.apD0 Fx.row29 Z (fun _ _ => (.tail<|.head)) Z k2 (by simp [maxLen];omega) (by omega) Z (fun _ _ => (.yv (.build Z (Fx.bld86_0_1_2 _ _ _))<|.yv (.load Z Fx.agg2 (.tail _<|.tail _<|.tail _<|.tail _<|.tail _<|.tail _<|.head _) Z)<|.yv (.fieldAddr Z Fx.field55_3)<|.done (by kernel_rfl)<|.done (by kernel_rfl)<|.nl)) fun xs107 p107 c107 hz107 => .fn (tl := [_,_,_]) Z<|.ap (news := [strV [97],strV [97],.int .i64 x.n.toInt]) Fx.row29 Z (fun _ => (.tail<|.head)) Z (.box (.head _) z0) Z (by simp [Value.oneCell',strV]) (by simp [maxLen];omega) (by omega) Z fun r112 _ => ?_
    refine At.ra (.tail _<|.head _) fun p112 c112 e112 => ?_
    subst e112
    refine .yv (.fieldAddr Z Fx.field32_2) Z<|.st (.tail<|.tail<|.tail<|.tail<|.tail<|.tail<|.tail<|.head) Z Z Fx.size29 Z (nb Z) Z<|?_
    refine At.pm [1,0,2,3,4,5,6,7] [_,_,_,_,_,_,_,_] rfl rfl ?_
    refine Sx.freezeSeq (ds := (f.links ++ [(⟨[97],[97],x.n⟩ : Lk)]).map dLk) (by simp <;> omega) (by rw [List.map_append];exact hz107.snoc (lk_shut (x := ⟨[97],[97],x.n⟩) (show [(97 : UInt8)].length ≤ 1000000 by decide) (show [(97 : UInt8)].length ≤ 1000000 by decide)) rfl) fun H2 p2 c2 u2 e2 h2 => ?_
    obtain ⟨rfl,rfl⟩ := sl_inj e2
    exact .nl<|.bN<|.tN<|.me (H2,⟨f.nm,f.flags,f.links ++ [⟨[97],[97],x.n⟩],f.comps⟩,_,⟨nm0,vs0,vr0⟩,_,_,_,_) trivial ⟨rfl,rfl,rfl,rfl,rfl,trivial⟩ (fun _ s => s.pick [1,2,3,6,5,4] [_,_,_,_,_,_] Z Z) ⟨u2,ft_shut (x := ⟨f.nm,f.flags,f.links ++ [⟨[97],[97],x.n⟩],f.comps⟩) n00 (k1.up u2.up) h2 (k3.up u2.up),⟨(hok.mono (M := N + 100) (by omega)).flags,by show (f.links ++ [_]).length ≤ _;have := hok.links;rw [List.length_append,List.length_singleton];omega,(hok.mono (M := N + 100) (by omega)).comps,hok.pos,(hok.mono (M := N + 100) (by omega)).all⟩,Nat.le_refl _,n0,RepZ.up u2.up hz37,RepZ.up u2.up hz41,ok0.mono (by omega)⟩
   refine .bl Z (Fx.bsl29_1 _ _ _) Z fun b111 => .h1<|.blR Z Fx.bsl29_0 Z (z := 3) Z (by decide) fun g104 => .h1<|.apD0 Fx.row29 Z (fun _ _ => .head) Z k2 (by simp [maxLen];omega) (by omega) Z (fun _ _ => (.yv (.build Z (Fx.bld86_0_1_2 _ _ _))<|.yv (.load Z Fx.agg2 (.tail _<|.tail _<|.tail _<|.tail _<|.tail _<|.tail _<|.head _) Z)<|.yv (.fieldAddr Z Fx.field55_3)<|.done (by kernel_rfl)<|.done (by kernel_rfl)<|.nl)) fun xs107 p107 c107 hz107 => .fn (tl := [_,_,_]) Z<|.ap (news := [strV [97],strV [97],.int .i64 x.n.toInt]) Fx.row29 Z (fun _ => .head) Z (.box (.tail _<|.head _) z0) Z (by simp [Value.oneCell',strV]) (by simp [maxLen];omega) (by omega) Z fun r112 _ => ?_
   refine At.ra (.head _) fun p112 c112 e112 => ?_
   subst e112
   refine .yv (.fieldAddr Z Fx.field32_2) Z<|.st (.tail<|.tail<|.tail<|.tail<|.tail<|.tail<|.tail<|.head) Z Z Fx.size29 Z (nb Z) Z<|?_
   refine Sx.freezeSeq (ds := (f.links ++ [(⟨[97],[97],x.n⟩ : Lk)]).map dLk) (by simp <;> omega) (by rw [List.map_append];exact hz107.snoc (lk_shut (x := ⟨[97],[97],x.n⟩) (show [(97 : UInt8)].length ≤ 1000000 by decide) (show [(97 : UInt8)].length ≤ 1000000 by decide)) rfl) fun H2 p2 c2 u2 e2 h2 => ?_
   obtain ⟨rfl,rfl⟩ := sl_inj e2
   exact .nl<|.bN<|.tN<|.me (H2,⟨f.nm,f.flags,f.links ++ [⟨[97],[97],x.n⟩],f.comps⟩,_,⟨nm0,vs0,vr0⟩,_,_,_,_) trivial ⟨rfl,rfl,rfl,rfl,rfl,trivial⟩ (fun _ s => s.pick [1,2,3,6,5,4] [_,_,_,_,_,_] Z Z) ⟨u2,ft_shut (x := ⟨f.nm,f.flags,f.links ++ [⟨[97],[97],x.n⟩],f.comps⟩) n00 (k1.up u2.up) h2 (k3.up u2.up),⟨(hok.mono (M := N + 100) (by omega)).flags,by show (f.links ++ [_]).length ≤ _;have := hok.links;rw [List.length_append,List.length_singleton];omega,(hok.mono (M := N + 100) (by omega)).comps,hok.pos,(hok.mono (M := N + 100) (by omega)).all⟩,Nat.le_refl _,n0,RepZ.up u2.up hz37,RepZ.up u2.up hz41,ok0.mono (by omega)⟩
  skip
  refine .sr<|.yv (.eql Z Z) Z<|.a Z Z<|.nt<|.cd Z (fun h114 => ?_) (fun h114 => ?_)
  ·skip
   exact .rg<|.m Z Z<|.yv (.fieldAddr Z Fx.field91_0) Z<|.st (.tail<|.tail<|.head) Z Z Fx.size9 Z (nb Z) Z<|.nl<|.bN<|.tN<|.me (H,f,_,⟨wordR x.nm,vs0,vr0⟩,_,_,_,_) trivial ⟨rfl,rfl,rfl,rfl,rfl,trivial⟩ (fun _ s => s.pick [0,1,2,5,4,3] [_,_,_,_,_,_] Z Z) ⟨.refl,h,hok.mono (by omega),Nat.le_refl _,(Nat.le_trans (word_len _) (by decide)),hz37,hz41,⟨(ok0.mono (M := N + 100) (by omega)).vars,(ok0.mono (M := N + 100) (by omega)).vers,(ok0.mono (M := N + 100) (by omega)).all⟩⟩
  skip
  refine .sr<|.yv (.eql Z Z) Z<|.a Z Z<|.nt<|.cd Z (fun h118 => ?_) (fun h118 => ?_)
  ·skip
   refine .sr<|.a Z Z<|.nt<|.bk<|.pm [0,2,1,3,4,5] [_,_,_,_,_,_] Z Z<|.lp (X := Nat × Value × List Value) [(2,_),(3,_),(4,_),(5,_),(6,_),(7,_),(8,_)] ⟨rfl,rfl,rfl,rfl,rfl,rfl,rfl,trivial⟩ [_,_,_,_] (fun z => [(12,.int .i64 (z.1 : Nat))]) (fun z => H) (fun z => [.row 93 3 z.2.1 (vs0.length + z.1) z.2.2,.box b8 [strV nm0,z.2.1,.slice p41 vr0.length c41] 91]) (fun z => z.1 ≤ m ∧ RepZ H 3 ((vs0 ++ List.replicate z.1 (wvar x.nm)).map (dVr .i64)) z.2.2) (fun z => m - z.1) (0,_,_) (fun _ s => s) ⟨rfl,trivial⟩ ⟨by simp,by simpa using hz37⟩ fun z hC => ?_
   obtain ⟨j,rv,ys⟩ := z
   dsimp only at hC ⊢
   obtain ⟨hj0,hzv⟩ := hC
   refine .sq<|.sr<|.m Z Z<|.m Z Z<|.yv (.lss Z Z) Z<|.nt<|.cd Z (fun h122 => ?_) (fun h122 => ?_)
   ·try simp only [dt] at h122
    have hj : j < m := by omega
    refine .sk<|.tN<|.sq<|.bk<|.rg<|.yv (.fieldAddr Z Fx.field91_1) Z<|.yv (.load Z Fx.agg88 (.tail _<|.head _) Z) Z<|.m Z Z<|.yv (.build Z (Fx.bld93_0_1 _ _)) Z<|.bl Z (Fx.bsl88_1 _ _ _) Z fun b129 => .ap (news := [strV (wordR x.nm),.int .i64 1,.int .i64 0]) Fx.row88 Z (fun _ => (.tail<|.head)) Z (.box (.head _) z0) Z (by simp [Value.oneCell',strV]) (by simp [maxLen];omega) (by omega) Z fun r130 _ => ?_
    refine At.ra (.tail _<|.head _) fun p130 c130 e130 => ?_
    exact .yv (.fieldAddr Z Fx.field91_1) Z<|.st (.tail<|.tail<|.head) Z Z Fx.size88 (by rw [e130];rfl) (nb Z) Z<|.nl<|.bN<|.tN<|.rg<|.m Z Z<|.yv (.add Z Z (w6 (by omega))) Z<|.a Z Z<|.nt<|.ag (x := (j,rv,ys)) (j + 1,r130,ys ++ [strV (wordR x.nm),.int .i64 1,.int .i64 0]) ⟨rfl,trivial⟩ ⟨rfl,rfl,rfl,rfl,rfl,rfl,rfl,trivial⟩ (fun _ s => (s.pick [1,2,3,4,5,6] _ Z Z)) ⟨by dsimp only;omega,by dsimp only;rw [List.replicate_succ',← List.append_assoc,List.map_append];exact hzv.snoc (vr_shut (x := wvar x.nm) (Nat.le_trans (word_len _) (by decide))) Z⟩ (by dsimp only;omega)
   try simp only [df] at h122
   obtain rfl : m = j := by omega
   exact .ex<|.tE<|.tE<|.bE<|.bN<|.tN<|.me (H,f,_,⟨nm0,vs0 ++ List.replicate m (wvar x.nm),vr0⟩,_,_,_,_) trivial ⟨rfl,rfl,rfl,rfl,rfl,trivial⟩ (fun _ s => by rw [show (vs0 ++ List.replicate m (wvar x.nm)).length = vs0.length + m by simp];exact (s.pick [0,2,1,5,4,3] _ Z Z)) ⟨.refl,h,hok.mono (by omega),Nat.le_refl _,n0,hzv,hz41,⟨by show (vs0 ++ _).length ≤ _;have : vs0.length ≤ N := ok0.vars;simp;omega,(ok0.mono (M := N + 100) (by omega)).vers,(ok0.mono (M := N + 100) (by omega)).all⟩⟩
  skip
  refine .sr<|.yv (.eql Z Z) Z<|.a Z Z<|.nt<|.cd Z (fun h132 => ?_) (fun h132 => ?_)
  ·skip
   refine .rg<|.yv (.fieldAddr Z Fx.field91_1) Z<|.yv (.load Z Fx.agg88 (.tail _<|.tail _<|.head _) Z) Z<|.yv (.fieldAddr Z Fx.field55_2) Z<|.yv (.load Z Fx.agg5 (.tail _<|.tail _<|.tail _<|.tail _<|.head _) Z) Z<|.yv (.rem Z Z (by decide) (c := ((x.nm.toNat % 5 : Nat) : Int)) (by rw [Int.tmod_eq_emod_of_nonneg (by omega)];omega)) Z<|.yv (.conv Z Fx.int5 Fx.int3 (c := ((x.nm.toNat % 5 : Nat) : Int)) (w6 (by omega))) Z<|.yv (.fieldAddr Z Fx.field55_3) Z<|.yv (.load Z Fx.agg2 (.tail _<|.tail _<|.tail _<|.tail _<|.head _) Z) Z<|.yv (.build Z (Fx.bld93_0_1_2 _ _ _)) Z<|.bl Z (Fx.bsl88_1 _ _ _) Z fun b143 => .ap (news := [strV [121],.int .i64 (x.nm.toNat % 5 : Nat),.int .i64 x.n.toInt]) Fx.row88 Z (fun _ => (.tail<|.head)) Z (.box (.head _) z0) Z (by simp [Value.oneCell',strV]) (by simp [maxLen];omega) (by omega) Z fun r144 _ => ?_
   refine At.ra (.tail _<|.head _) fun p144 c144 e144 => ?_
   subst e144
   exact .yv (.fieldAddr Z Fx.field91_1) Z<|.st (.tail<|.tail<|.tail<|.head) Z Z Fx.size88 Z (nb Z) Z<|.nl<|.bN<|.tN<|.me (H,f,_,⟨nm0,vs0 ++ [⟨[121],UInt8.ofNat (x.nm.toNat % 5),x.n⟩],vr0⟩,_,_,_,_) trivial ⟨rfl,rfl,rfl,rfl,rfl,trivial⟩ (fun _ s => by rw [show (vs0 ++ [⟨[121],UInt8.ofNat (x.nm.toNat % 5),x.n⟩] : List Vr).length = vs0.length + 1 by simp];exact (s.pick [1,2,3,6,5,4] _ Z Z)) ⟨.refl,h,hok.mono (by omega),Nat.le_refl _,n0,(by rw [List.map_append];exact hz37.snoc (yvar_shut _ _) Z),hz41,⟨by show (vs0 ++ [_]).length ≤ _;have : vs0.length ≤ N := ok0.vars;simp;omega,(ok0.mono (M := N + 100) (by omega)).vers,(ok0.mono (M := N + 100) (by omega)).all⟩⟩
  skip
  refine .sr<|.yv (.eql Z Z) Z<|.a Z Z<|.nt<|.cd Z (fun h146 => ?_) (fun h146 => ?_)
  ·skip
   refine .rg<|.yv (.fieldAddr Z Fx.field91_2) Z<|.st (.tail<|.tail<|.head) Z Z Fx.size89 Z (nb Z) Z<|?_
   refine Sx.row0 97 1 ?_
   exact .nl<|.bN<|.tN<|.me (H,f,_,⟨nm0,vs0,[]⟩,_,_,_,_) trivial ⟨rfl,rfl,rfl,rfl,rfl,trivial⟩ (fun _ s => s.pick [1,0,3,6,5,4] [_,_,_,_,_,_] Z Z) ⟨.refl,h,hok.mono (by omega),Nat.le_refl _,n0,hz37,.nil,⟨(ok0.mono (M := N + 100) (by omega)).vars,by simp,fun _ h => by cases h⟩⟩
  skip
  refine .sr<|.yv (.eql Z Z) Z<|.a Z Z<|.nt<|.cd Z (fun h149 => ?_) (fun h149 => ?_)
  ·skip
   refine .sr<|.a Z Z<|.nt<|.bk<|.pm [1,2,0,3,4,5] [_,_,_,_,_,_] Z Z<|.lp (X := Nat × Value × List Value) [(2,_),(3,_),(4,_),(5,_),(7,_),(8,_)] ⟨rfl,rfl,rfl,rfl,rfl,rfl,trivial⟩ [_,_,_,_] (fun z => [(13,.int .i64 (z.1 : Nat))]) (fun z => H) (fun z => [.row 97 1 z.2.1 (vr0.length + z.1) z.2.2,.box b8 [strV nm0,.slice p37 vs0.length c37,z.2.1] 91]) (fun z => z.1 ≤ m ∧ RepZ H 1 ((vr0 ++ List.replicate z.1 []).map (dVs .i64)) z.2.2) (fun z => m - z.1) (0,_,_) (fun _ s => s) ⟨rfl,trivial⟩ ⟨by simp,by simpa using hz41⟩ fun z hC => ?_
   obtain ⟨j,rv,ys⟩ := z
   dsimp only at hC ⊢
   obtain ⟨hj0,hzv⟩ := hC
   refine .sq<|.sr<|.m Z Z<|.m Z Z<|.yv (.lss Z Z) Z<|.nt<|.cd Z (fun h153 => ?_) (fun h153 => ?_)
   ·try simp only [dt] at h153
    have hj : j < m := by omega
    refine .sk<|.tN<|.sq<|.bk<|.rg<|.yv (.fieldAddr Z Fx.field91_2) Z<|.yv (.load Z Fx.agg89 (.tail _<|.head _) Z) Z<|.bl Z (Fx.bsl89_1 _ _ _) Z fun b158 => .ap (news := [.slice none 0 0]) Fx.row89 Z (fun _ => (.tail<|.head)) Z (.box (.head _) z0) Z (by simp [Value.oneCell',strV]) (by simp [maxLen];omega) (by omega) Z fun r159 _ => ?_
    refine At.ra (.tail _<|.head _) fun p159 c159 e159 => ?_
    exact .yv (.fieldAddr Z Fx.field91_2) Z<|.st (.tail<|.tail<|.head) Z Z Fx.size89 (by rw [e159];rfl) (nb Z) Z<|.nl<|.bN<|.tN<|.rg<|.m Z Z<|.yv (.add Z Z (w6 (by omega))) Z<|.a Z Z<|.nt<|.ag (x := (j,rv,ys)) (j + 1,r159,ys ++ [.slice none 0 0]) ⟨rfl,trivial⟩ ⟨rfl,rfl,rfl,rfl,rfl,rfl,trivial⟩ (fun _ s => (s.pick [1,2,3,4,5,6] _ Z Z)) ⟨by dsimp only;omega,by dsimp only;rw [List.replicate_succ',← List.append_assoc,List.map_append];exact hzv.snoc (Rep.empty (by decide)) Z⟩ (by dsimp only;omega)
   try simp only [df] at h153
   obtain rfl : m = j := by omega
   exact .ex<|.tE<|.tE<|.bE<|.bN<|.tN<|.me (H,f,_,⟨nm0,vs0,vr0 ++ List.replicate m []⟩,_,_,_,_) trivial ⟨rfl,rfl,rfl,rfl,rfl,trivial⟩ (fun _ s => by rw [show (vr0 ++ List.replicate m ([] : List Hd)).length = vr0.length + m by simp];exact (s.pick [2,0,1,5,4,3] _ Z Z)) ⟨.refl,h,hok.mono (by omega),Nat.le_refl _,n0,hz37,hzv,⟨(ok0.mono (M := N + 100) (by omega)).vars,by show (vr0 ++ _).length ≤ _;have : vr0.length ≤ N := ok0.vers;simp;omega,fun v hv => (List.mem_append.1 hv).elim ((ok0.mono (M := N + 100) (by omega)).all v) (fun hv => by rw [List.eq_of_mem_replicate hv];exact .nil)⟩⟩
  skip
  exact .sk<|.bN<|.tN<|.me (H,f,_,⟨nm0,vs0,vr0⟩,_,_,_,_) trivial ⟨rfl,rfl,rfl,rfl,rfl,trivial⟩ (fun _ s => s.pick [0,1,2,5,4,3] [_,_,_,_,_,_] Z Z) ⟨.refl,h,hok.mono (by omega),Nat.le_refl _,n0,hz37,hz41,ok0.mono (by omega)⟩
 obtain ⟨H1,f1,cs1,c1,rv,xv,rs,xs⟩ := z
 dsimp only at hC ⊢
 obtain ⟨u1,hf1,okf,hle,nc,hzv,hzs,okc⟩ := hC
 obtain ⟨p11,c11,p12,c12,p13,c13,rfl,nf1,kf1,kf2,kf3⟩ := ft_open hf1
 have hi1 : i < f1.comps.length := by omega
 refine At.ra (.head _) fun p177 c177 e177 => ?_
 subst e177
 refine At.ra (.tail _ (.head _)) fun p178 c178 e178 => ?_
 subst e178
 have hvl1 : c1.vers.length ≤ N + 100 := okc.vers
 have hcl1 := okf.comps
 refine .cu (X := Hp × Cp × List Value) [(2,_),(3,_),(4,_),(7,_),(8,_)] ⟨rfl,rfl,rfl,rfl,rfl,trivial⟩ (fun z => []) (fun z => z.1) (fun z => [.box b8 z.2.2 91,.box b2 [strV f1.nm,.slice p11 f1.flags.length c11,.slice p12 f1.links.length c12,.slice p13 f1.comps.length c13] 32,.box b3 [.int .u8 x.wh.toNat,.int .u8 x.i.toNat,.int .u8 x.nm.toNat,.int .i64 x.n.toInt,.slice pN x.nodes.length cN] 55,.box b4 [.string ⟨#[]⟩,.slice none 0 0,.slice none 0 0,.slice none 0 0] 32]) (fun z => HUp w H1 z.1 ∧ Rep z.1 (dCp .i64 z.2.1) z.2.2 ∧ okCp (2 * (N + 100) + 100) z.2.1) ?_ fun z hC => ?_
 ·
  refine .sr<|.yv (.fieldAddr Z Fx.field55_0) Z<|.yv (.load Z Fx.agg5 (.tail _<|.tail _<|.tail _<|.tail _<|.head _) Z) Z<|.yv (.rem Z Z (by decide) (c := ((x.wh.toNat % 26 : Nat) : Int)) (by rw [Int.tmod_eq_emod_of_nonneg (by omega)];omega)) Z<|.yv (.gtr Z Z) Z<|.m Z Z<|.b2 (fun h165 => ?_) (fun h165 => ?_)
  ·skip
   refine .gd Z Z<|.yv (.fieldAddr Z Fx.field91_2) Z<|.gd Z Z<|.yv (.load Z Fx.agg89 (.tail _<|.tail _<|.head _) Z) Z<|.gd Z Z<|.yv (.lenSl Fx.sl89 Z) Z<|.gd Z Z<|.yv (.gtr Z Z) Z<|.yv (.pickT Z Z) Z<|.m Z Z<|.b2 (fun h171 => ?_) (fun h171 => ?_)
   ·try simp only [dt] at h171
    have hv0 : 0 < c1.vers.length := by omega
    refine At.rs (.tail _ (.head _)) hv0 fun gS cS eS => ?_
    obtain ⟨rfl,rfl⟩ := sl_inj eS
    obtain ⟨cV,rV,lV,mV⟩ := hzs.at (i := 0) (map_at (f := dVs .i64) hv0)
    have okv := okc.all _ (List.getElem_mem hv0)
    generalize hl0 : c1.vers[0] = l0 at rV okv
    obtain ⟨pz,cz,rfl,rz⟩ := vs_open rV
    have hmz : xs[0]? = some (.slice pz l0.length cz) := mV 0 _ rfl
    refine .gd Z Z<|.yv (.fieldAddr Z Fx.field91_2) Z<|.gd Z Z<|.yv (.load Z Fx.agg89 (.tail _<|.tail _<|.head _) Z) Z<|.gd Z Z<|.yv (.indexSl Fx.sl89 Z Z (i := 0) Z hv0 (q := 0) Z) Z<|.gd Z Z<|.yv (.loadSrc Z Fx.agg97 (.row (.tail _<|.head _) (one_at hmz))) Z<|.gd Z Z<|.yv (.lenSl Fx.sl97 Z) Z<|.gd Z Z<|.yv (.gtr Z Z) Z<|.yv (.pickT Z Z) Z<|.nt<|.cd Z (fun h178 => ?_) (fun h178 => ?_)
    ·try simp only [dt] at h178
     have hl0p : 0 < l0.length := by omega
     refine At.pm [1,0,2,3,4,5] [_,_,_,_,_,_] rfl rfl ?_
     refine At.rc hv0 fun moreS hcS1 hcS2 => ?_
     refine .fl (trip := [(_,_,_),(_,_,_),(_,_,_),(_,_,_),(_,_,_),(_,_,_),(_,_,_),(_,_,_)]) 8 [(0,0),(1,0),(2,0),(3,0),(4,0),(5,0),(6,0),(7,1)] (by kernel_rfl) (by kernel_rfl) Z<|.yv (.fieldAddr Z Fx.field91_2) Z<|.yv (.load Z Fx.agg89 (.tail _<|.tail _<|.head _) Z) Z<|.yv (.fieldAddr Z Fx.field91_2) Z<|.yv (.load Z Fx.agg89 (.tail _<|.tail _<|.head _) Z) Z<|.yv (.indexSl Fx.sl89 Z Z (i := 0) Z hv0 (q := 0) Z) Z<|.yv (.load (v := .slice pz l0.length cz) Z Fx.agg97 (.head _) (get_app hmz)) Z<|.yv (.loadW Z Fx.agg55 (.tail _<|.tail _<|.tail _<|.tail _<|.head _) Z) Z<|.ct (X := Value) Fx.call54 Z (fun W s => handlersOf_any H1 l0 x _ _ (N + 100) (by omega) W rz (hX.up u1.up) hl0p okv s.agr) Z fun v186 H186 hc186 u186 => ?_
     obtain ⟨l2,hl2,okl2⟩ := hc186
     obtain ⟨pl2,cl2,el2,_⟩ := hl2.sl
     simp only [List.cons.injEq,and_true,List.length_map] at el2
     subst el2
     refine .fn (tl := [_,_]) Z<|.yv (.indexSl Fx.sl89 Z Z (i := 0) Z hv0 (q := 0) Z) Z<|.st (l' := ((xs ++ moreS).set 0 (.slice pl2 l2.length cl2))) .head Z Z Fx.size97 Z (by rw [List.length_append,hzs.len,List.length_map];omega) Z<|?_
     refine Sx.freezeBox fun HS uS mS0 => ?_
     have mS1 : MemAt HS gS 0 (setsL xs (0 * 1) [.slice pl2 l2.length cl2] ++ moreS) := by rw [← setsL_app [.slice pl2 l2.length cl2] xs moreS (0 * 1) (by rw [hzs.len,List.length_map];simp;omega)];exact mS0
     have hSx0 : Rep HS (.seq 1 ((c1.vers.set 0 l2).map (dVs .i64))) [.slice (some ⟨gS,0,none⟩) c1.vers.length c178] := Rep.mk mS1.pre (by rw [List.map_set];exact RepZ.put (i := 0) (hl2.up uS.up) rfl (hzs.up (u186.trans uS).up) (by simpa using hv0)) (by simp) hcS1 hcS2
     refine Sx.freezeSeq (ds := c1.vars.map (dVr .i64)) (by simp) (hzv.up (u186.trans uS).up) fun HV pV cV uV eV hV => ?_
     obtain ⟨rfl,rfl⟩ := sl_inj eV
     have uu := u186.trans (uS.trans uV)
     have hSx := hSx0.up uV.up
     exact .nt<|.me (HV,⟨c1.nm,c1.vars,c1.vers.set 0 l2⟩,_) trivial ⟨rfl,rfl,rfl,rfl,rfl,trivial⟩ (fun _ s => s) ⟨uu,cp_shut (x := ⟨c1.nm,c1.vars,c1.vers.set 0 l2⟩) nc hV hSx,okC_set okc okl2⟩
    skip
    refine .sk<|.tN<|?_
    refine At.pm [1,0,2,3,4,5] [_,_,_,_,_,_] rfl rfl ?_
    refine Sx.freezeSeq (ds := c1.vers.map (dVs .i64)) (by simp) hzs fun HS pS cS uS eS hS0 => ?_
    obtain ⟨rfl,rfl⟩ := sl_inj eS
    refine Sx.freezeSeq (ds := c1.vars.map (dVr .i64)) (by simp) (hzv.up uS.up) fun HV pV cV uV eV hV => ?_
    obtain ⟨rfl,rfl⟩ := sl_inj eV
    have uu := uS.trans uV
    have hS := hS0.up uV.up
    exact .me (HV,c1,_) trivial ⟨rfl,rfl,rfl,rfl,rfl,trivial⟩ (fun _ s => s) ⟨uu,cp_shut nc hV hS,okc.mono (by omega)⟩
   skip
   refine .gF Z Z Z Z<|.gF Z Z Z Z<|.gF Z Z Z Z<|.gF Z Z Z Z<|.gF Z Z Z Z<|.gF Z Z Z Z<|.yv (.pickF Z Z) Z<|.nt<|.cF Z<|.sk<|.tN<|?_
   refine At.pm [1,0,2,3,4,5] [_,_,_,_,_,_] rfl rfl ?_
   refine Sx.freezeSeq (ds := c1.vers.map (dVs .i64)) (by simp) hzs fun HS pS cS uS eS hS0 => ?_
   obtain ⟨rfl,rfl⟩ := sl_inj eS
   refine Sx.freezeSeq (ds := c1.vars.map (dVr .i64)) (by simp) (hzv.up uS.up) fun HV pV cV uV eV hV => ?_
   obtain ⟨rfl,rfl⟩ := sl_inj eV
   have uu := uS.trans uV
   have hS := hS0.up uV.up
   exact .me (HV,c1,_) trivial ⟨rfl,rfl,rfl,rfl,rfl,trivial⟩ (fun _ s => s) ⟨uu,cp_shut nc hV hS,okc.mono (by omega)⟩
  skip
  refine .gF Z Z Z Z<|.gF Z Z Z Z<|.gF Z Z Z Z<|.gF Z Z Z Z<|.yv (.pickF Z Z) Z<|.m Z Z<|.gF Z Z Z Z<|.gF Z Z Z Z<|.gF Z Z Z Z<|.gF Z Z Z Z<|.gF Z Z Z Z<|.gF Z Z Z Z<|.yv (.pickF Z Z) Z<|.nt<|.cF Z<|.sk<|.tN<|?_
  refine At.pm [1,0,2,3,4,5] [_,_,_,_,_,_] rfl rfl ?_
  refine Sx.freezeSeq (ds := c1.vers.map (dVs .i64)) (by simp) hzs fun HS pS cS uS eS hS0 => ?_
  obtain ⟨rfl,rfl⟩ := sl_inj eS
  refine Sx.freezeSeq (ds := c1.vars.map (dVr .i64)) (by simp) (hzv.up uS.up) fun HV pV cV uV eV hV => ?_
  obtain ⟨rfl,rfl⟩ := sl_inj eV
  have uu := uS.trans uV
  have hS := hS0.up uV.up
  exact .me (HV,c1,_) trivial ⟨rfl,rfl,rfl,rfl,rfl,trivial⟩ (fun _ s => s) ⟨uu,cp_shut nc hV hS,okc.mono (by omega)⟩
 obtain ⟨H2,c2,cs2⟩ := z
 dsimp only at hC ⊢
 obtain ⟨u2,hc2,okc2⟩ := hC
 refine .sq<|.sr<|.yv (.fieldAddr Z Fx.field55_0) Z<|.yv (.load Z Fx.agg5 (.tail _<|.tail _<|.head _) Z) Z<|.yv (.rem Z Z (by decide) (c := ((x.wh.toNat % 26 : Nat) : Int)) (by rw [Int.tmod_eq_emod_of_nonneg (by omega)];omega)) Z<|.yv (.gtr Z Z) Z<|.nt<|.cd Z (fun h191 => ?_) (fun h191 => ?_)
 ·skip
  refine .sr<|.blR Z Fx.bsl30_0 Z (z := 3) Z (by decide) fun g192 => .yv (.fieldAddr Z Fx.field32_3) Z<|.yv (.load Z Fx.agg30 (.tail _<|.tail _<|.head _) Z) Z<|.apD0 Fx.row30 Z (fun _ _ => .head) Z (kf3.up u2.up) (by simp [maxLen];omega) (by omega) Z fun xs195 r195 hz195 => ?_
  refine At.ra (.head _) fun p195 c195 e195 => ?_
  refine .yv (.fieldAddr Z Fx.field32_3) Z<|.st (.tail<|.tail<|.head) Z Z Fx.size30 (by rw [e195];rfl) (nb Z) Z<|?_
  refine At.rb (by omega) fun gB capB moreB eB hcB1 hcB2 => ?_
  subst eB
  refine .nt<|.rg<|.yv (.fieldAddr Z Fx.field32_3) Z<|.yv (.load Z Fx.agg30 (.tail _<|.tail _<|.head _) Z) Z<|.m Z Z<|.yv (.loadW Z Fx.agg91 (.tail _<|.head _) (cp_len hc2)) Z<|.yv (.indexSl Fx.sl30 Z Z (i := i) Z (by omega) (q := i * 3) (by omega)) Z<|.sE (vs := cs2) .head Z Z (by rw [cp_len hc2];exact Fx.size91) hc2.one (by rw [cp_len hc2,List.length_append,hz195.len,List.length_map];omega)<|?_
  refine Sx.freezeBox fun HB uB mB0 => ?_
  rw [setsL_app _ _ _ _ (by rw [cp_len hc2,hz195.len,List.length_map];omega)] at mB0
  have hB : Rep HB (.seq 3 ((f1.comps.set i c2).map (dCp .i64))) [.slice (some ⟨gB,0,none⟩) f1.comps.length capB] := Rep.mk mB0.pre (by rw [List.map_set];exact RepZ.put (hc2.up uB.up) (cp_len hc2) (hz195.up uB.up) (by simpa using hi1)) (by simp) hcB1 hcB2
  refine .ns<|.yv (.loadW Z Fx.agg32 (.tail _<|.head _) Z) Z<|.sW (.tail<|.tail<|.tail<|.head) Z Z Fx.size32 (by show ∀ u ∈ [_,_,_,_],Value.oneCell' u = true;simp [Value.oneCell',strV]) Z<|.nt<|.rt<|?_
  exact Sx.ret1 (.inl rfl) rfl (.cell rfl Fx.agg32 (.tail _<|.tail _<|.tail _<|.head _) rfl) fun W t => ⟨_,HB,⟨⟨f1.nm,f1.flags,f1.links,f1.comps.set i c2⟩,ft_shut (x := ⟨f1.nm,f1.flags,f1.links,f1.comps.set i c2⟩) nf1 (kf1.up (u2.trans uB).up) (kf2.up (u2.trans uB).up) hB,okF_set okf okc2⟩,rfl,(u1.trans (u2.trans uB)).grow t⟩
 skip
 refine .sk<|.tN<|.sr<|.yv (.loadW Z Fx.agg32 (.tail _<|.head _) Z) Z<|.sW (.tail<|.tail<|.tail<|.head) Z Z Fx.size32 (by show ∀ u ∈ [_,_,_,_],Value.oneCell' u = true;simp [Value.oneCell',strV]) Z<|.nt<|.rt<|?_
 exact Sx.ret1 (.inl rfl) rfl (.cell rfl Fx.agg32 (.tail _<|.tail _<|.tail _<|.head _) rfl) fun W t => ⟨_,H2,⟨f1,hf1.up u2.up,okf.mono (by omega)⟩,rfl,(u1.trans u2).grow t⟩
end Go.Proofs.YtmbiojpcidccjaaGreatDoor
namespace Go.Proofs.YtmbiojpcidccjaaGreatDoor
def okD (D : Nat) (e : Ex) : Prop := e.depth ≤ D ∧ Ex.all narrow e = true
theorem okD.mono {D D' : Nat} {e : Ex} (h : okD D e) (k : D ≤ D') : okD D' e := ⟨Nat.le_trans h.1 k,h.2⟩
theorem okD0 {D : Nat} {op : UInt8} {nm : Str} {n : Int64} : okD (D + 1) (.mk op nm n []) := ⟨by rw [depth_mk];simp [Ex.deeps],by rw [all_mk,narrow_mk];rfl⟩
theorem okD1 {D : Nat} {op : UInt8} {nm : Str} {n : Int64} {a : Ex} (h : okD D a) : okD (D + 1) (.mk op nm n [a]) := by
 refine ⟨?_,?_⟩
 ·rw [depth_mk];simp only [Ex.deeps];have := h.1;omega
 ·rw [all_mk,narrow_mk];simp [Ex.alls,h.2]
theorem okD2 {D : Nat} {op : UInt8} {nm : Str} {n : Int64} {a b : Ex} (h : okD D a) (k : okD D b) : okD (D + 1) (.mk op nm n [a,b]) := by
 refine ⟨?_,?_⟩
 ·rw [depth_mk];simp only [Ex.deeps];have := h.1;have := k.1;omega
 ·rw [all_mk,narrow_mk];simp [Ex.alls,h.2,k.2]
theorem numT_ok {M : Mk} {d D k : Nat} {rec : Bs → Ex × Bs} (h : ∀ b,okD D (rec b).1) (b : Bs) : okD (D + 1) (numT M d rec k b).1 := by
 unfold numT
 split
 ·exact okD0
 split
 ·exact okD0
 split
 ·exact okD0
 split
 ·exact okD0
 split
 ·exact okD1 (h _)
 split
 ·exact okD0
 split
 ·exact okD1 (h _)
 ·exact okD2 (h _) (h _)
theorem numE_ok (M : Mk) : ∀ f b,okD (f + 2) (numE M f b).1
 | 0,b => numT_ok (fun _ => okD0) _
 | f + 1,b => numT_ok (numE_ok M f) _
theorem numL_ok (M : Mk) : ∀ n b,(numL M n b).1.length = n ∧ ∀ e ∈ (numL M n b).1,okD 4 e
 | 0,b => ⟨rfl,fun _ h => by cases h⟩
 | n + 1,b => by
  obtain ⟨h1,h2⟩ := numL_ok M n (numE M 2 b).2
  refine ⟨by simp [numL,h1],fun e he => ?_⟩
  rcases List.mem_cons.1 he with rfl | he
  ·exact numE_ok M 2 b
  ·exact h2 e he
theorem truT_ok {M : Mk} {d D k : Nat} {rec : Bs → Ex × Bs} (hD : 4 ≤ D) (h : ∀ b,okD D (rec b).1) (b : Bs) : okD (D + 1) (truT M d rec k b).1 := by
 have hn : ∀ b,okD D (numE M 2 b).1 := fun b => (numE_ok M 2 b).mono hD
 unfold truT
 split
 ·exact okD0
 split
 ·exact okD0
 split
 ·exact okD0
 split
 ·exact okD1 (hn _)
 split
 ·exact okD1 (h _)
 split
 ·exact okD2 (h _) (h _)
 ·exact okD2 (hn _) (hn _)
theorem truE_ok (M : Mk) : ∀ f b,okD (f + 6) (truE M f b).1
 | 0,b => truT_ok (D := 5) (by omega) (fun _ => okD0 (D := 4)) _
 | f + 1,b => truT_ok (by omega) (truE_ok M f) _
mutual
theorem sdepth_le : ∀ s : Sm,Sm.depth s ≤ Sm.count s
 | .mk kd nm hd ex th el => by
  rw [sdepth_mk,scount_mk]
  have := sdeeps_le th
  have := sdeeps_le el
  omega
theorem sdeeps_le : ∀ l : List Sm,Sm.deeps l ≤ Sm.counts l
 | [] => by simp [Sm.deeps]
 | s :: r => by
  simp only [Sm.deeps,Sm.counts]
  have := sdepth_le s
  have := sdeeps_le r
  omega
end
structure Made (lf : Nat) (l : List Sm) (lf' : Nat) : Prop where
 cnt : Sm.counts l + lf' ≤ lf
 all : Sm.alls (okS2 10) l = true
theorem made_one {lf lf' : Nat} {kd : UInt8} {nm hd : Str} {ex : List Ex} {th el : List Sm} (h1 : Sm.counts th + Sm.counts el + lf' ≤ lf) (h2 : ex.length ≤ 10) (h3 : ∀ e ∈ ex,okD 40 e) (h4 : Sm.alls (okS2 10) th = true) (h5 : Sm.alls (okS2 10) el = true) :
 Made (lf + 1) [.mk kd nm hd ex th el] lf' := by
 refine ⟨by simp only [Sm.counts,scount_mk];omega,?_⟩
 simp only [Sm.alls,sall_mk,okS2,Bool.and_eq_true,decide_eq_true_eq,List.all_eq_true]
 refine ⟨⟨⟨⟨h2,fun e he => ?_⟩,h4⟩,h5⟩,trivial⟩
 simp only [okE,Bool.and_eq_true,decide_eq_true_eq]
 have := h3 e he
 exact ⟨by have := this.1;omega,this.2⟩
theorem leaf_one {e : Ex} (h : okD 40 e) : ∀ x ∈ [e],okD 40 x := fun x hx => by rw [List.mem_singleton.1 hx];exact h
theorem leaf_two {e e2 : Ex} (h : okD 40 e) (k : okD 40 e2) : ∀ x ∈ [e,e2],okD 40 x := fun x hx => by
 rcases List.mem_cons.1 hx with rfl | hx
 ·exact h
 ·rw [List.mem_singleton.1 hx];exact k
theorem leaf_num {M : Mk} {n : Nat} {b : Bs} : ∀ x ∈ (numL M n b).1,okD 40 x := fun x hx => ((numL_ok M n b).2 x hx).mono (by omega)
theorem leaf_more {e : Ex} (h : okD 40 e) {M : Mk} {n : Nat} {b : Bs} : ∀ x ∈ e :: (numL M n b).1,okD 40 x := fun x hx => by
 rcases List.mem_cons.1 hx with rfl | hx
 ·exact h
 ·exact leaf_num x hx
theorem stmT_made {M : Mk} (hM : ∀ c h,arN M c h ≤ 2) (k d : Nat) {bd : Bs × Nat → List Sm × (Bs × Nat)} (hb : ∀ x,Made x.2 (bd x).1 (bd x).2.2) (b : Bs) (lf : Nat) : Made (lf + 1) [(stmT M k d bd b lf).1] (stmT M k d bd b lf).2.2 := by
 have hn : ∀ f b,f ≤ 30 → okD 40 (numE M f b).1 := fun f b hf => (numE_ok M f b).mono (by omega)
 have ht : ∀ b,okD 40 (truE M 2 b).1 := fun b => (truE_ok M 2 b).mono (by omega)
 have z : Sm.counts [] = 0 := rfl
 unfold stmT
 split
 ·exact made_one (lf' := lf) (by simp only [z];omega) (by simp) (leaf_one (ht _)) rfl rfl
 split
 ·exact made_one (lf' := lf) (by simp only [z];omega) (by simp) (leaf_two (hn _ _ (by omega)) (hn _ _ (by omega))) rfl rfl
 split
 ·exact made_one (lf' := lf) (by simp only [z];omega) (by simp) (leaf_one (hn _ _ (by omega))) rfl rfl
 split
 ·have h1 := hb ((truE M 2 b).2,lf)
  have h2 := hb (bd ((truE M 2 b).2,lf)).2
  exact made_one (by have := h1.cnt;have := h2.cnt;simp only at *;omega) (by simp) (leaf_one (ht _)) h1.all h2.all
 split
 ·have h1 := hb ((truE M 2 b).2,lf)
  exact made_one (by have := h1.cnt;simp only at *;omega) (by simp) (leaf_one (ht _)) h1.all rfl
 split
 ·exact made_one (lf' := lf) (by simp only [z];omega) (by rw [(numL_ok _ _ _).1];have := hM (nextB b M.ars.length).1 (nextB (nextB b M.ars.length).2 (arL M (nextB b M.ars.length).1)).1;omega) leaf_num rfl rfl
 split
 ·exact made_one (lf' := lf) (by simp only [z];omega) (by rw [List.length_cons,(numL_ok _ _ _).1];have := hM M.own (nextB b (arL M M.own)).1;omega) (leaf_more (hn _ _ (by omega))) rfl rfl
 split
 ·split
  ·have h1 := hb ((numL M 2 (nextB b 2).2).2,lf)
   exact made_one (by have := h1.cnt;simp only at *;omega) (by rw [(numL_ok _ _ _).1];omega) leaf_num rfl h1.all
  ·have h1 := hb ((numE M 3 (nextB (nextB b 2).2 M.ints).2).2,lf)
   exact made_one (lf' := (bd ((numE M 3 (nextB (nextB b 2).2 M.ints).2).2,lf)).2.2) (by have := h1.cnt;simp only at *;omega) (by simp) (leaf_one (hn _ _ (by omega))) rfl h1.all
 split
 ·exact made_one (lf' := lf) (by simp only [z];omega) (by simp) (fun _ h => by cases h) rfl rfl
 ·exact made_one (lf' := lf) (by simp only [z];omega) (by simp) (leaf_one (hn _ _ (by omega))) rfl rfl
theorem bodL_made {st : Nat → Bs → Nat → Sm × (Bs × Nat)} (hs : ∀ k b lf,Made (lf + 1) [(st k b lf).1] (st k b lf).2.2) : ∀ f x,Made x.2 (bodL st f x).1 (bodL st f x).2.2
 | 0,x => ⟨by simp [bodL,Sm.counts],rfl⟩
 | f + 1,(b,lf) => by
  unfold bodL
  split
  ·exact ⟨by simp [Sm.counts],rfl⟩
  ·rename_i hne
   split
   ·exact ⟨by simp [Sm.counts],rfl⟩
   ·have h1 := hs (nextB b 14).1 (nextB b 14).2 (lf - 1)
    have h2 := bodL_made hs f (st (nextB b 14).1 (nextB b 14).2 (lf - 1)).2
    have hl : lf ≠ 0 := fun e => hne (.inr e)
    refine ⟨?_,?_⟩
    ·have a1 := h1.cnt
     have a2 := h2.cnt
     simp only [Sm.counts] at a1 ⊢
     omega
    ·have a1 := h1.all
     simp only [Sm.alls,Bool.and_eq_true] at a1 ⊢
     exact ⟨a1.1,h2.all⟩
theorem bodE_made {M : Mk} (hM : ∀ c h,arN M c h ≤ 2) : ∀ f x,Made x.2 (bodE M f x).1 (bodE M f x).2.2
 | 0,x => bodL_made (fun k b lf => stmT_made hM k 3 (fun x => ⟨by simp [Sm.counts],rfl⟩) b lf) 13 x
 | f + 1,x => bodL_made (fun k b lf => stmT_made hM k (2 - f) (bodE_made hM f) b lf) 13 x
theorem hdS_ok {M : Mk} (hM : ∀ c h,arN M c h ≤ 2) (k : Nat) (c : Cd) : okHd 100 (hdS M k c) := by
 have h := bodE_made (M := M.at k) hM 3 (c.bytes.take 40,12)
 have hc := h.cnt
 simp only at hc
 refine ⟨by simp only [hdS,namesB_len];have := hM M.own k;omega,?_,?_,?_⟩
 ·simp only [hdS];omega
 ·simp only [hdS];have := sdeeps_le (bodE (M.at k) 3 (c.bytes.take 40,12)).1;omega
 ·exact salls_imp (okS2_mono (by omega)) _ h.all
theorem hdsP_ok {M : Mk} (hM : ∀ c h,arN M c h ≤ 2) : ∀ (l : List Cd) (k : Nat),∀ h ∈ hdsP M k l,okHd 100 h
 | [],k,h,hh => by cases hh
 | c :: r,k,h,hh => by
  rcases List.mem_cons.1 hh with rfl | hh
  ·exact hdS_ok hM k c
  ·exact hdsP_ok hM r (k + 1) h hh
theorem arN_le {p : Pln} {nf i : Nat} {x : Prt} (c h : Nat) : arN (mkP (arsP p) nf i x) c h ≤ 2 := by
 show ((arsP p).getD c []).getD h 0 ≤ 2
 by_cases hc : c < (arsP p).length
 ·rw [getD_at hc]
  have hm := List.getElem_mem hc
  generalize (arsP p)[c] = l at hm
  obtain ⟨y,_,rfl⟩ := List.mem_map.1 hm
  by_cases hh : h < (arP y).length
  ·rw [getD_at hh];exact arP_mem (List.getElem_mem hh)
  ·have e : (arP y)[h]? = none := List.getElem?_eq_none_iff.2 (by omega)
   rw [List.getD_eq_getElem?_getD,e];simp
 ·have e : (arsP p)[c]? = none := List.getElem?_eq_none_iff.2 (by omega)
  rw [List.getD_eq_getElem?_getD,List.getD_eq_getElem?_getD,e];simp
theorem fstP_len (x : Prt) : (fstP x).length ≤ 3 := by
 unfold fstP
 split
 ·simp
 ·rw [List.length_take];omega
theorem buildF_ok (p : Pln) : okFt 100 (buildF p) := by
 have hp := prtsP_len p
 refine ⟨?_,?_,?_,?_,?_⟩
 ·simp only [buildF,flgsP_len];omega
 ·have := lnksP_len (prtsP p).length p.links (min p.links.length ((prtsP p).length * (prtsP p).length))
  have h9 : (prtsP p).length * (prtsP p).length ≤ 9 := Nat.mul_le_mul hp.2 hp.2
  simp only [buildF]
  have : min p.links.length ((prtsP p).length * (prtsP p).length) ≤ (prtsP p).length * (prtsP p).length := Nat.min_le_right _ _
  omega
 ·simp only [buildF,cmpsP_len];omega
 ·simp only [buildF,cmpsP_len];omega
 ·intro c hc
  simp only [buildF,cmpsP] at hc
  obtain ⟨i,hi,rfl⟩ := List.mem_mapIdx.1 hc
  generalize (prtsP p)[i] = x
  refine ⟨?_,?_,?_⟩
  ·simp only [cmpP,varsP,List.length_append,vrsI_len,vrsT_len,List.length_singleton,intsP,tabsP];omega
  ·simp only [cmpP,vssP];split <;> simp
  ·intro v hv
   simp only [cmpP,vssP] at hv
   rcases List.mem_cons.1 hv with rfl | hv
   ·exact ⟨by rw [hdsP_len];have := fstP_len x;omega,hdsP_ok arN_le _ _⟩
   ·split at hv
    ·rw [List.mem_singleton.1 hv]
     exact ⟨by rw [hdsP_len,List.length_take];omega,hdsP_ok arN_le _ _⟩
    ·cases hv
end Go.Proofs.YtmbiojpcidccjaaGreatDoor
namespace Go.Proofs.YtmbiojpcidccjaaGreatDoor
open Go.RowKit Go.Par Go.Sx
def bndF : Nat → Nat
 | 0 => 100
 | 1 => 500
 | 2 => 1300
 | _ => 2900
theorem bndF_le {k : Nat} (_ : k ≤ 3) : bndF k ≤ 50000 := by
 match k with
 | 0 => decide
 | 1 => decide
 | 2 => decide
 | k + 3 => show 2900 ≤ 50000;decide
theorem bndF_step {k : Nat} (h : k < 3) : 2 * (bndF k + 100) + 100 = bndF (k + 1) := by match k,h with | 0,_ | 1,_ | 2,_ => rfl
theorem ft_len {H : Hp} {k : IntKind} {x : Ft} {cs : List Value} (h : Rep H (dFt k x) cs) : cs.length = 4 := by
 obtain ⟨_,_,_,_,_,_,rfl,_⟩ := ft_open h;rfl
set_option maxRecDepth 100000 in
theorem spoilt_any (H : Hp) (p : Pln) (l : List Sp) (cs : List Value) (v : Value) (w : World) (h : Rep H (dPln p) cs) (hl0 : Rep H (.seq 5 (l.map dSp)) [v]) (hA : Agr H w) :
 Calls Tryz.prog 8 #[.agg cs.toArray,v] w fun r w' => ∃ (y : List Value) (H' : Hp),(∃ f,Rep H' (dFt .i64 f) y ∧ okFt 50000 f) ∧ r = .returned (.agg y.toArray) ∧ Grow H w H' w' := by
 obtain ⟨pl,cl,el,_⟩ := hl0.sl
 simp only [List.cons.injEq,and_true,List.length_map] at el
 subst el
 have hl := hl0
 have hcap := hl.cap
 obtain ⟨p1,c1,p2,c2,rfl,h1,h2⟩ := pln_open h
 refine Sx.enter (H := H) Tryz.func8 rfl Tryz.ntmps8 rfl hA ?_
 refine .sr<|.bx Z Z Z fun b2 => .al Fx.zero32 Z fun b4 => .ns<|.yv (.loadW Z Fx.agg25 (.tail _<|.head _) Z) Z<|.ct (X := List Value) Fx.call14 Z (fun W s => build_plan H p _ W h s.agr) Z fun y1 H1 hf1 u1 => .al Fx.zero32 Z fun b5 => .sV .head Z Z Fx.size32 (ft_len hf1) hf1.one Z<|.nt<|.sq<|.sr<|.m Z Z<|.m Z Z<|.yv (.lenSl Fx.sl26 Z) Z<|.yv (.min2 Z Z (c := ((min l.length 3 : Nat) : Int)) (by omega)) Z<|.yv (.cutHi2 Fx.sl26 Z Z (h := min l.length 3) Z (by have := hl.len.2.1;omega)) Z<|.yv (.lenSl Fx.sl26 Z) Z<|.m Z Z<|?_
 have hl3 := rep_take2 (hl.up u1.up) (hi := min l.length 3) (by omega)
 rw [← List.map_take,take_min] at hl3
 have hlt : (l.take 3).length = min l.length 3 := by rw [List.length_take,Nat.min_comm]
 have hcap3 := hl3.cap
 generalize (if cl = 0 then pl else pl.map fun q => q.add 0) = pq at hl3 ⊢
 refine .nt<|.bk<|.lp (X := Nat × Hp × List Value) [(4,_),(5,_),(14,_),(15,_)] ⟨rfl,rfl,rfl,rfl,trivial⟩ [_,_] (fun z => [(16,.int .i64 (z.1 : Nat))]) (fun z => z.2.1) (fun z => [.box b5 z.2.2 32]) (fun z => z.1 ≤ min l.length 3 ∧ HUp w H1 z.2.1 ∧ ∃ f : Ft,Rep z.2.1 (dFt .i64 f) z.2.2 ∧ okFt (bndF z.1) f) (fun z => 3 - z.1) (0,H1,_) (fun _ s => s) ⟨rfl,trivial⟩ ⟨by simp,.refl,buildF p,hf1,buildF_ok p⟩ fun z hC => ?_
 obtain ⟨k,H2,cs5⟩ := z
 dsimp only at hC ⊢
 obtain ⟨hk0,u2,f,hf,hok⟩ := hC
 refine .sr<|.yv (.lss Z Z) Z<|.nt<|.sq<|.cd Z (fun h17 => ?_) (fun h17 => ?_)
 ·try simp only [dt] at h17
  have hk : k < (l.take 3).length := by omega
  have hkb : bndF k ≤ 50000 := bndF_le (by omega)
  obtain ⟨bE,oE,cE,hpE,rE,lE,mE⟩ := (hl3.up u2.up).elem (map_at (f := dSp) hk)
  cases hpE
  refine .sk<|.tN<|.sq<|.bk<|.sr<|.yv (.indexSl Fx.sl26 Z Z (i := k) Z (by omega) (q := oE + k * 5) Z) Z<|.yv (.loadMW Z Fx.agg55 mE lE) Z<|.al Fx.zero55 Z fun b7 => .sV .head Z Z Fx.size55 lE rE.one Z<|.nt<|.rg<|.yv (.loadW Z Fx.agg32 (.tail _<|.head _) (ft_len hf)) Z<|.yv (.loadW Z Fx.agg55 (.head _) lE) Z<|.ct (X := List Value) Fx.call23 Z (fun W s => apply_any H2 f _ cs5 cE (bndF k) hkb W hf rE hok s.agr) Z fun y22 H3 hc22 u22 => ?_
  obtain ⟨f2,hf2,okf2⟩ := hc22
  exact .sV (.tail<|.head) Z Z Fx.size32 (ft_len hf2) hf2.one (ft_len hf)<|.nl<|.bN<|.tN<|.rg<|.yv (.add Z Z (w6 (by omega))) Z<|.m Z Z<|.nt<|.ag (x := (k,H2,cs5)) (k + 1,H3,y22) ⟨rfl,trivial⟩ ⟨rfl,rfl,rfl,rfl,trivial⟩ (fun _ s => (s.pick [1,2,3] _ Z Z)) ⟨by dsimp only;omega,u2.trans u22,f2,hf2,(by rw [← bndF_step (show k < 3 by omega)];exact okf2)⟩ (by dsimp only;omega)
 skip
 refine .ex<|.tE<|.tE<|.bE<|.tN<|.sr<|.yv (.loadW Z Fx.agg32 (.head _) (ft_len hf)) Z<|.sV (.tail<|.head) Z Z Fx.size32 (ft_len hf) hf.one Z<|.nt<|.rt<|?_
 exact Sx.ret1 (.inl rfl) rfl (.cell rfl Fx.agg32 (.tail _<|.head _) (ft_len hf)) fun W t => ⟨cs5,H2,⟨f,hf,hok.mono (bndF_le (by omega))⟩,rfl,(u1.trans u2).grow t⟩
set_option maxHeartbeats 2000000 in
set_option maxRecDepth 100000 in
theorem bodyL_any (N : Nat) (hN : N ≤ 1000000) : ∀ (l : List Sm),okL N l → ∀ (H : Hp) (v : Value) (w : World),Rep H (.seq 6 (l.map (dSm .i64))) [v] → Agr H w →
 Calls Tryz.prog 27 #[v] w fun r w' => ∃ (y : Value) (H' : Hp),Rep H' (.seq 6 (l.map (dSm .u8))) [y] ∧ r = .returned y ∧ Grow H w H' w' := by
 refine Sm.lists fun l ih => ?_
 intro hok H v w hs hA
 obtain ⟨p,c,e,_⟩ := hs.sl
 simp only [List.cons.injEq,and_true,List.length_map] at e
 subst e
 have hcap := hs.cap
 have hll := hok.len
 refine Sx.enter (H := H) Tryz.func27 rfl Tryz.ntmps27 rfl hA ?_
 refine .sr<|.a Z Z<|.ns<|.a Z Z<|?_
 refine Sx.row0 71 6 ?_
 refine .nt<|.sq<|.sr<|.m Z Z<|.yv (.lenSl Fx.sl98 Z) Z<|.m Z Z<|.nt<|.bk<|.lp (X := Nat × Hp × Value × List Value) [(9,_),(10,_)] ⟨rfl,rfl,trivial⟩ [] (fun z => [(3,z.2.2.1),(11,.int .i64 (z.1 : Nat))]) (fun z => z.2.1) (fun z => [.row 71 6 z.2.2.1 z.1 z.2.2.2]) (fun z => z.1 ≤ l.length ∧ HUp w H z.2.1 ∧ RepZ z.2.1 6 ((l.take z.1).map (dSm .u8)) z.2.2.2) (fun z => l.length - z.1) (0,H,.slice none 0 0,[]) (fun _ s => s) ⟨rfl,rfl,trivial⟩ ⟨by simp,.refl,RepZ.nil⟩ fun z hC => ?_
 obtain ⟨k,H1,r,xs⟩ := z
 dsimp only at hC ⊢
 obtain ⟨hk0,u1,hz⟩ := hC
 refine .sr<|.yv (.lss Z Z) Z<|.nt<|.sq<|.cd Z (fun h12 => ?_) (fun h12 => ?_)
 ·try simp only [dt] at h12
  have hk : k < l.length := by omega
  obtain ⟨bE,oE,cE,hpE,rE,lE,mE⟩ := (hs.up u1.up).elem (map_at (f := dSm .i64) hk)
  cases hpE
  have hi := ih _ (List.getElem_mem hk)
  have hka := hok.at hk
  generalize hx : l[k] = x at rE hi hka
  obtain ⟨kd,nm,hd,ex,th,el⟩ := x
  obtain ⟨p1,c1,p2,c2,p3,c3,rfl,hs1,hs2,hs3,hn1,hn2⟩ := sm_open rE
  simp only [Sm.th,Sm.el] at hi
  obtain ⟨k1,k2,k3,k4,k5,k6,k7⟩ := okL_one.1 hka
  have hit := hi.1 ⟨by omega,by omega,k6⟩
  have hie := hi.2 ⟨by omega,by omega,k7⟩
  have hcap1 := hs1.cap
  refine .sk<|.tN<|.sq<|.bk<|.sr<|.yv (.indexSl Fx.sl98 Z Z Z (by omega) (q := oE + k * 6) Z) Z<|.yv (.loadMW Z Fx.agg150 mE Z) Z<|.al Fx.zero150 Z fun b5 => .sW .head Z Z Fx.size150 (by simp [Value.oneCell',strV]) Z<|.nt<|.sq<|.ft (p := .light _ _ (.light _ _ (.light _ _ (.light _ _ (.light _ _ (.light _ _ (.light _ _ (.light _ _ (.light _ _ (.light _ _ (.light _ _ (.alt _ _ _ (.alt _ _ _ (.light _ _ (.alt _ _ _ (.done) (.no))) (.alt _ _ _ (.alt _ _ _ (.light _ _ (.done)) (.no)) (.no))) (.alt _ _ _ (.alt _ _ _ (.alt _ _ _ (.light _ _ (.done)) (.no)) (.no)) (.no)))))))))))))) 15 (.light 0 (.light 1 (.light 2 (.light 3 (.light 4 (.light 5 (.light 6 (.light 7 (.light 8 (.light 10 (.light 11 (.alt 9 0 (.alt 12 0 (.light 13 (.alt 14 0 (.done) (.no))) (.alt 14 0 (.alt 12 0 (.light 13 (.done)) (.no)) (.no))) (.alt 14 0 (.alt 9 0 (.alt 12 0 (.light 13 (.done)) (.no)) (.no)) (.no)))))))))))))) (by kernel_rfl) (by kernel_rfl) Z<|.yv (.fieldAddr Z Fx.field150_0) Z<|.yv (.load Z Fx.agg3 (.head _) Z) Z<|.yv (.conv Z Fx.int3 Fx.int67 (c := (kd.toNat : Nat)) (by have := kd.toNat_lt;simp only [IntKind.wrap,IntKind.signed,IntKind.bits];simp;omega)) Z<|.yv (.fieldAddr Z Fx.field150_1) Z<|.yv (.load Z Fx.agg9 (.head _) Z) Z<|.yv (.fieldAddr Z Fx.field150_2) Z<|.yv (.load Z Fx.agg9 (.head _) Z) Z<|.yv (.fieldAddr Z Fx.field150_4) Z<|.yv (.load Z Fx.agg98 (.head _) Z) Z<|.yv (.fieldAddr Z Fx.field150_5) Z<|.yv (.load Z Fx.agg98 (.head _) Z) Z<|.h ?_ (.h ?_ .nn)
  ·
   refine .ct (X := Value) Fx.call27 Z (fun W s => hit H1 _ W hs2 s.agr) Z fun y24 H24 hy24 u24 => ?_
   obtain ⟨q24,d24,e24,_⟩ := hy24.sl
   simp only [List.cons.injEq,and_true,List.length_map] at e24
   subst e24
   refine .h ?_ (.h ?_ .nn)
   ·
    refine .ct (X := Value) Fx.call27 Z (fun W s => hie H24 _ W (hs3.up u24.up) s.agr) Z fun y27 H27 hy27 u27 => ?_
    obtain ⟨q27,d27,e27,_⟩ := hy27.sl
    simp only [List.cons.injEq,and_true,List.length_map] at e27
    subst e27
    have u5 := u24.trans u27
    have hs1b := hs1.up u5.up
    have hy24b := hy24.up u27.up
    refine .yv (.build Z (Fx.bld71_0_1_2_4_5 _ _ _ _ _ _ _ _ _)) Z<|.h1<|.al Fx.zero71 Z fun b6 => .fn (tl := [_]) Z<|.sW .head Z Z Fx.size71 (by simp [Value.oneCell',strV]) Z<|.nt<|.sq<|.sr<|.yv (.fieldAddr Z Fx.field150_3) Z<|.yv (.load Z Fx.agg49 (.tail _<|.head _) Z) Z<|.yv (.lenSl Fx.sl49 Z) Z<|.m Z Z<|?_
    refine Sx.row0 60 4 ?_
    refine .nt<|.bk<|.lp (X := Nat × Hp × Value × List Value) [(3,_),(6,_),(9,_),(10,_),(11,_),(30,_),(31,_)] ⟨rfl,rfl,rfl,rfl,rfl,rfl,rfl,trivial⟩ [_,_] (fun z => [(32,.int .i64 (z.1 : Nat))]) (fun z => z.2.1) (fun z => [.row 60 4 z.2.2.1 z.1 z.2.2.2,.box b6 [.int .u8 kd.toNat,strV nm,strV hd,z.2.2.1,.slice q24 th.length d24,.slice q27 el.length d27] 71]) (fun z => z.1 ≤ ex.length ∧ HUp w H27 z.2.1 ∧ RepZ z.2.1 4 ((ex.take z.1).map (dEx .u8)) z.2.2.2) (fun z => ex.length - z.1) (0,H27,.slice none 0 0,[]) (fun _ s => s) ⟨rfl,trivial⟩ ⟨by simp,.refl,RepZ.nil⟩ fun z hC => ?_
    obtain ⟨j,H3,re,ys⟩ := z
    dsimp only at hC ⊢
    obtain ⟨hj0,u3,hze⟩ := hC
    refine .sr<|.yv (.lss Z Z) Z<|.nt<|.sq<|.cd Z (fun h33 => ?_) (fun h33 => ?_)
    ·try simp only [dt] at h33
     have hj : j < ex.length := by omega
     obtain ⟨bF,oF,cF,hpF,rF,lF,mF⟩ := (hs1b.up u3.up).elem (map_at (f := dEx .i64) hj)
     cases hpF
     have hnj : Ex.all narrow ex[j] = true := by
      have := List.all_eq_true.1 k5 _ (List.getElem_mem hj)
      simp only [okE,Bool.and_eq_true] at this
      exact this.2
     refine .sk<|.tN<|.sq<|.bk<|.sr<|.yv (.indexSl Fx.sl49 Z Z Z (by omega) (q := oF + j * 4) Z) Z<|.yv (.loadMW Z Fx.agg51 mF lF) Z<|.al Fx.zero51 Z fun b8 => .sV .head Z Z Fx.size51 lF rF.one Z<|.nt<|.fl (trip := [(_,_,_),(_,_,_),(_,_,_),(_,_,_),(_,_,_)]) 5 [(0,0),(1,0),(2,0),(3,1),(4,1)] (by kernel_rfl) (by kernel_rfl) Z<|.yv (.fieldAddr Z Fx.field71_3) Z<|.yv (.load Z Fx.agg58 (.tail _<|.tail _<|.head _) Z) Z<|.yv (.loadW Z Fx.agg51 (.head _) lF) Z<|.ct (X := List Value) Fx.call19 Z (fun W s => expr_any _ hnj H3 cF W rF s.agr) Z fun x39 H39 hx39 u39 => ?_
     generalize hxj : ex[j] = xj at hx39
     obtain ⟨op2,nm2,n2,args2⟩ := xj
     obtain ⟨pz,cz,rfl,hz2,hnm2⟩ := ex_open hx39
     exact .bl Z (Fx.bsl58_1 _ _ _ _) Z fun b40 => .fn (tl := [_,_,_]) Z<|.ap (news := [.int .u8 op2.toNat,strV nm2,.int .i64 n2.toInt,.slice pz args2.length cz]) Fx.row58 Z (fun _ => (.tail<|.tail<|.head)) Z (.box (.head _) z0) Z (by simp [Value.oneCell',strV]) (by simp [maxLen];omega) (by omega) Z fun r41 _ => .ra (.tail _<|.tail _<|.head _) fun p41 c41 e41 => .yv (.fieldAddr Z Fx.field71_3) Z<|.st (.tail<|.tail<|.tail<|.head) Z Z Fx.size58 (by rw [e41];rfl) (nb Z) Z<|.nl<|.bN<|.tN<|.rg<|.yv (.add Z Z (w6 (by omega))) Z<|.m Z Z<|.nt<|.ag (x := (j,H3,re,ys)) (j + 1,H39,r41,ys ++ [.int .u8 op2.toNat,strV nm2,.int .i64 n2.toInt,.slice pz args2.length cz]) ⟨rfl,trivial⟩ ⟨rfl,rfl,rfl,rfl,rfl,rfl,rfl,trivial⟩ (fun _ s => (s.pick [2,3,4,5] _ Z Z)) ⟨by dsimp only;omega,u3.trans u39,by dsimp only;rw [take_snoc hj,hxj,List.map_append];exact (hze.up u39.up).snoc hx39 Z⟩ (by dsimp only;omega)
    try simp only [df] at h33
    obtain rfl : j = ex.length := by omega
    rw [List.take_length] at hze
    refine Sx.freezeSeq (ds := ex.map (dEx .u8)) (by simp) hze fun H3 pX cX u6 eX hX => ?_
    subst eX
    have uX := u5.trans (u3.trans u6)
    have hy24X := hy24b.up (u3.trans u6).up
    have hy27X := hy27.up (u3.trans u6).up
    exact .ex<|.tE<|.tE<|.bE<|.tN<|.rg<|.m Z Z<|.yv (.loadW Z Fx.agg71 (.head _) Z) Z<|.bl Z (Fx.bsl69_1 _ _ _ _ _ _) Z fun b46 => .ap (news := [.int .u8 kd.toNat,strV nm,strV hd,.slice pX ex.length cX,.slice q24 th.length d24,.slice q27 el.length d27]) Fx.row69 Z (fun _ => (.tail<|.tail<|.tail<|.head)) Z (.box (.head _) z0) Z (by simp [Value.oneCell',strV]) (by simp [maxLen];omega) (by omega) Z fun r47 _ => .a Z Z<|.nl<|.bN<|.tN<|.rg<|.yv (.add Z Z (w6 (by omega))) Z<|.m Z Z<|.nt<|.ag (x := (k,H1,r,xs)) (k + 1,H3,r47,xs ++ [.int .u8 kd.toNat,strV nm,strV hd,.slice pX ex.length cX,.slice q24 th.length d24,.slice q27 el.length d27]) ⟨rfl,rfl,trivial⟩ ⟨rfl,rfl,trivial⟩ (fun _ s => (s.pick [3] _ Z Z)) ⟨by dsimp only;omega,u1.trans uX,by dsimp only;rw [take_snoc hk,hx,List.map_append];exact (hz.up uX.up).snoc (sm_shut (by omega) (by omega) hX hy24X hy27X) Z⟩ (by dsimp only;omega)
   refine .al Fx.zero71 Z fun b6 => .h1<|.ct (X := Value) Fx.call27 Z (fun W s => hie H24 _ W (hs3.up u24.up) s.agr) Z fun y27 H27 hy27 u27 => ?_
   obtain ⟨q27,d27,e27,_⟩ := hy27.sl
   simp only [List.cons.injEq,and_true,List.length_map] at e27
   subst e27
   have u5 := u24.trans u27
   have hs1b := hs1.up u5.up
   have hy24b := hy24.up u27.up
   refine .yv (.build Z (Fx.bld71_0_1_2_4_5 _ _ _ _ _ _ _ _ _)) Z<|.fn (tl := [_]) Z<|.sW .head Z Z Fx.size71 (by simp [Value.oneCell',strV]) Z<|.nt<|.sq<|.sr<|.yv (.fieldAddr Z Fx.field150_3) Z<|.yv (.load Z Fx.agg49 (.tail _<|.head _) Z) Z<|.yv (.lenSl Fx.sl49 Z) Z<|.m Z Z<|?_
   refine Sx.row0 60 4 ?_
   refine .nt<|.bk<|.lp (X := Nat × Hp × Value × List Value) [(3,_),(6,_),(9,_),(10,_),(11,_),(30,_),(31,_)] ⟨rfl,rfl,rfl,rfl,rfl,rfl,rfl,trivial⟩ [_,_] (fun z => [(32,.int .i64 (z.1 : Nat))]) (fun z => z.2.1) (fun z => [.row 60 4 z.2.2.1 z.1 z.2.2.2,.box b6 [.int .u8 kd.toNat,strV nm,strV hd,z.2.2.1,.slice q24 th.length d24,.slice q27 el.length d27] 71]) (fun z => z.1 ≤ ex.length ∧ HUp w H27 z.2.1 ∧ RepZ z.2.1 4 ((ex.take z.1).map (dEx .u8)) z.2.2.2) (fun z => ex.length - z.1) (0,H27,.slice none 0 0,[]) (fun _ s => s) ⟨rfl,trivial⟩ ⟨by simp,.refl,RepZ.nil⟩ fun z hC => ?_
   obtain ⟨j,H3,re,ys⟩ := z
   dsimp only at hC ⊢
   obtain ⟨hj0,u3,hze⟩ := hC
   refine .sr<|.yv (.lss Z Z) Z<|.nt<|.sq<|.cd Z (fun h33 => ?_) (fun h33 => ?_)
   ·try simp only [dt] at h33
    have hj : j < ex.length := by omega
    obtain ⟨bF,oF,cF,hpF,rF,lF,mF⟩ := (hs1b.up u3.up).elem (map_at (f := dEx .i64) hj)
    cases hpF
    have hnj : Ex.all narrow ex[j] = true := by
     have := List.all_eq_true.1 k5 _ (List.getElem_mem hj)
     simp only [okE,Bool.and_eq_true] at this
     exact this.2
    refine .sk<|.tN<|.sq<|.bk<|.sr<|.yv (.indexSl Fx.sl49 Z Z Z (by omega) (q := oF + j * 4) Z) Z<|.yv (.loadMW Z Fx.agg51 mF lF) Z<|.al Fx.zero51 Z fun b8 => .sV .head Z Z Fx.size51 lF rF.one Z<|.nt<|.fl (trip := [(_,_,_),(_,_,_),(_,_,_),(_,_,_),(_,_,_)]) 5 [(0,0),(1,0),(2,0),(3,1),(4,1)] (by kernel_rfl) (by kernel_rfl) Z<|.yv (.fieldAddr Z Fx.field71_3) Z<|.yv (.load Z Fx.agg58 (.tail _<|.tail _<|.head _) Z) Z<|.yv (.loadW Z Fx.agg51 (.head _) lF) Z<|.ct (X := List Value) Fx.call19 Z (fun W s => expr_any _ hnj H3 cF W rF s.agr) Z fun x39 H39 hx39 u39 => ?_
    generalize hxj : ex[j] = xj at hx39
    obtain ⟨op2,nm2,n2,args2⟩ := xj
    obtain ⟨pz,cz,rfl,hz2,hnm2⟩ := ex_open hx39
    exact .bl Z (Fx.bsl58_1 _ _ _ _) Z fun b40 => .fn (tl := [_,_,_]) Z<|.ap (news := [.int .u8 op2.toNat,strV nm2,.int .i64 n2.toInt,.slice pz args2.length cz]) Fx.row58 Z (fun _ => (.tail<|.tail<|.head)) Z (.box (.head _) z0) Z (by simp [Value.oneCell',strV]) (by simp [maxLen];omega) (by omega) Z fun r41 _ => .ra (.tail _<|.tail _<|.head _) fun p41 c41 e41 => .yv (.fieldAddr Z Fx.field71_3) Z<|.st (.tail<|.tail<|.tail<|.head) Z Z Fx.size58 (by rw [e41];rfl) (nb Z) Z<|.nl<|.bN<|.tN<|.rg<|.yv (.add Z Z (w6 (by omega))) Z<|.m Z Z<|.nt<|.ag (x := (j,H3,re,ys)) (j + 1,H39,r41,ys ++ [.int .u8 op2.toNat,strV nm2,.int .i64 n2.toInt,.slice pz args2.length cz]) ⟨rfl,trivial⟩ ⟨rfl,rfl,rfl,rfl,rfl,rfl,rfl,trivial⟩ (fun _ s => (s.pick [2,3,4,5] _ Z Z)) ⟨by dsimp only;omega,u3.trans u39,by dsimp only;rw [take_snoc hj,hxj,List.map_append];exact (hze.up u39.up).snoc hx39 Z⟩ (by dsimp only;omega)
   try simp only [df] at h33
   obtain rfl : j = ex.length := by omega
   rw [List.take_length] at hze
   refine Sx.freezeSeq (ds := ex.map (dEx .u8)) (by simp) hze fun H3 pX cX u6 eX hX => ?_
   subst eX
   have uX := u5.trans (u3.trans u6)
   have hy24X := hy24b.up (u3.trans u6).up
   have hy27X := hy27.up (u3.trans u6).up
   exact .ex<|.tE<|.tE<|.bE<|.tN<|.rg<|.m Z Z<|.yv (.loadW Z Fx.agg71 (.head _) Z) Z<|.bl Z (Fx.bsl69_1 _ _ _ _ _ _) Z fun b46 => .ap (news := [.int .u8 kd.toNat,strV nm,strV hd,.slice pX ex.length cX,.slice q24 th.length d24,.slice q27 el.length d27]) Fx.row69 Z (fun _ => (.tail<|.tail<|.tail<|.head)) Z (.box (.head _) z0) Z (by simp [Value.oneCell',strV]) (by simp [maxLen];omega) (by omega) Z fun r47 _ => .a Z Z<|.nl<|.bN<|.tN<|.rg<|.yv (.add Z Z (w6 (by omega))) Z<|.m Z Z<|.nt<|.ag (x := (k,H1,r,xs)) (k + 1,H3,r47,xs ++ [.int .u8 kd.toNat,strV nm,strV hd,.slice pX ex.length cX,.slice q24 th.length d24,.slice q27 el.length d27]) ⟨rfl,rfl,trivial⟩ ⟨rfl,rfl,trivial⟩ (fun _ s => (s.pick [3] _ Z Z)) ⟨by dsimp only;omega,u1.trans uX,by dsimp only;rw [take_snoc hk,hx,List.map_append];exact (hz.up uX.up).snoc (sm_shut (by omega) (by omega) hX hy24X hy27X) Z⟩ (by dsimp only;omega)
  refine .al Fx.zero71 Z fun b6 => .h1<|.ct (X := Value) Fx.call27 Z (fun W s => hit H1 _ W hs2 s.agr) Z fun y24 H24 hy24 u24 => ?_
  obtain ⟨q24,d24,e24,_⟩ := hy24.sl
  simp only [List.cons.injEq,and_true,List.length_map] at e24
  subst e24
  refine .h1<|.ct (X := Value) Fx.call27 Z (fun W s => hie H24 _ W (hs3.up u24.up) s.agr) Z fun y27 H27 hy27 u27 => ?_
  obtain ⟨q27,d27,e27,_⟩ := hy27.sl
  simp only [List.cons.injEq,and_true,List.length_map] at e27
  subst e27
  have u5 := u24.trans u27
  have hs1b := hs1.up u5.up
  have hy24b := hy24.up u27.up
  refine .yv (.build Z (Fx.bld71_0_1_2_4_5 _ _ _ _ _ _ _ _ _)) Z<|.fn (tl := [_]) Z<|.sW .head Z Z Fx.size71 (by simp [Value.oneCell',strV]) Z<|.nt<|.sq<|.sr<|.yv (.fieldAddr Z Fx.field150_3) Z<|.yv (.load Z Fx.agg49 (.tail _<|.head _) Z) Z<|.yv (.lenSl Fx.sl49 Z) Z<|.m Z Z<|?_
  refine Sx.row0 60 4 ?_
  refine .nt<|.bk<|.lp (X := Nat × Hp × Value × List Value) [(3,_),(6,_),(9,_),(10,_),(11,_),(30,_),(31,_)] ⟨rfl,rfl,rfl,rfl,rfl,rfl,rfl,trivial⟩ [_,_] (fun z => [(32,.int .i64 (z.1 : Nat))]) (fun z => z.2.1) (fun z => [.row 60 4 z.2.2.1 z.1 z.2.2.2,.box b6 [.int .u8 kd.toNat,strV nm,strV hd,z.2.2.1,.slice q24 th.length d24,.slice q27 el.length d27] 71]) (fun z => z.1 ≤ ex.length ∧ HUp w H27 z.2.1 ∧ RepZ z.2.1 4 ((ex.take z.1).map (dEx .u8)) z.2.2.2) (fun z => ex.length - z.1) (0,H27,.slice none 0 0,[]) (fun _ s => s) ⟨rfl,trivial⟩ ⟨by simp,.refl,RepZ.nil⟩ fun z hC => ?_
  obtain ⟨j,H3,re,ys⟩ := z
  dsimp only at hC ⊢
  obtain ⟨hj0,u3,hze⟩ := hC
  refine .sr<|.yv (.lss Z Z) Z<|.nt<|.sq<|.cd Z (fun h33 => ?_) (fun h33 => ?_)
  ·try simp only [dt] at h33
   have hj : j < ex.length := by omega
   obtain ⟨bF,oF,cF,hpF,rF,lF,mF⟩ := (hs1b.up u3.up).elem (map_at (f := dEx .i64) hj)
   cases hpF
   have hnj : Ex.all narrow ex[j] = true := by
    have := List.all_eq_true.1 k5 _ (List.getElem_mem hj)
    simp only [okE,Bool.and_eq_true] at this
    exact this.2
   refine .sk<|.tN<|.sq<|.bk<|.sr<|.yv (.indexSl Fx.sl49 Z Z Z (by omega) (q := oF + j * 4) Z) Z<|.yv (.loadMW Z Fx.agg51 mF lF) Z<|.al Fx.zero51 Z fun b8 => .sV .head Z Z Fx.size51 lF rF.one Z<|.nt<|.fl (trip := [(_,_,_),(_,_,_),(_,_,_),(_,_,_),(_,_,_)]) 5 [(0,0),(1,0),(2,0),(3,1),(4,1)] (by kernel_rfl) (by kernel_rfl) Z<|.yv (.fieldAddr Z Fx.field71_3) Z<|.yv (.load Z Fx.agg58 (.tail _<|.tail _<|.head _) Z) Z<|.yv (.loadW Z Fx.agg51 (.head _) lF) Z<|.ct (X := List Value) Fx.call19 Z (fun W s => expr_any _ hnj H3 cF W rF s.agr) Z fun x39 H39 hx39 u39 => ?_
   generalize hxj : ex[j] = xj at hx39
   obtain ⟨op2,nm2,n2,args2⟩ := xj
   obtain ⟨pz,cz,rfl,hz2,hnm2⟩ := ex_open hx39
   exact .bl Z (Fx.bsl58_1 _ _ _ _) Z fun b40 => .fn (tl := [_,_,_]) Z<|.ap (news := [.int .u8 op2.toNat,strV nm2,.int .i64 n2.toInt,.slice pz args2.length cz]) Fx.row58 Z (fun _ => (.tail<|.tail<|.head)) Z (.box (.head _) z0) Z (by simp [Value.oneCell',strV]) (by simp [maxLen];omega) (by omega) Z fun r41 _ => .ra (.tail _<|.tail _<|.head _) fun p41 c41 e41 => .yv (.fieldAddr Z Fx.field71_3) Z<|.st (.tail<|.tail<|.tail<|.head) Z Z Fx.size58 (by rw [e41];rfl) (nb Z) Z<|.nl<|.bN<|.tN<|.rg<|.yv (.add Z Z (w6 (by omega))) Z<|.m Z Z<|.nt<|.ag (x := (j,H3,re,ys)) (j + 1,H39,r41,ys ++ [.int .u8 op2.toNat,strV nm2,.int .i64 n2.toInt,.slice pz args2.length cz]) ⟨rfl,trivial⟩ ⟨rfl,rfl,rfl,rfl,rfl,rfl,rfl,trivial⟩ (fun _ s => (s.pick [2,3,4,5] _ Z Z)) ⟨by dsimp only;omega,u3.trans u39,by dsimp only;rw [take_snoc hj,hxj,List.map_append];exact (hze.up u39.up).snoc hx39 Z⟩ (by dsimp only;omega)
  try simp only [df] at h33
  obtain rfl : j = ex.length := by omega
  rw [List.take_length] at hze
  refine Sx.freezeSeq (ds := ex.map (dEx .u8)) (by simp) hze fun H3 pX cX u6 eX hX => ?_
  subst eX
  have uX := u5.trans (u3.trans u6)
  have hy24X := hy24b.up (u3.trans u6).up
  have hy27X := hy27.up (u3.trans u6).up
  exact .ex<|.tE<|.tE<|.bE<|.tN<|.rg<|.m Z Z<|.yv (.loadW Z Fx.agg71 (.head _) Z) Z<|.bl Z (Fx.bsl69_1 _ _ _ _ _ _) Z fun b46 => .ap (news := [.int .u8 kd.toNat,strV nm,strV hd,.slice pX ex.length cX,.slice q24 th.length d24,.slice q27 el.length d27]) Fx.row69 Z (fun _ => (.tail<|.tail<|.tail<|.head)) Z (.box (.head _) z0) Z (by simp [Value.oneCell',strV]) (by simp [maxLen];omega) (by omega) Z fun r47 _ => .a Z Z<|.nl<|.bN<|.tN<|.rg<|.yv (.add Z Z (w6 (by omega))) Z<|.m Z Z<|.nt<|.ag (x := (k,H1,r,xs)) (k + 1,H3,r47,xs ++ [.int .u8 kd.toNat,strV nm,strV hd,.slice pX ex.length cX,.slice q24 th.length d24,.slice q27 el.length d27]) ⟨rfl,rfl,trivial⟩ ⟨rfl,rfl,trivial⟩ (fun _ s => (s.pick [3] _ Z Z)) ⟨by dsimp only;omega,u1.trans uX,by dsimp only;rw [take_snoc hk,hx,List.map_append];exact (hz.up uX.up).snoc (sm_shut (by omega) (by omega) hX hy24X hy27X) Z⟩ (by dsimp only;omega)
 try simp only [df] at h12
 obtain rfl : k = l.length := by omega
 rw [List.take_length] at hz
 refine .ex<|.tE<|.tE<|.bE<|.tN<|.sr<|.m Z Z<|.a Z Z<|.nt<|.rt<|?_
 refine Sx.freezeSeq (ds := l.map (dSm .u8)) (by simp) hz fun HZ pZ cZ uZ eZ hZ => ?_
 exact Sx.ret1 (.inl rfl) rfl (.tmp rfl) fun W t => ⟨r,HZ,hZ,rfl,(u1.trans uZ).grow t⟩
set_option maxHeartbeats 2000000 in
set_option maxRecDepth 100000 in
theorem syntax_any (N : Nat) (hN : N ≤ 1000000) (H : Hp) (f : Ft) (hok : okFt N f) (cs : List Value) (w : World) (h : Rep H (dFt .i64 f) cs) (hA : Agr H w) :
 Calls Tryz.prog 10 #[.agg cs.toArray] w fun r w' => ∃ (y : List Value) (H' : Hp),Rep H' (dFt .u8 f) y ∧ r = .returned (.agg y.toArray) ∧ Grow H w H' w' := by
 obtain ⟨p1,c1,p2,c2,p3,c3,rfl,nf,k1,k2,k3⟩ := ft_open h
 have hcap1 := k1.cap
 have hcap2 := k2.cap
 have hcap3 := k3.cap
 have hfl := hok.flags
 have hll := hok.links
 have hcl := hok.comps
 refine Sx.enter (H := H) Tryz.func10 rfl Tryz.ntmps10 rfl hA ?_
 refine .sr<|.bx Z Z Z fun b1 => .al Fx.zero40 Z fun b2 => .ns<|.yv (.fieldAddr Z Fx.field32_0) Z<|.yv (.load Z Fx.agg9 (.tail _<|.head _) Z) Z<|.yv (.build Z (Fx.bld40_0 _)) Z<|.al Fx.zero40 Z fun b3 => .sW .head Z Z Fx.size40 (by simp [Value.oneCell',strV]) Z<|.nt<|.sq<|.sr<|.yv (.fieldAddr Z Fx.field32_1) Z<|.yv (.load Z Fx.agg28 (.tail _<|.tail _<|.head _) Z) Z<|.yv (.lenSl Fx.sl28 Z) Z<|.m Z Z<|?_
 refine Sx.row0 65 2 ?_
 refine .nt<|.bk<|.lp (X := Nat × Value × List Value) [(1,_),(2,_),(3,_),(22,_),(23,_)] ⟨rfl,rfl,rfl,rfl,rfl,trivial⟩ [_,_] (fun z => [(24,.int .i64 (z.1 : Nat))]) (fun z => H) (fun z => [.row 65 2 z.2.1 z.1 z.2.2,.box b3 [strV f.nm,z.2.1,.slice none 0 0,.slice none 0 0] 40]) (fun z => z.1 ≤ f.flags.length ∧ RepZ H 2 ((f.flags.take z.1).map dFg) z.2.2) (fun z => f.flags.length - z.1) (0,.slice none 0 0,[]) (fun _ s => s) ⟨rfl,trivial⟩ ⟨by simp,RepZ.nil⟩ fun z hC => ?_
 obtain ⟨k,r,xs⟩ := z
 dsimp only at hC ⊢
 obtain ⟨hk0,hz⟩ := hC
 refine .sr<|.yv (.lss Z Z) Z<|.nt<|.sq<|.cd Z (fun h25 => ?_) (fun h25 => ?_)
 ·try simp only [dt] at h25
  have hk : k < f.flags.length := by omega
  obtain ⟨bE,oE,cE,hpE,rE,lE,mE⟩ := k1.elem (map_at (f := dFg) hk)
  cases hpE
  generalize hx : f.flags[k] = x at rE
  obtain ⟨rfl,nx⟩ := fg_open rE
  exact .sk<|.tN<|.sq<|.bk<|.sr<|.yv (.indexSl Fx.sl28 Z Z Z (by omega) (q := oE + k * 2) Z) Z<|.yv (.loadMW Z Fx.agg84 mE Z) Z<|.al Fx.zero84 Z fun b5 => .sW .head Z Z Fx.size84 (by simp [Value.oneCell',strV]) Z<|.nt<|.rg<|.yv (.fieldAddr Z Fx.field40_1) Z<|.yv (.load Z Fx.agg36 (.tail _<|.tail _<|.head _) Z) Z<|.yv (.fieldAddr Z Fx.field84_0) Z<|.yv (.load Z Fx.agg9 (.head _) Z) Z<|.yv (.fieldAddr Z Fx.field84_1) Z<|.yv (.load Z Fx.agg4 (.head _) Z) Z<|.yv (.build Z (Fx.bld65_0_1 _ _)) Z<|.bl Z (Fx.bsl36_1 _ _) Z fun b35 => .ap (news := [strV x.nm,.bool x.init]) Fx.row36 Z (fun _ => (.tail<|.tail<|.head)) Z (.box (.head _) z0) Z (by simp [Value.oneCell',strV]) (by simp [maxLen];omega) (by omega) Z fun r36 _ => .ra (.tail _<|.tail _<|.head _) fun p36 c36 e36 => .yv (.fieldAddr Z Fx.field40_1) Z<|.st (.tail<|.tail<|.tail<|.head) Z Z Fx.size36 (by rw [e36];rfl) (nb Z) Z<|.nl<|.bN<|.tN<|.rg<|.yv (.add Z Z (w6 (by omega))) Z<|.m Z Z<|.nt<|.ag (x := (k,r,xs)) (k + 1,r36,xs ++ [strV x.nm,.bool x.init]) ⟨rfl,trivial⟩ ⟨rfl,rfl,rfl,rfl,rfl,trivial⟩ (fun _ s => (s.pick [2,3,4,5] _ Z Z)) ⟨by dsimp only;omega,by dsimp only;rw [take_snoc hk,hx,List.map_append];exact hz.snoc (fg_shut (x := x) nx) Z⟩ (by dsimp only;omega)
 try simp only [df] at h25
 obtain rfl : k = f.flags.length := by omega
 rw [List.take_length] at hz
 refine Sx.freezeSeq (ds := f.flags.map dFg) (by simp) hz fun H4 p4 c4 u4 e4 h4 => ?_
 subst e4
 refine .ex<|.tE<|.tE<|.bE<|.tN<|.sq<|.sr<|.yv (.fieldAddr Z Fx.field32_2) Z<|.yv (.load Z Fx.agg29 (.tail _<|.tail _<|.head _) Z) Z<|.yv (.lenSl Fx.sl29 Z) Z<|.m Z Z<|?_
 refine Sx.row0 87 3 ?_
 have k24 := k2.up u4.up
 refine .nt<|.bk<|.lp (X := Nat × Value × List Value) [(1,_),(2,_),(3,_),(40,_),(41,_)] ⟨rfl,rfl,rfl,rfl,rfl,trivial⟩ [_,_] (fun z => [(42,.int .i64 (z.1 : Nat))]) (fun z => H4) (fun z => [.row 87 3 z.2.1 z.1 z.2.2,.box b3 [strV f.nm,.slice p4 f.flags.length c4,z.2.1,.slice none 0 0] 40]) (fun z => z.1 ≤ f.links.length ∧ RepZ H4 3 ((f.links.take z.1).map dLk) z.2.2) (fun z => f.links.length - z.1) (0,.slice none 0 0,[]) (fun _ s => s) ⟨rfl,trivial⟩ ⟨by simp,RepZ.nil⟩ fun z hC => ?_
 obtain ⟨k,r,xs⟩ := z
 dsimp only at hC ⊢
 obtain ⟨hk0,hz⟩ := hC
 refine .sr<|.yv (.lss Z Z) Z<|.nt<|.sq<|.cd Z (fun h43 => ?_) (fun h43 => ?_)
 ·try simp only [dt] at h43
  have hk : k < f.links.length := by omega
  obtain ⟨bE,oE,cE,hpE,rE,lE,mE⟩ := k24.elem (map_at (f := dLk) hk)
  cases hpE
  generalize hx : f.links[k] = x at rE
  obtain ⟨rfl,nx,nx2⟩ := lk_open rE
  exact .sk<|.tN<|.sq<|.bk<|.sr<|.yv (.indexSl Fx.sl29 Z Z Z (by omega) (q := oE + k * 3) Z) Z<|.yv (.loadMW Z Fx.agg86 mE Z) Z<|.al Fx.zero86 Z fun b7 => .sW .head Z Z Fx.size86 (by simp [Value.oneCell',strV]) Z<|.nt<|.rg<|.yv (.fieldAddr Z Fx.field40_2) Z<|.yv (.load Z Fx.agg37 (.tail _<|.tail _<|.head _) Z) Z<|.yv (.fieldAddr Z Fx.field86_0) Z<|.yv (.load Z Fx.agg9 (.head _) Z) Z<|.yv (.fieldAddr Z Fx.field86_1) Z<|.yv (.load Z Fx.agg9 (.head _) Z) Z<|.yv (.fieldAddr Z Fx.field86_2) Z<|.yv (.load Z Fx.agg3 (.head _) Z) Z<|.yv (.build Z (Fx.bld87_0_1_2 _ _ _)) Z<|.bl Z (Fx.bsl37_1 _ _ _) Z fun b55 => .ap (news := [strV x.fr,strV x.to,.int .i64 x.lat.toInt]) Fx.row37 Z (fun _ => (.tail<|.tail<|.head)) Z (.box (.head _) z0) Z (by simp [Value.oneCell',strV]) (by simp [maxLen];omega) (by omega) Z fun r56 _ => .ra (.tail _<|.tail _<|.head _) fun p56 c56 e56 => .yv (.fieldAddr Z Fx.field40_2) Z<|.st (.tail<|.tail<|.tail<|.head) Z Z Fx.size37 (by rw [e56];rfl) (nb Z) Z<|.nl<|.bN<|.tN<|.rg<|.yv (.add Z Z (w6 (by omega))) Z<|.m Z Z<|.nt<|.ag (x := (k,r,xs)) (k + 1,r56,xs ++ [strV x.fr,strV x.to,.int .i64 x.lat.toInt]) ⟨rfl,trivial⟩ ⟨rfl,rfl,rfl,rfl,rfl,trivial⟩ (fun _ s => (s.pick [2,3,4,5] _ Z Z)) ⟨by dsimp only;omega,by dsimp only;rw [take_snoc hk,hx,List.map_append];exact hz.snoc (lk_shut (x := x) nx nx2) Z⟩ (by dsimp only;omega)
 try simp only [df] at h43
 obtain rfl : k = f.links.length := by omega
 rw [List.take_length] at hz
 refine Sx.freezeSeq (ds := f.links.map dLk) (by simp) hz fun H5 p5 c5 u5 e5 h5 => ?_
 subst e5
 refine .ex<|.tE<|.tE<|.bE<|.tN<|.sq<|.sr<|.yv (.fieldAddr Z Fx.field32_3) Z<|.yv (.load Z Fx.agg30 (.tail _<|.tail _<|.head _) Z) Z<|.yv (.lenSl Fx.sl30 Z) Z<|.m Z Z<|?_
 refine Sx.row0 80 3 ?_
 have k35 := k3.up (u4.trans u5).up
 have h45 := h4.up u5.up
 refine .nt<|.bk<|.lp (X := Nat × Hp × Value × List Value) [(2,_),(3,_),(60,_),(61,_)] ⟨rfl,rfl,rfl,rfl,trivial⟩ [_,_] (fun z => [(62,.int .i64 (z.1 : Nat))]) (fun z => z.2.1) (fun z => [.row 80 3 z.2.2.1 z.1 z.2.2.2,.box b3 [strV f.nm,.slice p4 f.flags.length c4,.slice p5 f.links.length c5,z.2.2.1] 40]) (fun z => z.1 ≤ f.comps.length ∧ HUp w H5 z.2.1 ∧ RepZ z.2.1 3 ((f.comps.take z.1).map (dCp .u8)) z.2.2.2) (fun z => f.comps.length - z.1) (0,H5,.slice none 0 0,[]) (fun _ s => s) ⟨rfl,trivial⟩ ⟨by simp,.refl,RepZ.nil⟩ fun z hC => ?_
 obtain ⟨k,Ha,rc,xs⟩ := z
 dsimp only at hC ⊢
 obtain ⟨hk0,ua,hz⟩ := hC
 refine .sr<|.yv (.lss Z Z) Z<|.nt<|.sq<|.cd Z (fun h63 => ?_) (fun h63 => ?_)
 ·try simp only [dt] at h63
  have hk : k < f.comps.length := by omega
  obtain ⟨bE,oE,cE,hpE,rE,lE,mE⟩ := (k35.up ua.up).elem (map_at (f := dCp .i64) hk)
  cases hpE
  have okc := hok.all _ (List.getElem_mem hk)
  generalize hx : f.comps[k] = x at rE okc
  obtain ⟨q1,d1,q2,d2,rfl,nx,g1,g2⟩ := cp_open rE
  have hcv := g1.cap
  have hcr := g2.cap
  have hvl := okc.vars
  have hrl := okc.vers
  refine .sk<|.tN<|.sq<|.bk<|.sr<|.yv (.indexSl Fx.sl30 Z Z Z (by omega) (q := oE + k * 3) Z) Z<|.yv (.loadMW Z Fx.agg91 mE Z) Z<|.al Fx.zero91 Z fun b9 => .sW .head Z Z Fx.size91 (by simp [Value.oneCell',strV]) Z<|.ns<|.yv (.fieldAddr Z Fx.field91_0) Z<|.yv (.load Z Fx.agg9 (.head _) Z) Z<|.yv (.build Z (Fx.bld80_0 _)) Z<|.al Fx.zero80 Z fun b10 => .sW .head Z Z Fx.size80 (by simp [Value.oneCell',strV]) Z<|.nt<|.sq<|.sr<|.yv (.fieldAddr Z Fx.field91_1) Z<|.yv (.load Z Fx.agg88 (.tail _<|.head _) Z) Z<|.yv (.lenSl Fx.sl88 Z) Z<|.m Z Z<|?_
  refine Sx.row0 96 3 ?_
  refine .nt<|.bk<|.lp (X := Nat × Value × List Value) [(2,_),(3,_),(9,_),(10,_),(60,_),(61,_),(62,_),(70,_),(71,_)] ⟨rfl,rfl,rfl,rfl,rfl,rfl,rfl,rfl,rfl,trivial⟩ [_,_,_,_,_] (fun z => [(72,.int .i64 (z.1 : Nat))]) (fun z => Ha) (fun z => [.row 96 3 z.2.1 z.1 z.2.2,.box b10 [strV x.nm,z.2.1,.slice none 0 0] 80]) (fun z => z.1 ≤ x.vars.length ∧ RepZ Ha 3 ((x.vars.take z.1).map (dVr .u8)) z.2.2) (fun z => x.vars.length - z.1) (0,.slice none 0 0,[]) (fun _ s => s) ⟨rfl,trivial⟩ ⟨by simp,RepZ.nil⟩ fun z hC => ?_
  obtain ⟨j,rv,ys⟩ := z
  dsimp only at hC ⊢
  obtain ⟨hj0,hzv⟩ := hC
  refine .sr<|.yv (.lss Z Z) Z<|.nt<|.sq<|.cd Z (fun h73 => ?_) (fun h73 => ?_)
  ·try simp only [dt] at h73
   have hj : j < x.vars.length := by omega
   obtain ⟨bF,oF,cF,hpF,rF,lF,mF⟩ := g1.elem (map_at (f := dVr .i64) hj)
   cases hpF
   generalize hv : x.vars[j] = v at rF
   obtain ⟨rfl,nv⟩ := vr_open rF
   exact .sk<|.tN<|.sq<|.bk<|.sr<|.yv (.indexSl Fx.sl88 Z Z Z (by omega) (q := oF + j * 3) Z) Z<|.yv (.loadMW Z Fx.agg93 mF Z) Z<|.al Fx.zero93 Z fun b12 => .sW .head Z Z Fx.size93 (by simp [Value.oneCell',strV]) Z<|.nt<|.rg<|.yv (.fieldAddr Z Fx.field80_1) Z<|.yv (.load Z Fx.agg78 (.tail _<|.tail _<|.head _) Z) Z<|.yv (.fieldAddr Z Fx.field93_0) Z<|.yv (.load Z Fx.agg9 (.head _) Z) Z<|.yv (.fieldAddr Z Fx.field93_1) Z<|.yv (.load Z Fx.agg3 (.head _) Z) Z<|.yv (.conv Z Fx.int3 Fx.int94 (c := (v.ty.toNat : Nat)) (by have := v.ty.toNat_lt;simp only [IntKind.wrap,IntKind.signed,IntKind.bits];simp;omega)) Z<|.yv (.fieldAddr Z Fx.field93_2) Z<|.yv (.load Z Fx.agg2 (.head _) Z) Z<|.yv (.build Z (Fx.bld96_0_1_2 _ _ _)) Z<|.bl Z (Fx.bsl78_1 _ _ _) Z fun b86 => .ap (news := [strV v.nm,.int .u8 v.ty.toNat,.int .i64 v.init.toInt]) Fx.row78 Z (fun _ => (.tail<|.tail<|.head)) Z (.box (.head _) z0) Z (by simp [Value.oneCell',strV]) (by simp [maxLen];omega) (by omega) Z fun r87 _ => .ra (.tail _<|.tail _<|.head _) fun p87 c87 e87 => .yv (.fieldAddr Z Fx.field80_1) Z<|.st (.tail<|.tail<|.tail<|.head) Z Z Fx.size78 (by rw [e87];rfl) (nb Z) Z<|.nl<|.bN<|.tN<|.rg<|.yv (.add Z Z (w6 (by omega))) Z<|.m Z Z<|.nt<|.ag (x := (j,rv,ys)) (j + 1,r87,ys ++ [strV v.nm,.int .u8 v.ty.toNat,.int .i64 v.init.toInt]) ⟨rfl,trivial⟩ ⟨rfl,rfl,rfl,rfl,rfl,rfl,rfl,rfl,rfl,trivial⟩ (fun _ s => (s.pick [2,3,4,5,6,7,8] _ Z Z)) ⟨by dsimp only;omega,by dsimp only;rw [take_snoc hj,hv,List.map_append];exact hzv.snoc (vr_shut (x := v) nv) Z⟩ (by dsimp only;omega)
  try simp only [df] at h73
  obtain rfl : j = x.vars.length := by omega
  rw [List.take_length] at hzv
  refine Sx.freezeSeq (ds := x.vars.map (dVr .u8)) (by simp) hzv fun HV pV cV uV eV hV => ?_
  subst eV
  refine .ex<|.tE<|.tE<|.bE<|.tN<|.sq<|.sr<|.yv (.fieldAddr Z Fx.field91_2) Z<|.yv (.load Z Fx.agg89 (.tail _<|.head _) Z) Z<|.yv (.lenSl Fx.sl89 Z) Z<|.m Z Z<|?_
  refine Sx.row0 76 1 ?_
  refine .nt<|.bk<|.lp (X := Nat × Hp × Value × List Value) [(2,_),(3,_),(10,_),(60,_),(61,_),(62,_),(91,_),(92,_)] ⟨rfl,rfl,rfl,rfl,rfl,rfl,rfl,rfl,trivial⟩ [_,_,_,_,_] (fun z => [(93,.int .i64 (z.1 : Nat))]) (fun z => z.2.1) (fun z => [.row 76 1 z.2.2.1 z.1 z.2.2.2,.box b10 [strV x.nm,.slice pV x.vars.length cV,z.2.2.1] 80]) (fun z => z.1 ≤ x.vers.length ∧ HUp w HV z.2.1 ∧ RepZ z.2.1 1 ((x.vers.take z.1).map (dVs .u8)) z.2.2.2) (fun z => x.vers.length - z.1) (0,HV,.slice none 0 0,[]) (fun _ s => s) ⟨rfl,trivial⟩ ⟨by simp,.refl,RepZ.nil⟩ fun z hC => ?_
  obtain ⟨i,Hb,rs,ws⟩ := z
  dsimp only at hC ⊢
  obtain ⟨hi0,ub,hzs⟩ := hC
  refine .sr<|.yv (.lss Z Z) Z<|.nt<|.sq<|.cd Z (fun h94 => ?_) (fun h94 => ?_)
  ·try simp only [dt] at h94
   have hi : i < x.vers.length := by omega
   obtain ⟨bG,oG,cG,hpG,rG,lG,mG⟩ := (g2.up (uV.trans ub).up).elem (map_at (f := dVs .i64) hi)
   cases hpG
   have okv := okc.all _ (List.getElem_mem hi)
   generalize hxv : x.vers[i] = v at rG okv
   obtain ⟨pv,cv,rfl,gv⟩ := vs_open rG
   have hcw := gv.cap
   have hwl := okv.len
   refine .sk<|.tN<|.sq<|.bk<|.sr<|.yv (.indexSl Fx.sl89 Z Z (i := i) Z hi (q := oG + i * 1) Z) Z<|.yv (.loadM Z Fx.agg97 mG (k := 0) Z Z) Z<|.a Z Z<|.ns<|.al Fx.zero76 Z fun b15 => .nt<|.sq<|.sr<|.m Z Z<|.yv (.lenSl Fx.sl97 Z) Z<|.m Z Z<|?_
   refine Sx.row0 73 3 ?_
   refine .nt<|.bk<|.lp (X := Nat × Hp × Value × List Value) [(2,_),(3,_),(10,_),(15,_),(60,_),(61,_),(62,_),(91,_),(92,_),(93,_),(97,_),(98,_)] ⟨rfl,rfl,rfl,rfl,rfl,rfl,rfl,rfl,rfl,rfl,rfl,rfl,trivial⟩ [_,_,_,_,_,_,_] (fun z => [(99,.int .i64 (z.1 : Nat))]) (fun z => z.2.1) (fun z => [.row 73 3 z.2.2.1 z.1 z.2.2.2,.box b15 [z.2.2.1] 76]) (fun z => z.1 ≤ v.length ∧ HUp w Hb z.2.1 ∧ RepZ z.2.1 3 ((v.take z.1).map (dHd .u8)) z.2.2.2) (fun z => v.length - z.1) (0,Hb,.slice none 0 0,[]) (fun _ s => s) ⟨rfl,trivial⟩ ⟨by simp,.refl,RepZ.nil⟩ fun z hC => ?_
   obtain ⟨j,Hc,rh,zs⟩ := z
   dsimp only at hC ⊢
   obtain ⟨hj0,uc,hzh⟩ := hC
   refine .sr<|.yv (.lss Z Z) Z<|.nt<|.sq<|.cd Z (fun h100 => ?_) (fun h100 => ?_)
   ·try simp only [dt] at h100
    have hj : j < v.length := by omega
    obtain ⟨bI,oI,cI,hpI,rI,lI,mI⟩ := (gv.up uc.up).elem (map_at (f := dHd .i64) hj)
    cases hpI
    have okh := okv.all _ (List.getElem_mem hj)
    generalize hxh : v[j] = y at rI okh
    obtain ⟨t1,w1,t2,w2,rfl,ny,m1,m2⟩ := hd_open rI
    have hyl := okh.ps
    refine .sk<|.tN<|.sq<|.bk<|.sr<|.yv (.indexSl Fx.sl97 Z Z Z (by omega) (q := oI + j * 3) Z) Z<|.yv (.loadMW Z Fx.agg100 mI Z) Z<|.al Fx.zero100 Z fun b17 => .sW .head Z Z Fx.size100 (by simp [Value.oneCell',strV]) Z<|.nt<|?_
    refine Sx.row0 9 1 ?_
    refine .fl (trip := [(_,_,_),(_,_,_),(_,_,_),(_,_,_),(_,_,_),(_,_,_),(_,_,_),(_,_,_),(_,_,_),(_,_,_),(_,_,_),(_,_,_)]) 12 [(0,0),(1,0),(2,0),(3,0),(4,0),(5,0),(7,0),(8,0),(6,3),(9,1),(10,0),(11,1)] (by kernel_rfl) (by kernel_rfl) Z<|.yv (.fieldAddr Z Fx.field76_0) Z<|.yv (.load Z Fx.agg74 (.tail _<|.tail _<|.tail _<|.head _) Z) Z<|.yv (.fieldAddr Z Fx.field100_0) Z<|.yv (.load Z Fx.agg9 (.tail _<|.head _) Z) Z<|.yv (.fieldAddr Z Fx.field100_1) Z<|.yv (.load Z Fx.agg66 (.tail _<|.head _) Z) Z<|.yv (.fieldAddr Z Fx.field100_2) Z<|.yv (.load Z Fx.agg98 (.tail _<|.head _) Z) Z<|.apD0 Fx.row66 Z (fun _ _ => .head) Z m1 (by simp [maxLen];omega) (by omega) Z (fun _ _ => (.yv (.load Z Fx.agg98 (.tail _<|.head _) Z)<|.yv (.fieldAddr Z Fx.field100_2)<|.done (by kernel_rfl)<|.done (by kernel_rfl)<|.yv (.load Z Fx.agg9 (.tail _<|.head _) Z)<|.yv (.fieldAddr Z Fx.field100_0)<|.yv (.load Z Fx.agg74 (.tail _<|.tail _<|.tail _<|.head _) Z)<|.yv (.fieldAddr Z Fx.field76_0)<|.nl)) fun xs109 p109 c109 hz109 => .ct (X := Value) Fx.call27 Z (fun W t => bodyL_any N hN y.body okh.body Hc _ W m2 t.agr) Z fun y112 H112 hy112 u112 => ?_
    obtain ⟨pB,cB,eB,_⟩ := hy112.sl
    simp only [List.cons.injEq,and_true,List.length_map] at eB
    subst eB
    refine .yv (.build Z (Fx.bld73_0_1_2 _ _ _ _ _ _ _)) Z<|.bl Z (Fx.bsl74_1 _ _ _) Z fun b114 => .fn (tl := [_,_,_]) Z<|.ap (news := [strV y.nm,.slice p109 y.ps.length c109,.slice pB y.body.length cB]) Fx.row74 Z (fun _ => (.tail<|.tail<|.tail<|.head)) Z (.box (.head _) z0) Z (by simp [Value.oneCell',strV]) (by simp [maxLen];omega) (by omega) Z fun r115 _ => .ra (.tail _<|.tail _<|.tail _<|.head _) fun p115 c115 e115 => .yv (.fieldAddr Z Fx.field76_0) Z<|.st (.tail<|.tail<|.tail<|.tail<|.head) Z Z Fx.size74 (by rw [e115];rfl) (nb Z) Z<|?_
    refine At.pm [1,0,2,3,4,5,6,7,8,9,10,11] [_,_,_,_,_,_,_,_,_,_,_,_] rfl rfl ?_
    refine Sx.freezeSeq (ds := y.ps.map dStr) (by simp) (RepZ.up u112.up hz109) fun HP pP cP uP eP hP => ?_
    obtain ⟨rfl,rfl⟩ := sl_inj eP
    exact .nl<|.bN<|.tN<|.rg<|.yv (.add Z Z (w6 (by omega))) Z<|.m Z Z<|.nt<|.ag (x := (j,Hc,rh,zs)) (j + 1,HP,r115,zs ++ [strV y.nm,.slice p109 y.ps.length c109,.slice pB y.body.length cB]) ⟨rfl,trivial⟩ ⟨rfl,rfl,rfl,rfl,rfl,rfl,rfl,rfl,rfl,rfl,rfl,rfl,trivial⟩ (fun _ s => (s.pick [2,3,4,5,6,7,8,9,10] _ Z Z)) ⟨by dsimp only;omega,uc.trans (u112.trans uP),by dsimp only;rw [take_snoc hj,hxh,List.map_append];exact (hzh.up (u112.trans uP).up).snoc (hd_shut (x := y) ny hP (hy112.up uP.up)) Z⟩ (by dsimp only;omega)
   try simp only [df] at h100
   obtain rfl : j = v.length := by omega
   rw [List.take_length] at hzh
   refine Sx.freezeSeq (ds := v.map (dHd .u8)) (by simp) hzh fun HH pH cH uH eH hH => ?_
   subst eH
   have uh := uc.trans uH
   exact .ex<|.tE<|.tE<|.bE<|.tN<|.rg<|.yv (.fieldAddr Z Fx.field80_2) Z<|.yv (.load Z Fx.agg77 (.tail _<|.tail _<|.head _) Z) Z<|.yv (.loadW Z Fx.agg76 (.head _) Z) Z<|.bl Z (Fx.bsl77_1 _) Z fun b121 => .ap (news := [.slice pH v.length cH]) Fx.row77 Z (fun _ => (.tail<|.tail<|.head)) Z (.box (.head _) z0) Z (by simp [Value.oneCell',strV]) (by simp [maxLen];omega) (by omega) Z fun r122 _ => .ra (.tail _<|.tail _<|.head _) fun p122 c122 e122 => .yv (.fieldAddr Z Fx.field80_2) Z<|.st (.tail<|.tail<|.tail<|.head) Z Z Fx.size77 (by rw [e122];rfl) (nb Z) Z<|.nl<|.bN<|.tN<|.rg<|.yv (.add Z Z (w6 (by omega))) Z<|.m Z Z<|.nt<|.ag (x := (i,Hb,rs,ws)) (i + 1,HH,r122,ws ++ [.slice pH v.length cH]) ⟨rfl,trivial⟩ ⟨rfl,rfl,rfl,rfl,rfl,rfl,rfl,rfl,trivial⟩ (fun _ s => (s.pick [2,3,4,5,6,7,8] _ Z Z)) ⟨by dsimp only;omega,ub.trans uh,by dsimp only;rw [take_snoc hi,hxv,List.map_append];exact (hzs.up uh.up).snoc hH Z⟩ (by dsimp only;omega)
  try simp only [df] at h94
  obtain rfl : i = x.vers.length := by omega
  rw [List.take_length] at hzs
  refine Sx.freezeSeq (ds := x.vers.map (dVs .u8)) (by simp) hzs fun HS pS cS uS eS hS => ?_
  subst eS
  have uX := uV.trans (ub.trans uS)
  have hVX := hV.up (ub.trans uS).up
  exact .ex<|.tE<|.tE<|.bE<|.tN<|.rg<|.yv (.fieldAddr Z Fx.field40_3) Z<|.yv (.load Z Fx.agg38 (.tail _<|.tail _<|.tail _<|.head _) Z) Z<|.yv (.loadW Z Fx.agg80 (.head _) Z) Z<|.bl Z (Fx.bsl38_1 _ _ _) Z fun b128 => .ap (news := [strV x.nm,.slice pV x.vars.length cV,.slice pS x.vers.length cS]) Fx.row38 Z (fun _ => (.tail<|.tail<|.tail<|.head)) Z (.box (.head _) z0) Z (by simp [Value.oneCell',strV]) (by simp [maxLen];omega) (by omega) Z fun r129 _ => .ra (.tail _<|.tail _<|.tail _<|.head _) fun p129 c129 e129 => .yv (.fieldAddr Z Fx.field40_3) Z<|.st (.tail<|.tail<|.tail<|.tail<|.head) Z Z Fx.size38 (by rw [e129];rfl) (nb Z) Z<|.nl<|.bN<|.tN<|.rg<|.yv (.add Z Z (w6 (by omega))) Z<|.m Z Z<|.nt<|.ag (x := (k,Ha,rc,xs)) (k + 1,HS,r129,xs ++ [strV x.nm,.slice pV x.vars.length cV,.slice pS x.vers.length cS]) ⟨rfl,trivial⟩ ⟨rfl,rfl,rfl,rfl,trivial⟩ (fun _ s => (s.pick [3,4,5,6] _ Z Z)) ⟨by dsimp only;omega,ua.trans uX,by dsimp only;rw [take_snoc hk,hx,List.map_append];exact (hz.up uX.up).snoc (cp_shut (x := x) nx hVX hS) Z⟩ (by dsimp only;omega)
 try simp only [df] at h63
 obtain rfl : k = f.comps.length := by omega
 rw [List.take_length] at hz
 refine Sx.freezeSeq (ds := f.comps.map (dCp .u8)) (by simp) hz fun HZ pZ cZ uZ eZ hZ => ?_
 subst eZ
 refine .ex<|.tE<|.tE<|.bE<|.tN<|.sr<|.yv (.loadW Z Fx.agg40 (.head _) Z) Z<|.sW (.tail<|.head) Z Z Fx.size40 (by simp [Value.oneCell',strV]) Z<|.nt<|.rt<|?_
 exact Sx.ret1 (.inl rfl) rfl (.cell rfl Fx.agg40 (.tail _<|.head _) rfl) fun W t => ⟨_,HZ,ft_shut (x := f) nf (h45.up (ua.trans uZ).up) (h5.up (ua.trans uZ).up) hZ,rfl,(u4.trans (u5.trans (ua.trans uZ))).grow t⟩
theorem Fx.bool4 : isBool Tryz.prog 4 = Bool.true := by kernel_rfl
theorem Fx.call15 : callN Tryz.prog 15 = Bool.true := by kernel_rfl
end Go.Proofs.YtmbiojpcidccjaaGreatDoor
namespace Go.Proofs.YtmbiojpcidccjaaGreatDoor
open Go.RowKit Go.Par Go.Sx
open Go.RowKit Go.Par Go.Sx
open Go.RowKit Go.Par Go.Sx
open Go.RowKit Go.Par Go.Sx
end Go.Proofs.YtmbiojpcidccjaaGreatDoor
namespace Go.Proofs.YtmbiojpcidccjaaGreatDoor
open Go.RowKit Go.Par Go.Sx
theorem lkB_eq (x : Lk) : (!lkB x) = decide (x.lat.toInt < 1 ∨ 50 < x.lat.toInt) := by
 rw [Bool.eq_iff_iff];simp only [lkB,Bool.not_eq_true',Bool.and_eq_false_iff,decide_eq_false_iff_not,decide_eq_true_eq];omega
theorem frmV_eq (v : Vr) : (!frmV v) = decide (¬ ((v.ty.toNat = 1 ∧ v.init.toInt ≠ -9223372036854775808) ∨ (v.ty.toNat = 2 ∧ (v.init.toInt = 0 ∨ v.init.toInt = 1)) ∨ (v.ty.toNat = 3 ∧ v.init.toInt = 0))) := by
 have e1 : v.ty = 1 ↔ v.ty.toNat = 1 := ⟨fun e => by rw [e];rfl,fun e => UInt8.toNat_inj.1 e⟩
 have e2 : v.ty = 2 ↔ v.ty.toNat = 2 := ⟨fun e => by rw [e];rfl,fun e => UInt8.toNat_inj.1 e⟩
 have e3 : v.ty = 3 ↔ v.ty.toNat = 3 := ⟨fun e => by rw [e];rfl,fun e => UInt8.toNat_inj.1 e⟩
 unfold frmV
 rw [Bool.eq_iff_iff]
 by_cases h1 : v.ty.toNat = 1
 ·rw [if_pos (e1.2 h1)];simp only [Bool.not_eq_true',decide_eq_false_iff_not,decide_eq_true_eq];omega
 rw [if_neg (fun e => h1 (e1.1 e))]
 by_cases h2 : v.ty.toNat = 2
 ·rw [if_pos (e2.2 h2)];simp only [Bool.not_eq_true',decide_eq_false_iff_not,decide_eq_true_eq];omega
 rw [if_neg (fun e => h2 (e2.1 e))]
 by_cases h3 : v.ty.toNat = 3
 ·rw [if_pos (e3.2 h3)];simp only [Bool.not_eq_true',decide_eq_false_iff_not,decide_eq_true_eq];omega
 rw [if_neg (fun e => h3 (e3.1 e))]
 simp only [Bool.not_false,decide_eq_true_eq,true_iff];omega
theorem okS1_of {N : Nat} : ∀ s,okS2 N s = true → okS1 s = true
 | .mk _ _ _ ex _ _,h => by
  simp only [okS2,Bool.and_eq_true,List.all_eq_true] at h
  simp only [okS1,List.all_eq_true,decide_eq_true_eq]
  intro e he
  have := h.2 e he
  simp only [okE,Bool.and_eq_true,decide_eq_true_eq] at this
  omega
theorem evH_ok {N : Nat} (hN : N ≤ 1000000) {f : Ft} (h : okFt N f) : evH okH f = true := by
 simp only [evH,List.all_eq_true]
 intro c hc v hv x hx
 have k := ((h.all c hc).all v hv).all x hx
 have k1 := k.body.cnt
 have k2 := k.body.dep
 simp only [okH,Bool.and_eq_true,decide_eq_true_eq]
 exact ⟨⟨by omega,by omega⟩,salls_imp okS1_of _ k.body.all⟩
theorem LL : (∀ a b : Str,(a ++ b).length = a.length + b.length) ∧ (∀ (x : UInt8) (l : Str),(x :: l).length = l.length + 1) ∧ ([] : Str).length = 0 ∧ (∀ n p,(lineT n p).length = 2 * n + p.flatten.length + 1) ∧ (∀ (x : Str) (l : List Str),(x :: l).flatten = x ++ l.flatten) ∧ ([] : List Str).flatten = [] :=
 ⟨fun _ _ => List.length_append,fun _ _ => rfl,rfl,lineT_len,fun _ _ => rfl,rfl⟩
end Go.Proofs.YtmbiojpcidccjaaGreatDoor
namespace Go.Proofs.YtmbiojpcidccjaaGreatDoor
open Go.RowKit Go.Par Go.Sx
open Go.RowKit Go.Par Go.Sx
open Go.RowKit Go.Par Go.Sx
end Go.Proofs.YtmbiojpcidccjaaGreatDoor
namespace Go.Proofs.YtmbiojpcidccjaaGreatDoor
open Go.RowKit Go.Par Go.Sx
theorem boolT_len (q : Bool) : (boolT q).length ≤ 5 := by cases q <;> decide
def okVr (v : Vr) : Prop := (v.ty.toNat = 1 ∧ v.init.toInt ≠ -9223372036854775808) ∨ (v.ty.toNat = 2 ∧ (v.init.toInt = 0 ∨ v.init.toInt = 1)) ∨ (v.ty.toNat = 3 ∧ v.init.toInt = 0)
theorem vrT_eq {n : Nat} {v : Vr} (h : okVr v) : vrT n v = if v.ty.toNat = 3 then lineT n [[118,97,114,32],v.nm,[58,32,116,97,98,108,101,59]] else if v.ty.toNat = 2 then lineT n [[118,97,114,32],v.nm,[58,32,98,111,111,108,32,61,32],boolT (decide (v.init.toInt = 1)),[59]] else lineT n [[118,97,114,32],v.nm,[58,32,105,110,116,32,61,32],Lib.itoa v.init.toInt,[59]] := by
 have e1 : v.ty = 1 ↔ v.ty.toNat = 1 := ⟨fun e => by rw [e];rfl,fun e => UInt8.toNat_inj.1 e⟩
 have e2 : v.ty = 2 ↔ v.ty.toNat = 2 := ⟨fun e => by rw [e];rfl,fun e => UInt8.toNat_inj.1 e⟩
 have e3 : v.ty = 3 ↔ v.ty.toNat = 3 := ⟨fun e => by rw [e];rfl,fun e => UInt8.toNat_inj.1 e⟩
 unfold vrT
 rcases h with h | h | h
 ·rw [if_pos (e1.2 h.1),if_neg (by omega),if_neg (by omega)]
 ·rw [if_neg (fun e => by have := e1.1 e;omega),if_pos (e2.2 h.1),if_neg (by omega),if_pos h.1]
 ·rw [if_neg (fun e => by have := e1.1 e;omega),if_neg (fun e => by have := e2.1 e;omega),if_pos (e3.2 h.1),if_pos h.1]
theorem txt_len2 (op : UInt8) (nm : Str) (n : Int64) (ls : List (Nat × Str)) (A : Nat) (hA : 2 ≤ A) (hn : nm.length ≤ 12) (h : ∀ x ∈ ls,x.2.length ≤ A) : (txt op nm n ls).length ≤ 2 * A + 22 := by
 have hg : ∀ i,(ls.getD i (0,[])).2.length ≤ A := fun i => by
  rw [List.getD_eq_getElem?_getD]
  cases e : ls[i]? with
  | none => simp
  | some x => simpa using h x (List.mem_of_getElem? e)
 have h0 := hg 0
 have h1 := hg 1
 have ht := shape_tx op
 have hi := itoa_len n
 have o1 := opT_len (shapeOf op).lv (ls.getD 0 (0,[]))
 have o2 := opT_len (lftT (shapeOf op).lv) (ls.getD 0 (0,[]))
 have o3 := opT_len ((shapeOf op).lv + 1) (ls.getD 1 (0,[]))
 unfold txt
 split
 ·omega
 split
 ·simp only [List.length_append];omega
 split
 ·simp only [List.length_append,List.length_cons,List.length_nil];omega
 split
 ·simp only [List.length_append];omega
 split
 ·omega
 ·simp only [List.length_append];omega
theorem text_len2 (e : Ex) : ∀ d,e.depth ≤ d → Ex.all namE e = true → Ex.all frmE e = true → e.text.length + 22 ≤ 46 * 2 ^ d := by
 induction e using Ex.ind with | _ op nm n args ih
 intro d hd h1 h2
 rw [depth_mk] at hd
 rw [all_mk,Bool.and_eq_true] at h1 h2
 obtain ⟨d,rfl⟩ : ∃ k,d = k + 1 := ⟨d - 1,by omega⟩
 have hp : 0 < 2 ^ d := Nat.pow_pos (by omega)
 have h := txt_len2 op nm n (args.map fun e => ((shapeOf e.op).lv,Ex.text e)) (46 * 2 ^ d - 22) (by omega) (nm_len h1.1 h2.1) fun x hx => by
  obtain ⟨a,ha,rfl⟩ := List.mem_map.1 hx
  have := deeps_mem ha
  have := ih a ha d (by omega) (alls_mem ha h1.2) (alls_mem ha h2.2)
  dsimp only
  omega
 rw [text_mk,Nat.pow_succ]
 omega
theorem join_len {M : Nat} : ∀ (l : List Str),(∀ x ∈ l,x.length ≤ M) → (joinT l).length ≤ (M + 2) * l.length
 | [],_ => by simp [joinT,Lib.join_nil]
 | a :: r,h => by
  unfold joinT
  rw [Lib.join_cons,List.length_append,Lib.joinTail_length]
  have h1 := h a (.head _)
  have h2 : Lib.lens r ≤ M * r.length := by
   have h3 : ∀ x ∈ r,x.length ≤ M := fun x hx => h x (.tail _ hx)
   clear h h1
   induction r with
   | nil => simp [Lib.lens]
   | cons b t ih =>
    have h4 := h3 b (.head _)
    have h5 := ih fun x hx => h3 x (.tail _ hx)
    simp only [Lib.lens,List.map_cons,List.sum_cons,List.length_cons,Nat.mul_add] at h5 ⊢
    omega
  simp only [List.length_cons,List.length_nil,Nat.mul_add,Nat.add_mul]
  omega
theorem getD_len {es : List Str} {A : Nat} (h : ∀ x ∈ es,x.length ≤ A) (i : Nat) : (es.getD i []).length ≤ A := by
 rw [List.getD_eq_getElem?_getD]
 cases e : es[i]? with
 | none => simp
 | some x => simpa using h x (List.mem_of_getElem? e)
theorem stT_len (n : Nat) (kd : UInt8) (nm hd : Str) (es : List Str) (T : Str) (q : Bool) (E : Str) (A : Nat) (h1 : nm.length ≤ 12) (h2 : hd.length ≤ 12) (h3 : es.length ≤ 5) (h4 : ∀ x ∈ es,x.length ≤ A) : (stT n kd nm hd es T q E).length ≤ T.length + E.length + 6 * n + 6 * A + 200 := by
 have g0 := getD_len h4 0
 have g1 := getD_len h4 1
 have j1 := join_len es h4
 have j2 := join_len (es.drop 1) (fun x hx => h4 x (List.mem_of_mem_drop hx))
 rw [List.length_drop] at j2
 have j3 : (A + 2) * es.length ≤ (A + 2) * 5 := Nat.mul_le_mul_left _ h3
 have j4 : (A + 2) * (es.length - 1) ≤ (A + 2) * 5 := Nat.mul_le_mul_left _ (by omega)
 have j5 : (A + 2) * 5 = 5 * A + 10 := by omega
 unfold stT
 repeat' split
 all_goals (try unfold diskT)
 all_goals (try split)
 all_goals (simp only [LL];omega)
def gdS (s : Sm) : Bool := (smaS s && namS s) && frmS s
theorem frm_names {kd : UInt8} {nm hd : Str} {ex : List Ex} {th el : List Sm} (h1 : namS (.mk kd nm hd ex th el) = true) (h2 : frmS (.mk kd nm hd ex th el) = true) : nm.length ≤ 12 ∧ hd.length ≤ 12 := by
 simp only [namS,Bool.and_eq_true,Bool.or_eq_true,Bool.not_eq_true'] at h1
 simp only [frmS,Bool.and_eq_true,Bool.or_eq_true,decide_eq_true_eq] at h2
 obtain ⟨⟨⟨⟨_,k1⟩,k2⟩,_⟩,_⟩ := (⟨⟨⟨⟨h2.1.1.1.1.1.1,h2.1.1.1.1.2⟩,h2.1.1.1.2⟩,h2.1.1.2⟩,h2.2⟩ : ((((_ ∧ _) ∧ _) ∧ _) ∧ _))
 constructor
 ·rcases h1.1.1 with h | h
  ·rcases k1 with k | k
   ·rw [h] at k;cases k
   ·simp [k]
  ·exact name_len h
 ·rcases h1.1.2 with h | h
  ·rcases k2 with k | k
   ·rw [h] at k;cases k
   ·simp [k]
  ·exact name_len h
theorem texts_len : ∀ (l : List Sm) (n : Nat),Sm.alls gdS l = true → n + Sm.deeps l ≤ 100 → (Sm.texts n l).length ≤ 80000 * Sm.counts l := by
 refine Sm.lists fun l ih => ?_
 induction l with
 | nil => intro n _ _;simp [Sm.texts]
 | cons s t iht =>
  intro n hl hn
  obtain ⟨kd,nm,hd,ex,th,el⟩ := s
  have h0 := ih _ (.head _)
  simp only [Sm.th,Sm.el] at h0
  simp only [Sm.alls,sall_mk,Bool.and_eq_true] at hl
  obtain ⟨⟨⟨hg,h1⟩,h2⟩,h3⟩ := hl
  simp only [gdS,Bool.and_eq_true] at hg
  obtain ⟨⟨k1,k2⟩,k3⟩ := hg
  have hnm := frm_names k2 k3
  obtain ⟨_,_,k4,k5⟩ := frm_len k3
  have k6 := form_hi kd
  simp only [Sm.deeps,sdepth_mk] at hn
  have q1 := h0.1 (n + 1) h1 (by omega)
  have q2 := h0.2 (n + 1) h2 (by omega)
  have q3 := iht (fun x hx => ih x (.tail _ hx)) n h3 (by omega)
  have hE : ∀ x ∈ ex.map Ex.text,x.length ≤ 11754 := fun x hx => by
   obtain ⟨a,ha,rfl⟩ := List.mem_map.1 hx
   simp only [smaS,List.all_eq_true,decide_eq_true_eq] at k1
   simp only [namS,Bool.and_eq_true] at k2
   have := text_len2 a 8 (k1 a ha) (alls_mem ha k2.2) (alls_mem ha k5)
   omega
  have q4 := stT_len n kd nm hd (ex.map Ex.text) (Sm.texts (n + 1) th) (decide (el.length = 0)) (Sm.texts (n + 1) el) 11754 hnm.1 hnm.2 (by rw [List.length_map];omega) hE
  simp only [Sm.texts,stext_mk,List.length_append,Sm.counts,scount_mk]
  omega
theorem flat_len {α : Type} {g : α → Str} {M : Nat} : ∀ (l : List α),(∀ x ∈ l,(g x).length ≤ M) → ((l.map g).flatten).length ≤ M * l.length
 | [],_ => by simp
 | a :: r,h => by
  have h1 := h a (.head _)
  have h2 := flat_len r fun x hx => h x (.tail _ hx)
  simp only [List.map_cons,List.flatten_cons,List.length_append,List.length_cons,Nat.mul_add,Nat.mul_one]
  omega
theorem salls_gd {h : Hd} (h1 : smaH h = true) (h2 : namH h = true) (h3 : frmH h = true) : Sm.alls gdS h.body = true := by
 simp only [smaH,Bool.and_eq_true] at h1
 simp only [namH,Bool.and_eq_true] at h2
 exact salls_and _ (salls_and _ h1.2 h2.2) h3
theorem hdT_len {h : Hd} (n : Nat) (hn : n ≤ 10) (h1 : smaH h = true) (h2 : namH h = true) (h3 : frmH h = true) : (hdT n h).length ≤ 3300000 := by
 have hg := salls_gd h1 h2 h3
 simp only [smaH,Bool.and_eq_true,Bool.not_eq_true',Bool.or_eq_false_iff,decide_eq_false_iff_not] at h1
 simp only [namH,Bool.and_eq_true,List.all_eq_true] at h2
 have k1 := name_len h2.1.1
 have k2 := join_len h.ps (fun x hx => name_len (h2.1.2 x hx))
 have k3 := texts_len h.body (n + 1) hg (by omega)
 have k4 : 80000 * Sm.counts h.body ≤ 80000 * 40 := Nat.mul_le_mul_left _ (by omega)
 have k5 : (12 + 2) * h.ps.length ≤ (12 + 2) * 4 := Nat.mul_le_mul_left _ (by omega)
 simp only [hdT,List.length_append,lineT_len,List.flatten_cons,List.flatten_nil,List.length_nil,List.length_cons]
 omega
theorem hdsT_len {N : Nat} {v : List Hd} (n : Nat) (hn : n ≤ 10) (hN : v.length ≤ N) (h1 : v.all smaH = true) (h2 : v.all namH = true) (h3 : v.all frmH = true) : (hdsT n v).length ≤ 3300000 * N :=
 Nat.le_trans (flat_len v fun x hx => hdT_len n hn (List.all_eq_true.1 h1 x hx) (List.all_eq_true.1 h2 x hx) (List.all_eq_true.1 h3 x hx)) (Nat.mul_le_mul_left _ hN)
theorem vssT_len {N : Nat} : ∀ (l : List (List Hd)) (i : Nat),i + l.length ≤ 1000 → (∀ v ∈ l,v.length ≤ N ∧ v.all smaH = true ∧ v.all namH = true ∧ v.all frmH = true) → (vssT 2 i l).length ≤ (3300000 * N + 200) * l.length
 | [],_,_,_ => by simp [vssT]
 | v :: r,i,hi,h => by
  obtain ⟨k0,k1,k2,k3⟩ := h v (.head _)
  simp only [List.length_cons] at hi
  have h2 := vssT_len r (i + 1) (by omega) fun x hx => h x (.tail _ hx)
  have h3 : (vsT 2 i v).length ≤ 3300000 * N + 200 := by
   have a1 := hdsT_len (N := N) 2 (by omega) k0 k1 k2 k3
   have a2 := hdsT_len (N := N) 3 (by omega) k0 k1 k2 k3
   have a3 := Lib.itoa_length_le ((i + 1 : Nat) : Int) (by omega) (by omega)
   unfold vsT
   split
   ·omega
   ·simp only [show (2 : Nat) + 1 = 3 from rfl,List.length_append,lineT_len,List.flatten_cons,List.flatten_nil,List.length_nil,List.length_cons]
    omega
  simp only [vssT,List.length_append,List.length_cons,Nat.mul_add,Nat.mul_one]
  omega
theorem frm_okVr {v : Vr} (h : frmV v = true) : okVr v := by
 have h2 := frmV_eq v
 rw [h] at h2
 unfold okVr
 exact Decidable.not_not.1 (of_decide_eq_false h2.symm)
theorem vrT_len {v : Vr} (h1 : nameB v.nm = true) (h2 : frmV v = true) : (vrT 2 v).length ≤ 100 := by
 have k1 := name_len h1
 have k2 := itoa_len v.init
 have k3 := boolT_len (decide (v.init.toInt = 1))
 rw [vrT_eq (frm_okVr h2)]
 split
 ·simp only [LL];omega
 split
 ·simp only [LL];omega
 ·simp only [LL];omega
theorem check_parts {f : Ft} (h : checkF f = 0) : smlF f = true ∧ namF f = true ∧ frmF f = true := by
 unfold checkF at h
 split at h
 ·cases h
 split at h
 ·cases h
 split at h
 ·cases h
 rename_i h1 h2 h3
 exact ⟨by simpa using h1,by simpa using h2,by simpa using h3⟩
theorem ftT_len {f : Ft} (hok : okFt 50000 f) (h : checkF f = 0) : (ftT f).length ≤ 10000000000000 := by
 obtain ⟨h1,h2,h3⟩ := check_parts h
 simp only [smlF,limF,namF,frmF,Bool.and_eq_true,decide_eq_true_eq,List.all_eq_true] at h1 h2 h3
 have k1 := h1.2.2
 have k2 := h2.2
 have k3 := h3.2
 rw [evH_eq] at k1 k2 k3
 simp only [cpAll,List.all_eq_true] at k1 k2 k3
 have n0 := name_len h2.1.1.1.1
 have n1 := flat_len (g := fgT) (M := 100) f.flags fun x hx => by
  have := name_len (h2.1.1.1.2 x hx)
  have := boolT_len x.init
  simp only [fgT,lineT_len,List.flatten_cons,List.flatten_nil,List.length_append,List.length_nil,List.length_cons];omega
 have n2 := flat_len (g := lkT) (M := 200) f.links fun x hx => by
  have a := h2.1.1.2 x hx
  have a1 := name_len a.1
  have a2 := name_len a.2
  have := itoa_len x.lat
  simp only [lkT,lineT_len,List.flatten_cons,List.flatten_nil,List.length_append,List.length_nil,List.length_cons];omega
 have n3 := flat_len (g := cpT) (M := 500000000000) f.comps fun c hc => by
  have a := h2.1.2 c hc
  have a1 := name_len a.1
  have b := h1.2.1 c hc
  simp only [smlC,Bool.and_eq_true,decide_eq_true_eq] at b
  have a2 := flat_len (g := vrT 2) (M := 100) c.vars fun v hv => vrT_len (a.2 v hv) (h3.1.2 c hc v hv)
  have a3 := vssT_len (N := 50000) c.vers 0 (by omega) fun v hv => ⟨((hok.all c hc).all v hv).len,List.all_eq_true.2 (k1 c hc v hv),List.all_eq_true.2 (k2 c hc v hv),List.all_eq_true.2 (k3 c hc v hv)⟩
  simp only [cpT,lineT_len,List.flatten_cons,List.flatten_nil,List.length_append,List.length_nil,List.length_cons];omega
 simp only [ftT,lineT_len,List.flatten_cons,List.flatten_nil,List.length_append,List.length_nil,List.length_cons]
 omega
end Go.Proofs.YtmbiojpcidccjaaGreatDoor
namespace Go.Proofs.YtmbiojpcidccjaaGreatDoor
inductive Rs (α : Type) where
 | ok (a : α) (r : List Tk)
 | er (r : List Tk) (code : Nat)
def Rs.bind {α β : Type} (x : Rs α) (f : α → List Tk → Rs β) : Rs β := match x with | .ok a r => f a r | .er r c => .er r c
def isT (w : Str) : List Tk → Bool
 | [] => false
 | t :: _ => (t.k == 2 || t.k == 4) && decide (t.t = w)
def needT {α : Type} (w : Str) (r : List Tk) (f : List Tk → Rs α) : Rs α := if isT w r then f r.tail else .er r 8
def nameT {α : Type} (r : List Tk) (f : Str → List Tk → Rs α) : Rs α := match r with | [] => .er r 8 | t :: q => if t.k = 1 then f t.t q else .er r 8
def numV (s : Str) : Nat := s.foldl (fun v c => 10 * v + (c.toNat - 48)) 0
def opsL : Nat → List (Str × UInt8)
 | 0 => [([111,114],23)]
 | 1 => [([97,110,100],22)]
 | 2 => [([61,61],16),([33,61],17),([60],18),([60,61],19),([62],20),([62,61],21)]
 | 3 => [([43],14),([45],15)]
 | _ => [([42],11),([47],12),([37],13)]
def opAt (lv : Nat) (r : List Tk) : Option UInt8 := ((opsL lv).find? fun x => isT x.1 r).map (·.2)
inductive Md where
 | ex (lv : Nat)
 | lp (lv : Nat) (a : Ex)
def opE (op : UInt8) (l : List Ex) : Ex := .mk op [] 0 l
def primE (rec : List Tk → Rs Ex) (r : List Tk) : Rs Ex :=
 match r with
 | [] => .er r 8
 | t :: q =>
  if t.k = 3 then (if numV t.t ≤ 9223372036854775807 then .ok (.mk 1 [] (Int64.ofNat (numV t.t)) []) q else .er r 2)
  else if isT [116,114,117,101] r then .ok (opE 2 []) q
  else if isT [102,97,108,115,101] r then .ok (opE 3 []) q
  else if isT [110,111,119] r then .ok (opE 4 []) q
  else if isT [115,105,122,101] r then nameT q fun s r2 => .ok (.mk 8 s 0 []) r2
  else if isT [40] r then (rec q).bind fun x r2 => needT [41] r2 fun r3 => .ok x r3
  else if isT [104,97,115] r then nameT q fun s r2 => needT [91] r2 fun r3 => (rec r3).bind fun x r4 => needT [93] r4 fun r5 => .ok (.mk 7 s 0 [x]) r5
  else if t.k = 1 then (if isT [91] q then (rec q.tail).bind fun x r4 => needT [93] r4 fun r5 => .ok (.mk 6 t.t 0 [x]) r5 else .ok (.mk 5 t.t 0 []) q)
  else .er r 8
def pE : Nat → Md → List Tk → Rs Ex
 | 0,_,r => .er r 99
 | f + 1,.ex lv,r =>
  if lv < 5 then (pE f (.ex (lv + 1)) r).bind fun a r1 => pE f (.lp lv a) r1
  else if isT [45] r then (pE f (.ex 5) r.tail).bind fun x r2 => .ok (opE 9 [x]) r2
  else if isT [110,111,116] r then (pE f (.ex 5) r.tail).bind fun x r2 => .ok (opE 10 [x]) r2
  else primE (pE f (.ex 0)) r
 | f + 1,.lp lv a,r =>
  match opAt lv r with
  | none => .ok a r
  | some op => (pE f (.ex (lv + 1)) r.tail).bind fun b r2 => if lv = 2 then .ok (opE op [a,b]) r2 else pE f (.lp lv (opE op [a,b])) r2
/-! ### Enough fuel -/
theorem ifC {α : Type} {c : Prop} [Decidable c] {x y u v : α} (h1 : x = u) (h2 : y = v) : (if c then x else y) = (if c then u else v) := by rw [h1,h2]
theorem ifI {α : Type} {c d : Prop} [Decidable c] [Decidable d] {x y : α} (h : c ↔ d) : (if c then x else y) = (if d then x else y) := by
 by_cases e : c
 ·rw [if_pos e,if_pos (h.1 e)]
 ·rw [if_neg e,if_neg (fun k => e (h.2 k))]
theorem isT_ne {w : Str} {r : List Tk} (h : isT w r = true) : r.length = r.tail.length + 1 := by cases r with | nil => cases h | cons t q => rfl
theorem opAt_ne {lv : Nat} {r : List Tk} {op : UInt8} (h : opAt lv r = some op) : r.length = r.tail.length + 1 := by
 unfold opAt at h
 obtain ⟨x,hx,_⟩ := Option.map_eq_some_iff.1 h
 exact isT_ne (w := x.1) (by have := List.find?_some hx;exact this)
theorem Rs.bind_ok {α β : Type} {x : Rs α} {f : α → List Tk → Rs β} {b : β} {r : List Tk} (h : x.bind f = .ok b r) : ∃ a q,x = .ok a q ∧ f a q = .ok b r := by
 cases x with
 | ok a q => exact ⟨a,q,rfl,h⟩
 | er q c => cases h
theorem needT_ok {α : Type} {w : Str} {r : List Tk} {f : List Tk → Rs α} {a : α} {q : List Tk} (h : needT w r f = .ok a q) : isT w r = true ∧ f r.tail = .ok a q := by
 unfold needT at h
 split at h
 ·rename_i e;exact ⟨e,h⟩
 ·cases h
theorem nameT_ok {α : Type} {r : List Tk} {f : Str → List Tk → Rs α} {a : α} {q : List Tk} (h : nameT r f = .ok a q) : ∃ t r',r = t :: r' ∧ t.k = 1 ∧ f t.t r' = .ok a q := by
 unfold nameT at h
 cases r with
 | nil => cases h
 | cons t r' =>
  by_cases e : t.k = 1
  ·simp only [e,if_true] at h;exact ⟨t,r',rfl,e,h⟩
  ·simp only [e,if_false] at h;cases h
theorem primE_len {rec : List Tk → Rs Ex} (hr : ∀ q a r',rec q = .ok a r' → r'.length ≤ q.length) {r : List Tk} {a : Ex} {r' : List Tk} (h : primE rec r = .ok a r') : r'.length < r.length := by
 unfold primE at h
 cases r with
 | nil => cases h
 | cons t q =>
  simp only at h
  have fin : ∀ {b : Ex} {l : List Tk},(Rs.ok b l : Rs Ex) = .ok a r' → l.length ≤ q.length → r'.length < (t :: q).length := by
   intro b l e hl;injection e with _ e;subst e;simp;omega
  split at h
  ·split at h
   ·exact fin h (Nat.le_refl _)
   ·cases h
  split at h
  ·exact fin h (Nat.le_refl _)
  split at h
  ·exact fin h (Nat.le_refl _)
  split at h
  ·exact fin h (Nat.le_refl _)
  split at h
  ·obtain ⟨t2,r2,rfl,_,h⟩ := nameT_ok h
   exact fin h (by simp)
  split at h
  ·obtain ⟨x,r2,h1,h⟩ := Rs.bind_ok h
   obtain ⟨h2,h⟩ := needT_ok h
   have := hr _ _ _ h1
   have := isT_ne h2
   exact fin h (by omega)
  split at h
  ·obtain ⟨t2,r2,rfl,_,h⟩ := nameT_ok h
   obtain ⟨h2,h⟩ := needT_ok h
   obtain ⟨x,r4,h1,h⟩ := Rs.bind_ok h
   obtain ⟨h3,h⟩ := needT_ok h
   have := hr _ _ _ h1
   have := isT_ne h2
   have := isT_ne h3
   exact fin h (by simp;omega)
  split at h
  ·split at h
   ·rename_i h2
    obtain ⟨x,r4,h1,h⟩ := Rs.bind_ok h
    obtain ⟨h3,h⟩ := needT_ok h
    have := hr _ _ _ h1
    have := isT_ne h2
    have := isT_ne h3
    exact fin h (by omega)
   ·exact fin h (Nat.le_refl _)
  ·cases h
theorem pE_len : ∀ (f : Nat),(∀ lv r a r',pE f (.ex lv) r = .ok a r' → r'.length < r.length) ∧ (∀ lv x r a r',pE f (.lp lv x) r = .ok a r' → r'.length ≤ r.length)
 | 0 => ⟨fun _ _ _ _ h => (by cases h),fun _ _ _ _ _ h => (by cases h)⟩
 | f + 1 => by
  obtain ⟨ih1,ih2⟩ := pE_len f
  refine ⟨fun lv r a r' h => ?_,fun lv x r a r' h => ?_⟩
  ·unfold pE at h
   split at h
   ·obtain ⟨b,q,h1,h2⟩ := Rs.bind_ok h
    have := ih1 _ _ _ _ h1
    have := ih2 _ _ _ _ _ h2
    omega
   split at h
   ·rename_i e
    obtain ⟨b,q,h1,h2⟩ := Rs.bind_ok h
    have := ih1 _ _ _ _ h1
    have := isT_ne e
    injection h2 with _ e2;subst e2;omega
   split at h
   ·rename_i e
    obtain ⟨b,q,h1,h2⟩ := Rs.bind_ok h
    have := ih1 _ _ _ _ h1
    have := isT_ne e
    injection h2 with _ e2;subst e2;omega
   ·exact primE_len (fun q b r2 e => Nat.le_of_lt (ih1 _ _ _ _ e)) h
  ·unfold pE at h
   split at h
   ·injection h with _ e;subst e;exact Nat.le_refl _
   ·rename_i op e
    obtain ⟨b,q,h1,h2⟩ := Rs.bind_ok h
    have := ih1 _ _ _ _ h1
    have := opAt_ne e
    split at h2
    ·injection h2 with _ e2;subst e2;omega
    ·have := ih2 _ _ _ _ _ h2
     omega
theorem Rs.bind_congr {α β : Type} {x y : Rs α} {f g : α → List Tk → Rs β} (h : x = y) (k : ∀ a r,x = .ok a r → f a r = g a r) : x.bind f = y.bind g := by
 subst h
 cases x with
 | ok a r => exact k a r rfl
 | er r c => rfl
theorem primE_congr {rec rec' : List Tk → Rs Ex} {r : List Tk} (h : ∀ q,q.length < r.length → rec q = rec' q) : primE rec r = primE rec' r := by
 unfold primE
 cases r with
 | nil => rfl
 | cons t q =>
  have hb : ∀ (z : List Tk) (g : Ex → List Tk → Rs Ex),z.length ≤ q.length → (rec z).bind g = (rec' z).bind g := fun z g hz => by rw [h z (by simp;omega)]
  have ht : ∀ z : List Tk,z.tail.length ≤ z.length := fun z => by simp
  simp only
  rw [hb q _ (Nat.le_refl _),hb q.tail _ (ht q)]
  refine ifC rfl (ifC rfl (ifC rfl (ifC rfl (ifC rfl (ifC rfl (ifC ?_ rfl))))))
  unfold nameT
  cases q with
  | nil => rfl
  | cons t2 r2 =>
   simp only
   refine ifC ?_ rfl
   unfold needT
   refine ifC ?_ rfl
   exact hb _ _ (by simp;omega)
def fuelE : Md → List Tk → Nat
 | .ex lv,r => 16 * r.length + 9 - lv
 | .lp _ _,r => 16 * r.length + 9
theorem pE_ex (f lv : Nat) (r : List Tk) : pE (f + 1) (.ex lv) r = if lv < 5 then (pE f (.ex (lv + 1)) r).bind fun a r1 => pE f (.lp lv a) r1
 else if isT [45] r then (pE f (.ex 5) r.tail).bind fun x r2 => .ok (opE 9 [x]) r2
 else if isT [110,111,116] r then (pE f (.ex 5) r.tail).bind fun x r2 => .ok (opE 10 [x]) r2
 else primE (pE f (.ex 0)) r := by rw [pE]
theorem pE_lp (f lv : Nat) (a : Ex) (r : List Tk) : pE (f + 1) (.lp lv a) r = match opAt lv r with
 | none => .ok a r
 | some op => (pE f (.ex (lv + 1)) r.tail).bind fun b r2 => if lv = 2 then .ok (opE op [a,b]) r2 else pE f (.lp lv (opE op [a,b])) r2 := by rw [pE]
theorem pE_fuel : ∀ (f : Nat),(∀ lv r,lv ≤ 5 → fuelE (.ex lv) r ≤ f → pE (f + 1) (.ex lv) r = pE f (.ex lv) r) ∧ (∀ lv x r,lv ≤ 4 → fuelE (.lp lv x) r ≤ f → pE (f + 1) (.lp lv x) r = pE f (.lp lv x) r)
 | 0 => ⟨fun lv r h1 h => by simp only [fuelE] at h;omega,fun lv x r h1 h => by simp only [fuelE] at h;omega⟩
 | f + 1 => by
  obtain ⟨ih1,ih2⟩ := pE_fuel f
  simp only [fuelE] at ih1 ih2 ⊢
  refine ⟨fun lv r h5 h => ?_,fun lv x r h4 h => ?_⟩
  ·rw [pE_ex (f + 1) lv r,pE_ex f lv r]
   by_cases hlv : lv < 5
   ·rw [if_pos hlv,if_pos hlv]
    refine Rs.bind_congr (ih1 _ _ (by omega) (by omega)) fun a q e => ?_
    have := (pE_len (f + 1)).1 _ _ _ _ e
    exact ih2 _ _ _ (by omega) (by omega)
   rw [if_neg hlv,if_neg hlv]
   by_cases e : isT [45] r = true
   ·have := isT_ne e
    rw [if_pos e,if_pos e]
    exact Rs.bind_congr (ih1 _ _ (by omega) (by omega)) fun _ _ _ => rfl
   rw [if_neg e,if_neg e]
   by_cases e : isT [110,111,116] r = true
   ·have := isT_ne e
    rw [if_pos e,if_pos e]
    exact Rs.bind_congr (ih1 _ _ (by omega) (by omega)) fun _ _ _ => rfl
   rw [if_neg e,if_neg e]
   exact primE_congr fun q hq => ih1 _ _ (by omega) (by omega)
  ·rw [pE_lp (f + 1) lv x r,pE_lp f lv x r]
   cases e : opAt lv r with
   | none => rfl
   | some op =>
    simp only
    have := opAt_ne e
    refine Rs.bind_congr (ih1 _ _ (by omega) (by omega)) fun a q e => ?_
    have := (pE_len (f + 1)).1 _ _ _ _ e
    refine ifC rfl ?_
    exact ih2 _ _ _ (by omega) (by omega)
theorem pE_more {f g lv : Nat} {r : List Tk} (h5 : lv ≤ 5) (h : fuelE (.ex lv) r ≤ f) (hg : f ≤ g) : pE g (.ex lv) r = pE f (.ex lv) r := by
 induction g with
 | zero => have : f = 0 := by omega
           rw [this]
 | succ g ih =>
  by_cases e : f = g + 1
  ·rw [e]
  ·rw [(pE_fuel g).1 lv r h5 (by omega)];exact ih (by omega)
theorem pE_morel {f g lv : Nat} {a : Ex} {r : List Tk} (h5 : lv ≤ 4) (h : fuelE (.lp lv a) r ≤ f) (hg : f ≤ g) : pE g (.lp lv a) r = pE f (.lp lv a) r := by
 induction g with
 | zero => have : f = 0 := by omega
           rw [this]
 | succ g ih =>
  by_cases e : f = g + 1
  ·rw [e]
  ·rw [(pE_fuel g).2 lv a r h5 (by omega)];exact ih (by omega)
def pX (lv : Nat) (r : List Tk) : Rs Ex := pE (16 * r.length + 9) (.ex lv) r
def pL (lv : Nat) (a : Ex) (r : List Tk) : Rs Ex := pE (16 * r.length + 9) (.lp lv a) r
theorem pX_of {f lv : Nat} {r : List Tk} (h5 : lv ≤ 5) (h : fuelE (.ex lv) r ≤ f) : pE f (.ex lv) r = pX lv r := by
 unfold pX
 rcases Nat.le_total f (16 * r.length + 9) with h1 | h1
 ·rw [pE_more h5 h h1]
 ·rw [pE_more h5 (by simp only [fuelE];omega) h1]
theorem pL_of {f lv : Nat} {a : Ex} {r : List Tk} (h5 : lv ≤ 4) (h : fuelE (.lp lv a) r ≤ f) : pE f (.lp lv a) r = pL lv a r := by
 unfold pL
 rcases Nat.le_total f (16 * r.length + 9) with h1 | h1
 ·rw [pE_morel h5 h h1]
 ·rw [pE_morel h5 (by simp only [fuelE];omega) h1]
theorem pX_low {lv : Nat} {r : List Tk} (h : lv < 5) : pX lv r = (pX (lv + 1) r).bind fun a q => pL lv a q := by
 conv => lhs;unfold pX
 rw [show 16 * r.length + 9 = (16 * r.length + 8) + 1 by omega,pE_ex,if_pos h]
 refine Rs.bind_congr (pX_of (by omega) (by simp only [fuelE];omega)) fun a q e => ?_
 have := (pE_len _).1 _ _ _ _ e
 exact pL_of (by omega) (by simp only [fuelE];omega)
theorem pX_un {r : List Tk} : pX 5 r = if isT [45] r then (pX 5 r.tail).bind fun x r2 => .ok (opE 9 [x]) r2 else if isT [110,111,116] r then (pX 5 r.tail).bind fun x r2 => .ok (opE 10 [x]) r2 else primE (pX 0) r := by
 conv => lhs;unfold pX
 rw [show 16 * r.length + 9 = (16 * r.length + 8) + 1 by omega,pE_ex,if_neg (by omega)]
 by_cases e : isT [45] r = true
 ·have := isT_ne e
  rw [if_pos e,if_pos e]
  exact Rs.bind_congr (pX_of (by omega) (by simp only [fuelE];omega)) fun _ _ _ => rfl
 rw [if_neg e,if_neg e]
 by_cases e : isT [110,111,116] r = true
 ·have := isT_ne e
  rw [if_pos e,if_pos e]
  exact Rs.bind_congr (pX_of (by omega) (by simp only [fuelE];omega)) fun _ _ _ => rfl
 rw [if_neg e,if_neg e]
 exact primE_congr fun q hq => pX_of (by omega) (by simp only [fuelE];omega)
theorem pL_none {lv : Nat} {a : Ex} {r : List Tk} (h : opAt lv r = none) : pL lv a r = .ok a r := by
 unfold pL
 rw [show 16 * r.length + 9 = (16 * r.length + 8) + 1 by omega,pE_lp]
 rw [h]
theorem pL_some {lv : Nat} {a : Ex} {r : List Tk} {op : UInt8} (hl : lv ≤ 4) (h : opAt lv r = some op) : pL lv a r = (pX (lv + 1) r.tail).bind fun b r2 => if lv = 2 then .ok (opE op [a,b]) r2 else pL lv (opE op [a,b]) r2 := by
 conv => lhs;unfold pL
 rw [show 16 * r.length + 9 = (16 * r.length + 8) + 1 by omega,pE_lp]
 rw [h]
 have := opAt_ne h
 refine Rs.bind_congr (pX_of (by omega) (by simp only [fuelE];omega)) fun b q e => ?_
 have := (pE_len _).1 _ _ _ _ e
 refine ifC rfl ?_
 exact pL_of hl (by simp only [fuelE];omega)
end Go.Proofs.YtmbiojpcidccjaaGreatDoor
namespace Go.Plain
open Go.Lib

theorem digits_more (x : Nat) (h : ¬ x < 10) : decDigits x = decDigits (x / 10) ++ [UInt8.ofNat (48 + x % 10)] := by
 rw [decDigits,dif_neg h]
theorem digit_nat (d : Nat) (h : d < 10) : (UInt8.ofNat (48 + d)).toNat = 48 + d := by
 rw [UInt8.toNat_ofNat'];omega
theorem digits_are : ∀ (u : Nat) (c : UInt8),c ∈ decDigits u → 48 ≤ c.toNat ∧ c.toNat ≤ 57 := by
 intro u
 induction u using Nat.strongRecOn with
 | _ u ih =>
  intro c hc
  by_cases h : u < 10
  ·rw [decDigits_one h] at hc
   obtain rfl := List.mem_singleton.1 hc
   rw [digit_nat u h];omega
  ·rw [digits_more u h] at hc
   rcases List.mem_append.1 hc with hc | hc
   ·exact ih (u / 10) (by omega) c hc
   ·obtain rfl := List.mem_singleton.1 hc
    rw [digit_nat (u % 10) (by omega)];omega
end Go.Plain
namespace Go.Proofs.YtmbiojpcidccjaaGreatDoor
abbrev Kt := UInt8 × Str
def kt (t : Tk) : Kt := (t.k,t.t)
def isK (w : Str) (x : Kt) : Bool := (x.1 == 2 || x.1 == 4) && decide (x.2 = w)
def opK (lv : Nat) (x : Kt) : Option UInt8 := ((opsL lv).find? fun y => isK y.1 x).map (·.2)
theorem isT_cons (w : Str) (t : Tk) (r : List Tk) : isT w (t :: r) = isK w (kt t) := rfl
theorem opAt_cons (lv : Nat) (t : Tk) (r : List Tk) : opAt lv (t :: r) = opK lv (kt t) := rfl
def parK (n lv : Nat) (l : List Kt) : List Kt := if lv < n then (4,[40]) :: (l ++ [(4,[41])]) else l
def symK (op : UInt8) : Kt := (if op = 22 ∨ op = 23 then 2 else 4,((shapeOf op).tx.drop 1).dropLast)
def ktx (op : UInt8) (nm : Str) (n : Int64) (ls : List (Nat × List Kt)) : List Kt :=
 if op = 1 then [(3,Lib.itoa n.toInt)]
 else if op = 5 then [(1,nm)]
 else if op = 8 then [(2,[115,105,122,101]),(1,nm)]
 else if op = 6 then (1,nm) :: (4,[91]) :: ((ls.getD 0 (0,[])).2 ++ [(4,[93])])
 else if op = 7 then (2,[104,97,115]) :: (1,nm) :: (4,[91]) :: ((ls.getD 0 (0,[])).2 ++ [(4,[93])])
 else if op = 9 then (4,[45]) :: parK 6 (ls.getD 0 (0,[])).1 (ls.getD 0 (0,[])).2
 else if op = 10 then (2,[110,111,116]) :: parK 6 (ls.getD 0 (0,[])).1 (ls.getD 0 (0,[])).2
 else if (shapeOf op).n = 0 then [(2,(shapeOf op).tx)]
 else parK (lftT (shapeOf op).lv) (ls.getD 0 (0,[])).1 (ls.getD 0 (0,[])).2 ++ symK op :: parK ((shapeOf op).lv + 1) (ls.getD 1 (0,[])).1 (ls.getD 1 (0,[])).2
mutual
def ktE : Ex → List Kt
 | .mk op nm n args => ktx op nm n (ktEs args)
def ktEs : List Ex → List (Nat × List Kt)
 | [] => []
 | e :: r => ((shapeOf e.op).lv,ktE e) :: ktEs r
end
def Ex.lv (e : Ex) : Nat := (shapeOf e.op).lv
def Stp (j : Nat) (r : List Tk) : Prop := (∀ i,j ≤ i → i ≤ 4 → opAt i r = none) ∧ isT [91] r = false
theorem Stp.up {i j : Nat} {r : List Tk} (h : Stp i r) (hij : i ≤ j) : Stp j r := ⟨fun k h1 h2 => h.1 k (by omega) h2,h.2⟩
theorem Stp.of {j : Nat} {t : Tk} {r : List Tk} (h : ∀ i ∈ List.range 5,j ≤ i → opK i (kt t) = none) (h2 : isK [91] (kt t) = false) : Stp j (t :: r) :=
 ⟨fun i h1 h3 => h i (List.mem_range.2 (by omega)) h1,h2⟩
theorem pX_up {l : List Tk} {a : Ex} {r : List Tk} : ∀ (d lv j : Nat),j = lv + 1 + d → j ≤ 5 → pX j l = .ok a r → Stp (lv + 1) r → pX lv l = pL lv a r
 | 0,lv,j,e,hj,h,_ => by
  rw [pX_low (by omega),show lv + 1 = j by omega,h];rfl
 | d + 1,lv,j,e,hj,h,hs => by
  have := pX_up d (lv + 1) j (by omega) hj h (hs.up (by omega))
  rw [pX_low (by omega),this,pL_none (hs.1 _ (Nat.le_refl _) (by omega))];rfl
def Rd (e : Ex) : Prop := ∀ le r,le.map kt = ktE e → (∀ lv,lv ≤ 4 → lv + 1 ≤ e.lv → Stp (lv + 1) r → pX lv (le ++ r) = if lv = 2 ∧ e.lv = 3 then .ok e r else pL lv e r) ∧ (6 ≤ e.lv → isT [91] r = false → pX 5 (le ++ r) = .ok e r)
theorem Rd.full {e : Ex} (h : Rd e) {le r : List Tk} (hk : le.map kt = ktE e) {lv : Nat} (h5 : lv ≤ 5) (hl : lv + 1 ≤ e.lv) (hs : Stp lv r) : pX lv (le ++ r) = .ok e r := by
 by_cases e5 : lv = 5
 ·subst e5;exact (h le r hk).2 hl hs.2
 ·rw [(h le r hk).1 lv (by omega) hl (hs.up (by omega)),pL_none (hs.1 lv (Nat.le_refl _) (by omega))]
  split <;> rfl
theorem Rd.of {e : Ex} (h6 : 6 ≤ e.lv) (h : ∀ le r,le.map kt = ktE e → isT [91] r = false → pX 5 (le ++ r) = .ok e r) : Rd e := fun le r hk => by
 refine ⟨fun lv hl h1 hs => ?_,fun _ => h le r hk⟩
 rw [if_neg (by omega)]
 exact pX_up (4 - lv) lv 5 (by omega) (by omega) (h le r hk hs.2) hs
theorem Rd.par {e : Ex} (h : Rd e) (h1 : 1 ≤ e.lv) {le r : List Tk} (hk : le.map kt = (4,[40]) :: (ktE e ++ [(4,[41])])) : pX 5 (le ++ r) = .ok e r := by
 obtain ⟨t,l1,rfl,ht,hk⟩ := List.map_eq_cons_iff.1 hk
 obtain ⟨l2,l3,rfl,h2,h3⟩ := List.map_eq_append_iff.1 hk
 obtain ⟨t2,l4,rfl,ht2,h4⟩ := List.map_eq_cons_iff.1 h3
 obtain rfl := List.map_eq_nil_iff.1 h4
 simp only [List.cons_append,List.append_assoc,List.nil_append]
 have hf := h.full h2 (r := t2 :: r) (lv := 0) (by omega) h1 (.of (by rw [ht2];decide) (by rw [ht2];decide))
 rw [pX_un,isT_cons,isT_cons,ht,if_neg (by decide),if_neg (by decide),primE]
 have hk0 : t.k = 4 := congrArg Prod.fst ht
 simp only [isT_cons,ht]
 rw [if_neg (by rw [hk0];decide),if_neg (by decide),if_neg (by decide),if_neg (by decide),if_neg (by decide),if_pos (by decide),hf]
 show needT [41] (t2 :: r) _ = _
 rw [needT,isT_cons,ht2,if_pos (by decide)]
 rfl
theorem Rd.opnd {e : Ex} (h : Rd e) (h1 : 1 ≤ e.lv) {n : Nat} {le r : List Tk} (hk : le.map kt = parK n e.lv (ktE e)) (hn : n ≤ 6) (h0 : 0 < n) (hs : Stp (n - 1) r) : pX (n - 1) (le ++ r) = .ok e r := by
 unfold parK at hk
 split at hk
 ·have hp := h.par h1 hk (r := r)
  by_cases e5 : n = 6
  ·subst e5;exact hp
  ·rw [pX_up (5 - n) (n - 1) 5 (by omega) (by omega) hp (hs.up (by omega)),pL_none (hs.1 _ (Nat.le_refl _) (by omega))]
 ·exact h.full hk (by omega) (by omega) hs
theorem Rd.left {e : Ex} (h : Rd e) (h1 : 1 ≤ e.lv) {lv : Nat} {le r : List Tk} (hk : le.map kt = parK (lv + 1) e.lv (ktE e)) (hn : lv ≤ 4) (h2 : lv ≠ 2) (hs : Stp (lv + 1) r) : pX lv (le ++ r) = pL lv e r := by
 unfold parK at hk
 split at hk
 ·exact pX_up (4 - lv) lv 5 (by omega) (by omega) (h.par h1 hk (r := r)) hs
 ·rw [(h le r hk).1 lv hn (by omega) hs,if_neg (by omega)]
theorem numV_digits (u : Nat) : numV (Lib.decDigits u) = u := by
 induction u using Nat.strongRecOn with
 | _ u ih =>
  by_cases h : u < 10
  ·rw [Lib.decDigits_one h]
   simp only [numV,List.foldl_cons,List.foldl_nil,Plain.digit_nat u h];omega
  ·rw [Plain.digits_more u h]
   have := ih (u / 10) (by omega)
   unfold numV at this ⊢
   rw [List.foldl_append,this]
   simp only [List.foldl_cons,List.foldl_nil,Plain.digit_nat (u % 10) (by omega)];omega
theorem numV_itoa {n : Int} (h : 0 ≤ n) : numV (Lib.itoa n) = n.toNat := by
 unfold Lib.itoa
 rw [if_neg (by omega),numV_digits]
theorem ok_cases {op : UInt8} (h : okOp op = true) : op ∈ ([1,2,3,4,5,6,7,8,9,10,11,12,13,14,15,16,17,18,19,20,21,22,23] : List UInt8) := by
 simp only [okOp,Bool.and_eq_true,decide_eq_true_eq] at h
 have key : ∀ i ∈ List.range 24,1 ≤ i → UInt8.ofNat i ∈ ([1,2,3,4,5,6,7,8,9,10,11,12,13,14,15,16,17,18,19,20,21,22,23] : List UInt8) := by decide
 have := key op.toNat (List.mem_range.2 (by omega)) h.1
 rwa [UInt8.ofNat_toNat] at this
theorem ok_split {op : UInt8} (h : okOp op = true) : op = 1 ∨ op ∈ ([11,12,13,14,15,16,17,18,19,20,21,22,23] : List UInt8) ∨ (op = 2 ∨ op = 3 ∨ op = 4 ∨ op = 5 ∨ op = 6 ∨ op = 7 ∨ op = 8 ∨ op = 9 ∨ op = 10) := by
 have key : ∀ o ∈ ([1,2,3,4,5,6,7,8,9,10,11,12,13,14,15,16,17,18,19,20,21,22,23] : List UInt8),o = 1 ∨ o ∈ ([11,12,13,14,15,16,17,18,19,20,21,22,23] : List UInt8) ∨ (o = 2 ∨ o = 3 ∨ o = 4 ∨ o = 5 ∨ o = 6 ∨ o = 7 ∨ o = 8 ∨ o = 9 ∨ o = 10) := by decide
 exact key op (ok_cases h)
theorem ok_lv {op : UInt8} (h : okOp op = true) : 1 ≤ (shapeOf op).lv := by
 have key : ∀ o ∈ ([1,2,3,4,5,6,7,8,9,10,11,12,13,14,15,16,17,18,19,20,21,22,23] : List UInt8),1 ≤ (shapeOf o).lv := by decide
 exact key op (ok_cases h)
theorem args0 {l : List Ex} (h : l.length = 0) : l = [] := List.eq_nil_of_length_eq_zero h
theorem args1 {l : List Ex} (h : l.length = 1) : ∃ a,l = [a] := List.length_eq_one_iff.1 h
theorem args2 {l : List Ex} (h : l.length = 2) : ∃ a b,l = [a,b] := by
 match l,h with
 | [a,b],_ => exact ⟨a,b,rfl⟩
theorem i64_zero {n : Int64} (h : n.toInt = 0) : n = 0 := Int64.toInt_inj.1 (by rw [h];rfl)
def binOp (op : UInt8) : Bool := decide (11 ≤ op.toNat) && decide (op.toNat ≤ 23)
theorem bin_facts : ∀ op ∈ ([11,12,13,14,15,16,17,18,19,20,21,22,23] : List UInt8),(shapeOf op).n = 2 ∧ (shapeOf op).nm = false ∧ 1 ≤ (shapeOf op).lv ∧ (shapeOf op).lv ≤ 5 ∧ opK ((shapeOf op).lv - 1) (symK op) = some op ∧ isK [91] (symK op) = false ∧
 (∀ i ∈ List.range 5,(shapeOf op).lv ≤ i → opK i (symK op) = none) ∧ ¬ op = 1 ∧ ¬ op = 5 ∧ ¬ op = 8 ∧ ¬ op = 6 ∧ ¬ op = 7 ∧ ¬ op = 9 ∧ ¬ op = 10 := by decide
theorem ktE_bin {op : UInt8} (h : op ∈ ([11,12,13,14,15,16,17,18,19,20,21,22,23] : List UInt8)) (nm : Str) (n : Int64) (a b : Ex) :
 ktE (.mk op nm n [a,b]) = parK (lftT (shapeOf op).lv) a.lv (ktE a) ++ symK op :: parK ((shapeOf op).lv + 1) b.lv (ktE b) := by
 obtain ⟨h1,_,_,_,_,_,_,g1,g2,g3,g4,g5,g6,g7⟩ := bin_facts op h
 rw [ktE,ktx,if_neg g1,if_neg g2,if_neg g3,if_neg g4,if_neg g5,if_neg g6,if_neg g7,if_neg (by omega)]
 rfl
theorem rd_bin {op : UInt8} (h : op ∈ ([11,12,13,14,15,16,17,18,19,20,21,22,23] : List UInt8)) {a b : Ex} (ha : Rd a) (hb : Rd b) (ha1 : 1 ≤ a.lv) (hb1 : 1 ≤ b.lv) : Rd (opE op [a,b]) := by
 intro le r hk
 obtain ⟨_,_,h3,h4,h5,h6,h7,_⟩ := bin_facts op h
 have hlv : (opE op [a,b]).lv = (shapeOf op).lv := rfl
 rw [hlv]
 rw [show opE op [a,b] = .mk op [] 0 [a,b] from rfl,ktE_bin h] at hk
 obtain ⟨la,l1,rfl,hla,hk⟩ := List.map_eq_append_iff.1 hk
 obtain ⟨t,lb,rfl,ht,hlb⟩ := List.map_eq_cons_iff.1 hk
 generalize hL : (shapeOf op).lv = L at *
 refine ⟨?_,fun h8 => absurd h8 (by omega)⟩
 have hst : ∀ q,Stp L (t :: q) := fun q => .of (by rw [ht];exact h7) (by rw [ht];exact h6)
 -- at its own level
 have own : Stp L r → pX (L - 1) (la ++ t :: lb ++ r) = if L - 1 = 2 then .ok (opE op [a,b]) r else pL (L - 1) (opE op [a,b]) r := by
  intro hs
  have hopt : ∀ q,opAt (L - 1) (t :: q) = some op := fun q => by rw [opAt_cons,ht];exact h5
  have hB : pX L (lb ++ r) = .ok b r := by
   have := hb.opnd hb1 (n := L + 1) hlb (by omega) (by omega) (r := r) (by simpa using hs)
   simpa using this
  have hA : pX (L - 1) (la ++ (t :: lb ++ r)) = pL (L - 1) a (t :: lb ++ r) := by
   by_cases h2 : L = 3
   ·subst h2
    have := ha.opnd ha1 (n := 4) (r := t :: lb ++ r) hla (by omega) (by omega) (hst _)
    rw [pX_low (by omega)]
    show (pX 3 _).bind _ = _
    rw [show (4 : Nat) - 1 = 3 from rfl] at this
    rw [this];rfl
   ·have e : lftT L = L - 1 + 1 := by unfold lftT;rw [if_neg h2];omega
    rw [e] at hla
    exact ha.left ha1 hla (by omega) (by omega) (by rw [show L - 1 + 1 = L by omega];exact hst _)
  rw [List.append_assoc,hA,List.cons_append,pL_some (by omega) (hopt _)]
  show (pX (L - 1 + 1) (lb ++ r)).bind _ = _
  rw [show L - 1 + 1 = L by omega,hB]
  rfl
 intro lv hl4 hl hs
 by_cases e : lv = L - 1
 ·subst e
  rw [show L - 1 + 1 = L by omega] at hs
  rw [own hs]
  exact ifI (by omega)
 ·rw [if_neg (by omega)]
  refine pX_up (L - 2 - lv) lv (L - 1) (by omega) (by omega) ?_ hs
  rw [own (hs.up (by omega)),pL_none (hs.1 _ (by omega) (by omega))]
  split <;> rfl
theorem ktE_one {op : UInt8} {nm : Str} {n : Int64} {args : List Ex} {x : Kt} (h : ktE (.mk op nm n args) = [x]) {le : List Tk} (hk : le.map kt = ktE (.mk op nm n args)) : ∃ t,le = [t] ∧ kt t = x := by
 rw [h] at hk
 obtain ⟨t,l,rfl,ht,hl⟩ := List.map_eq_cons_iff.1 hk
 obtain rfl := List.map_eq_nil_iff.1 hl
 exact ⟨t,rfl,ht⟩
theorem rd_un {op : UInt8} {a : Ex} (ha : Rd a) (h1 : 1 ≤ a.lv) (hop : op = 9 ∨ op = 10) : Rd (opE op [a]) := by
 refine .of (by rcases hop with rfl | rfl <;> exact (by decide : 6 ≤ 6)) fun le r hk h91 => ?_
 have key : ∃ t l,le = t :: l ∧ kt t = (if op = 9 then (4,[45]) else (2,[110,111,116])) ∧ l.map kt = parK 6 a.lv (ktE a) := by
  rcases hop with rfl | rfl
  ·obtain ⟨t,l,rfl,ht,hl⟩ := List.map_eq_cons_iff.1 (show le.map kt = (4,[45]) :: parK 6 a.lv (ktE a) from hk)
   exact ⟨t,l,rfl,ht,hl⟩
  ·obtain ⟨t,l,rfl,ht,hl⟩ := List.map_eq_cons_iff.1 (show le.map kt = (2,[110,111,116]) :: parK 6 a.lv (ktE a) from hk)
   exact ⟨t,l,rfl,ht,hl⟩
 obtain ⟨t,l,rfl,ht,hl⟩ := key
 have hA : pX 5 (l ++ r) = .ok a r := ha.opnd h1 (n := 6) hl (by omega) (by omega) ⟨fun i h1 h2 => by omega,h91⟩
 rw [List.cons_append,pX_un]
 rcases hop with rfl | rfl
 ·rw [isT_cons,ht,if_pos (by decide)]
  show (pX 5 (l ++ r)).bind _ = _
  rw [hA];rfl
 ·rw [isT_cons,isT_cons,ht,if_neg (by decide),if_pos (by decide)]
  show (pX 5 (l ++ r)).bind _ = _
  rw [hA];rfl
theorem rd_key {a : Ex} (ha : Rd a) (h1 : 1 ≤ a.lv) {l r : List Tk} (hl : l.map kt = (4,[91]) :: (ktE a ++ [(4,[93])])) : isT [91] (l ++ r) = true ∧ ∀ (g : Ex → List Tk → Rs Ex),((pX 0 (l ++ r).tail).bind fun x r4 => needT [93] r4 fun r5 => g x r5) = g a r := by
 obtain ⟨t,l1,rfl,ht,hk⟩ := List.map_eq_cons_iff.1 hl
 obtain ⟨l2,l3,rfl,h2,h3⟩ := List.map_eq_append_iff.1 hk
 obtain ⟨t2,l4,rfl,ht2,h4⟩ := List.map_eq_cons_iff.1 h3
 obtain rfl := List.map_eq_nil_iff.1 h4
 refine ⟨by rw [List.cons_append,isT_cons,ht];decide,fun g => ?_⟩
 have hf := ha.full h2 (r := t2 :: r) (lv := 0) (by omega) h1 (.of (by rw [ht2];decide) (by rw [ht2];decide))
 simp only [List.cons_append,List.append_assoc,List.nil_append,List.tail_cons]
 rw [hf]
 show needT [93] (t2 :: r) _ = _
 rw [needT,isT_cons,ht2,if_pos (by decide)]
 rfl
theorem rd_all (e : Ex) : Ex.all frmE e = true → Rd e ∧ 1 ≤ e.lv := by
 induction e using Ex.ind with
 | _ op nm n args ih =>
  intro h
  rw [all_mk,Bool.and_eq_true] at h
  obtain ⟨hf,hr⟩ := h
  have ha : ∀ a ∈ args,Rd a ∧ 1 ≤ a.lv := fun a m => ih a m (alls_mem m hr)
  simp only [frmE,Bool.and_eq_true,Bool.or_eq_true,decide_eq_true_eq] at hf
  obtain ⟨⟨⟨hop,hl⟩,hnm⟩,hn⟩ := hf
  refine ⟨?_,ok_lv hop⟩
  have hm := ok_cases hop
  by_cases h1 : op = 1
  ·subst h1
   obtain rfl := args0 hl
   obtain rfl : nm = [] := hnm.resolve_left (by decide)
   rw [if_pos rfl,decide_eq_true_eq] at hn
   refine .of (show 6 ≤ (shapeOf 1).lv by decide) fun le r hk _ => ?_
   obtain ⟨t,rfl,ht⟩ := ktE_one (x := (3,Lib.itoa n.toInt)) rfl hk
   have hk3 : t.k = 3 := congrArg Prod.fst ht
   have ht2 : t.t = Lib.itoa n.toInt := congrArg Prod.snd ht
   have hlt := n.toInt_lt
   rw [List.cons_append,List.nil_append,pX_un,isT_cons,isT_cons,ht,if_neg (by simp [isK]),if_neg (by simp [isK]),primE]
   rw [if_pos hk3,ht2,numV_itoa hn,if_pos (by omega)]
   congr 2
   exact Int64.toInt_inj.1 (by rw [Int64.toInt_ofNat_of_lt (by omega)];omega)
  rw [if_neg h1,decide_eq_true_eq] at hn
  obtain rfl := i64_zero hn
  by_cases hb : op ∈ ([11,12,13,14,15,16,17,18,19,20,21,22,23] : List UInt8)
  ·obtain ⟨b1,b2,_⟩ := bin_facts op hb
   obtain ⟨a,b,rfl⟩ := args2 (l := args) (by omega)
   obtain rfl : nm = [] := by rcases hnm with e | e
                              ·rw [b2] at e;cases e
                              ·exact e
   have h3 := ha a (by simp)
   have h4 := ha b (by simp)
   exact rd_bin hb h3.1 h4.1 h3.2 h4.2
  have hs : op = 2 ∨ op = 3 ∨ op = 4 ∨ op = 5 ∨ op = 6 ∨ op = 7 ∨ op = 8 ∨ op = 9 ∨ op = 10 := ((ok_split hop).resolve_left h1).resolve_left hb
  have cst : ∀ (w : Str),op = 2 ∨ op = 3 ∨ op = 4 → w = (shapeOf op).tx → Rd (.mk op nm 0 args) := by
   intro w ho hw
   have hnil : args = [] := by
    rcases ho with rfl | rfl | rfl <;> exact args0 hl
   have hnm0 : nm = [] := by
    rcases ho with rfl | rfl | rfl <;> exact hnm.resolve_left (by decide)
   subst hnil hnm0
   refine .of (by rcases ho with rfl | rfl | rfl <;> exact (by decide : 6 ≤ 7)) fun le r hk _ => ?_
   rcases ho with rfl | rfl | rfl
   all_goals
    obtain ⟨t,rfl,ht⟩ := ktE_one rfl hk
    have hk3 : t.k = 2 := congrArg Prod.fst ht
    rw [List.cons_append,List.nil_append,pX_un,isT_cons,isT_cons,ht,if_neg (by decide),if_neg (by decide),primE]
    simp only [isT_cons,ht]
    rw [if_neg (by rw [hk3];decide)]
   ·rw [if_pos (by decide)];rfl
   ·rw [if_neg (by decide),if_pos (by decide)];rfl
   ·rw [if_neg (by decide),if_neg (by decide),if_pos (by decide)];rfl
  rcases hs with rfl | rfl | rfl | rfl | rfl | rfl | rfl | rfl | rfl
  ·exact cst _ (.inl rfl) rfl
  ·exact cst _ (.inr (.inl rfl)) rfl
  ·exact cst _ (.inr (.inr rfl)) rfl
  ·obtain rfl := args0 hl
   refine .of (show 6 ≤ (shapeOf 5).lv by decide) fun le r hk h91 => ?_
   obtain ⟨t,rfl,ht⟩ := ktE_one (x := (1,nm)) rfl hk
   have hk1 : t.k = 1 := congrArg Prod.fst ht
   have ht2 : t.t = nm := congrArg Prod.snd ht
   have hno : ∀ w,isK w (1,nm) = false := fun w => by simp [isK]
   rw [List.cons_append,List.nil_append,pX_un,isT_cons,isT_cons,ht,hno,hno,if_neg (by decide),if_neg (by decide),primE]
   simp only [isT_cons,ht,hno]
   rw [if_neg (by rw [hk1];decide)]
   simp only [Bool.false_eq_true,if_false]
   rw [if_pos hk1,h91,if_neg (by decide),ht2]
  ·obtain ⟨a,rfl⟩ := args1 hl
   obtain ⟨ra,r1⟩ := ha a (by simp)
   refine .of (show 6 ≤ (shapeOf 6).lv by decide) fun le r hk h91 => ?_
   obtain ⟨t,l,rfl,ht,hl⟩ := List.map_eq_cons_iff.1 (show le.map kt = (1,nm) :: (4,[91]) :: (ktE a ++ [(4,[93])]) from hk)
   have hk1 : t.k = 1 := congrArg Prod.fst ht
   have ht2 : t.t = nm := congrArg Prod.snd ht
   have hno : ∀ w,isK w (1,nm) = false := fun w => by simp [isK]
   obtain ⟨k1,k2⟩ := rd_key ra r1 hl (r := r)
   rw [List.cons_append,pX_un,isT_cons,isT_cons,ht,hno,hno,if_neg (by decide),if_neg (by decide),primE]
   simp only [isT_cons,ht,hno]
   rw [if_neg (by rw [hk1];decide)]
   simp only [Bool.false_eq_true,if_false]
   rw [if_pos hk1,k1,if_pos rfl,k2,ht2]
  ·obtain ⟨a,rfl⟩ := args1 hl
   obtain ⟨ra,r1⟩ := ha a (by simp)
   refine .of (show 6 ≤ (shapeOf 7).lv by decide) fun le r hk h91 => ?_
   obtain ⟨t,l,rfl,ht,hl⟩ := List.map_eq_cons_iff.1 (show le.map kt = (2,[104,97,115]) :: (1,nm) :: (4,[91]) :: (ktE a ++ [(4,[93])]) from hk)
   obtain ⟨t2,l2,rfl,ht2,hl⟩ := List.map_eq_cons_iff.1 hl
   have hk1 : t.k = 2 := congrArg Prod.fst ht
   have hk2 : t2.k = 1 := congrArg Prod.fst ht2
   have ht3 : t2.t = nm := congrArg Prod.snd ht2
   obtain ⟨k1,k2⟩ := rd_key ra r1 hl (r := r)
   rw [List.cons_append,pX_un,isT_cons,isT_cons,ht,if_neg (by decide),if_neg (by decide),primE]
   simp only [isT_cons,ht]
   rw [if_neg (by rw [hk1];decide),if_neg (by decide),if_neg (by decide),if_neg (by decide),if_neg (by decide),if_neg (by decide),if_pos (by decide),List.cons_append,nameT]
   rw [if_pos hk2,needT,k1,if_pos rfl,k2,ht3]
  ·obtain rfl := args0 hl
   refine .of (show 6 ≤ (shapeOf 8).lv by decide) fun le r hk h91 => ?_
   obtain ⟨t,l,rfl,ht,hl⟩ := List.map_eq_cons_iff.1 (show le.map kt = (2,[115,105,122,101]) :: (1,nm) :: [] from hk)
   obtain ⟨t2,l2,rfl,ht2,hl⟩ := List.map_eq_cons_iff.1 hl
   obtain rfl := List.map_eq_nil_iff.1 hl
   have hk1 : t.k = 2 := congrArg Prod.fst ht
   have hk2 : t2.k = 1 := congrArg Prod.fst ht2
   have ht3 : t2.t = nm := congrArg Prod.snd ht2
   rw [List.cons_append,pX_un,isT_cons,isT_cons,ht,if_neg (by decide),if_neg (by decide),primE]
   simp only [isT_cons,ht]
   rw [if_neg (by rw [hk1];decide),if_neg (by decide),if_neg (by decide),if_neg (by decide),if_pos (by decide),List.cons_append,nameT]
   rw [if_pos hk2,ht3];rfl
  ·obtain ⟨a,rfl⟩ := args1 hl
   obtain ⟨ra,r1⟩ := ha a (by simp)
   obtain rfl : nm = [] := hnm.resolve_left (by decide)
   exact rd_un ra r1 (.inl rfl)
  ·obtain ⟨a,rfl⟩ := args1 hl
   obtain ⟨ra,r1⟩ := ha a (by simp)
   obtain rfl : nm = [] := hnm.resolve_left (by decide)
   exact rd_un ra r1 (.inr rfl)
end Go.Proofs.YtmbiojpcidccjaaGreatDoor
