/- Texts of the proof, one behind the other. -/
import Derived.Test.YthhoebdlfjffkaaGreatDoorMd
import Derived.OrdersIn
set_option linter.all false
namespace Go.Proofs.YthhoebdlfjffkaaGreatDoor
open Go.RowKit Go.Par Go.Sx
def gKy (op : UInt8) (nm : Str) : Pz Ex := gBind (gNd [91]) fun _ => gKey op nm
theorem key_eq {n : Nat} {q : Sg} {a : Ex} (op : UInt8) (nm : Str) (hv : vl (gX 0) (up n (gNd [91]) q) a) : up n (gKy op nm) q = up n (gNd [93]) (up n (gX 0) (up n (gNd [91]) q)) ∧ vl (gKy op nm) q (.mk op nm 0 [a]) := by
 unfold gKy gKey
 refine ⟨?_,vl_bind (n := n) (x := ()) vl_unit (vl_bind (n := n) hv (vl_bind (n := n) (x := ()) vl_unit vl_pure))⟩
 rw [up_bind (x := ()) (Cz.nd _) vl_unit,up_bind (Cz.ex _) hv,up_bind (x := ()) (Cz.nd _) vl_unit,up_pure]
set_option maxRecDepth 100000 in
theorem key_st (M : Nat) (hex : ExC 23 (gX 0) M) {H : Hp} {w0 W : World} {bs : List Res} {b n : Nat} {ts : List Tk} {tp : Option Addr} {tc : Nat} {t0 t1 t2 t3 : Value} {q : Sg} (K : Tkm H ts tp tc) (hq : q.r <:+ ts) (op : UInt8) (nm : Str) (hn : nm.length ≤ 1000000) (hm : (up n (gNd [91]) q).mu < M) (s : St H w0 (.box b [.slice tp ts.length tc,.int .i64 (posN ts q : Nat),.int .i64 (n : Nat),t0,t1,t2,t3,.int .i64 (q.o : Nat),.int .i64 (q.e : Nat)] 99 :: bs) W) :
 Calls Tryz.prog 185 #[.pointer (some ⟨b,0,none⟩),.int .u8 op.toNat,strV nm] W fun e W' => ∃ z : Ex × List Value × Hp,(vl (gKy op nm) q z.1 ∧ HUp w0 H z.2.2 ∧ Rep z.2.2 (dEx .u8 z.1) z.2.1) ∧ e = .returned (.agg z.2.1.toArray) ∧ St z.2.2 w0 (.box b [.slice tp ts.length tc,.int .i64 (posN ts (up n (gKy op nm) q) : Nat),.int .i64 (n : Nat),t0,t1,t2,t3,.int .i64 ((up n (gKy op nm) q).o : Nat),.int .i64 ((up n (gKy op nm) q).e : Nat)] 99 :: bs) W' := by
 refine Sx.enterS Tryz.func185 rfl Tryz.ntmps185 rfl s ?_
 refine .sr<|.al Fx.zero27 Z fun b6 => .ns<|.m Z Z<|.cs (X := Unit) Fx.call73 Z (fun W s => expect_nd K hq [91] (by decide +kernel) (s.pickT (hd := [_,_]) (tl := bs) (hd' := [_,_]) [1,0] Z Z)) Z fun _ _ => .ns<|.m Z Z<|.cs (X := Ex × List Value × Hp) Fx.call23 Z (fun W s => hex K ((Suf.nd _).up hq) hm (s.pickT (hd := [_,_]) (tl := bs) (hd' := [_,_]) [0,1] Z Z)) Z fun z1 hz1 => ?_
 obtain ⟨a1,c1,H1⟩ := z1
 obtain ⟨hv1,u1,r1⟩ := hz1
 dsimp only at hv1 u1 r1 ⊢
 obtain ⟨x1,x2,x3,x4,rfl⟩ := four (ex_len r1)
 have K1 := K.up u1.up
 refine .al Fx.zero27 Z fun b7 => .sW .head Z Z Fx.size27 (Rep.one r1) Z<|.ns<|.m Z Z<|.cs (X := Unit) Fx.call73 Z (fun W s => expect_nd K1 ((Suf.ex 0).up ((Suf.nd _).up hq)) [93] (by decide +kernel) (s.pickT (hd := [_,_,_]) (tl := bs) (hd' := [_,_,_]) [1,0,2] Z Z)) Z fun _ _ => .ns<|.m Z Z<|.m Z Z<|.yv (.loadW Z Fx.agg27 (.tail _<|.head _) Z) Z<|.bl Z (Fx.bsl25_1 _ _ _ _) Z fun b17 => ?_
 refine Sx.freezeBox fun H2 u2 m2 => ?_
 refine .yv (.build Z (Fx.bld27_0_1_3 _ _ _ _ _)) Z<|.sW (.tail<|.tail<|.head) Z Z Fx.size27 (by simp [Value.oneCell',strV]) Z<|.nt<|.rt<|?_
 refine Sx.ret1 (.inl rfl) rfl (.cell rfl Fx.agg27 (.tail _<|.tail _<|.head _) rfl) fun W s => ?_
 rw [(key_eq (n := n) op nm hv1).1]
 exact ⟨(.mk op nm 0 [a1],[.int .u8 op.toNat,strV nm,.int .i64 0,.slice (some ⟨b17,0,none⟩) 1 1],H2),⟨(key_eq (n := n) op nm hv1).2,u1.trans u2,ex_shut (op := op) (nm := nm) (n := 0) (args := [a1]) hn (Rep.mk (n := 1) (c := 1) m2 (.single (r1.up u2.up) rfl) rfl (Nat.le_refl _) (by decide))⟩,rfl,s.pickT (hd := [_,_,_]) (tl := bs) (hd' := [_]) [0] rfl rfl⟩
theorem isNum_k {n : Nat} {r : List Tk} : isNum r = decide ((((tkH n r).k.toNat : Nat) : Int) = 3) := by
 cases r with
 | nil => rfl
 | cons t l =>
  show decide (t.k = 3) = decide (((t.k.toNat : Nat) : Int) = 3)
  rw [Bool.eq_iff_iff,decide_eq_true_eq,decide_eq_true_eq]
  exact ⟨fun h => by rw [h];rfl,fun h => UInt8.toNat_inj.1 (by show t.k.toNat = 3;omega)⟩
theorem last_eq {n : Nat} {q : Sg} (h : decide ((((tkH n q.r).k.toNat : Nat) : Int) = 3) = true) : gLast q.r = gNum q.r := by
 unfold gLast
 rw [isNum_k (n := n),if_pos h]
theorem last_neq {n : Nat} {q : Sg} (h : decide ((((tkH n q.r).k.toNat : Nat) : Int) = 3) = false) : gLast q.r = gNam q.r := by
 unfold gLast
 rw [isNum_k (n := n),if_neg (by rw [h];decide)]
theorem up_at {α : Type} {n : Nat} {g g' : Pz α} {q : Sg} (h : g q.r = g' q.r) : up n g q = up n g' q := by unfold up;rw [h]
theorem vl_at {α : Type} {g g' : Pz α} {q : Sg} {x : α} (h : g q.r = g' q.r) (k : vl g' q x) : vl g q x := fun h0 a r e => k h0 a r (by rw [← h];exact e)
theorem last_num {n : Nat} {q : Sg} {v : Int64} (h : decide ((((tkH n q.r).k.toNat : Nat) : Int) = 3) = true) (hv : vl gNu q v) : vl gLast q (.mk 1 [] v []) := vl_at (last_eq h) (vl_map (f := fun v => Ex.mk 1 [] v []) hv)
theorem last_numU {n : Nat} {q : Sg} (h : decide ((((tkH n q.r).k.toNat : Nat) : Int) = 3) = true) : up n gLast q = up n gNu q := by rw [up_at (last_eq h)];exact up_map
theorem last_nam {n : Nat} {q : Sg} {x : Ex} (h : decide ((((tkH n q.r).k.toNat : Nat) : Int) = 3) = false) (hx : vl gNam q x) : vl gLast q x := vl_at (last_neq h) hx
theorem key_vl {q : Sg} {nm : Str} {a : Ex} (h : ac [91] q = true) (hv : vl (gKy 6 nm) q a) : vl (gKey 6 nm) q.tl a := by
 obtain ⟨h0,h1⟩ := ac_e h
 intro _ x r e
 refine hv h0 x r ?_
 unfold gKy gBind gNd
 rw [if_pos h1]
 exact e
theorem last_key {n : Nat} {q : Sg} {nm : Str} (h : decide ((((tkH n q.r).k.toNat : Nat) : Int) = 3) = false) (hv : vl gNm q nm) (h1 : ac [91] (up n gNm q) = true) : up n gLast q = up n (gKy 6 nm) (up n gNm q) := by
 rw [up_at (last_neq h)]
 unfold gNam gKy
 rw [up_bind Cz.nm hv,up_altT h1,up_bind (x := ()) (Cz.nd _) vl_unit,up_ndT h1]
theorem last_name {n : Nat} {q : Sg} {nm : Str} (h : decide ((((tkH n q.r).k.toNat : Nat) : Int) = 3) = false) (hv : vl gNm q nm) (h1 : ac [91] (up n gNm q) = false) : up n gLast q = up n gNm q := by
 rw [up_at (last_neq h)]
 unfold gNam
 rw [up_bind Cz.nm hv,up_altF h1,up_pure]
set_option maxRecDepth 100000 in
theorem primary_st (M : Nat) (hex : ExC 23 (gX 0) M) : ExC 182 gPrim (M + 1) := by
 intro H w0 W bs b n ts tp tc t0 t1 t2 t3 q K hq hmu s
 refine Sx.enterS Tryz.func182 rfl Tryz.ntmps182 rfl s ?_
 refine .sr<|.al Fx.zero27 Z fun b2 => .nt<|.sq<|.bk<|.sr<|.m Z Z<|.cs (X := Unit) Fx.call72 Z (fun W s => accept_ac K hq [116,114,117,101] (by decide +kernel) (s.pickT (hd := [_,_]) (tl := bs) (hd' := [_,_]) [1,0] Z Z)) Z fun _ _ => .a Z Z<|.nt<|.cd Z (fun h5 => ?_) (fun h5 => ?_)
 ·rw [acS_T h5]
  refine .sr<|.yv (.build Z (Fx.bld27_0 _)) Z<|.sW (.tail<|.head) Z Z Fx.size27 (by simp [Value.oneCell',strV]) Z<|.nt<|.rt<|.bR<|.tR<|?_
  refine Sx.ret1 (.inl rfl) rfl (.cell rfl Fx.agg27 (.tail _<|.head _) rfl) fun W s => ?_
  rw [show up n gPrim q = q.tl by unfold gPrim;rw [up_altT h5,up_pure]]
  exact ⟨(opE 2 [],[.int .u8 2,.string ⟨#[]⟩,.int .i64 0,.slice none 0 0],H),⟨(by unfold gPrim;exact vl_altT h5 (vl_pure)),.refl,ex_shut (op := 2) (nm := []) (n := 0) (args := []) (by decide) (Rep.empty (p := none) (c := 0) (by decide))⟩,rfl,s.pickT (hd := [_,_]) (tl := bs) (hd' := [_]) [0] rfl rfl⟩
 rw [acS_F h5]
 refine .sr<|.m Z Z<|.cs (X := Unit) Fx.call72 Z (fun W s => accept_ac K hq [102,97,108,115,101] (by decide +kernel) (s.pickT (hd := [_,_]) (tl := bs) (hd' := [_,_]) [0,1] Z Z)) Z fun _ _ => .a Z Z<|.nt<|.cd Z (fun h9 => ?_) (fun h9 => ?_)
 ·rw [acS_T h9]
  refine .sr<|.yv (.build Z (Fx.bld27_0 _)) Z<|.sW (.tail<|.head) Z Z Fx.size27 (by simp [Value.oneCell',strV]) Z<|.nt<|.rt<|.bR<|.tR<|?_
  refine Sx.ret1 (.inl rfl) rfl (.cell rfl Fx.agg27 (.tail _<|.head _) rfl) fun W s => ?_
  rw [show up n gPrim q = q.tl by unfold gPrim;rw [up_altF h5,up_altT h9,up_pure]]
  exact ⟨(opE 3 [],[.int .u8 3,.string ⟨#[]⟩,.int .i64 0,.slice none 0 0],H),⟨(by unfold gPrim;exact vl_altF h5 (vl_altT h9 (vl_pure))),.refl,ex_shut (op := 3) (nm := []) (n := 0) (args := []) (by decide) (Rep.empty (p := none) (c := 0) (by decide))⟩,rfl,s.pickT (hd := [_,_]) (tl := bs) (hd' := [_]) [0] rfl rfl⟩
 rw [acS_F h9]
 refine .sr<|.m Z Z<|.cs (X := Unit) Fx.call72 Z (fun W s => accept_ac K hq [110,111,119] (by decide +kernel) (s.pickT (hd := [_,_]) (tl := bs) (hd' := [_,_]) [0,1] Z Z)) Z fun _ _ => .a Z Z<|.nt<|.cd Z (fun h13 => ?_) (fun h13 => ?_)
 ·rw [acS_T h13]
  refine .sr<|.yv (.build Z (Fx.bld27_0 _)) Z<|.sW (.tail<|.head) Z Z Fx.size27 (by simp [Value.oneCell',strV]) Z<|.nt<|.rt<|.bR<|.tR<|?_
  refine Sx.ret1 (.inl rfl) rfl (.cell rfl Fx.agg27 (.tail _<|.head _) rfl) fun W s => ?_
  rw [show up n gPrim q = q.tl by unfold gPrim;rw [up_altF h5,up_altF h9,up_altT h13,up_pure]]
  exact ⟨(opE 4 [],[.int .u8 4,.string ⟨#[]⟩,.int .i64 0,.slice none 0 0],H),⟨(by unfold gPrim;exact vl_altF h5 (vl_altF h9 (vl_altT h13 (vl_pure)))),.refl,ex_shut (op := 4) (nm := []) (n := 0) (args := []) (by decide) (Rep.empty (p := none) (c := 0) (by decide))⟩,rfl,s.pickT (hd := [_,_]) (tl := bs) (hd' := [_]) [0] rfl rfl⟩
 rw [acS_F h13]
 refine .sr<|.m Z Z<|.cs (X := Unit) Fx.call72 Z (fun W s => accept_ac K hq [115,105,122,101] (by decide +kernel) (s.pickT (hd := [_,_]) (tl := bs) (hd' := [_,_]) [0,1] Z Z)) Z fun _ _ => .a Z Z<|.nt<|.cd Z (fun h17 => ?_) (fun h17 => ?_)
 ·rw [acS_T h17]
  refine .sr<|.m Z Z<|.cs (X := Str) Fx.call74 Z (fun W s => name_st K (Suf.tl hq)  (s.pickT (hd := [_,_]) (tl := bs) (hd' := [_,_]) [0,1] Z Z)) Z fun nm hnm => .yv (.build Z (Fx.bld27_0_1 _ _)) Z<|.sW (.tail<|.head) Z Z Fx.size27 (by simp [Value.oneCell',strV]) Z<|.nt<|.rt<|.bR<|.tR<|?_
  refine Sx.ret1 (.inl rfl) rfl (.cell rfl Fx.agg27 (.tail _<|.head _) rfl) fun W s => ?_
  rw [show up n gPrim q = up n gNm q.tl by unfold gPrim;rw [up_altF h5,up_altF h9,up_altF h13,up_altT h17,up_map]]
  exact ⟨(.mk 8 nm 0 [],[.int .u8 8,strV nm,.int .i64 0,.slice none 0 0],H),⟨(by unfold gPrim;exact vl_altF h5 (vl_altF h9 (vl_altF h13 (vl_altT h17 (vl_map (f := fun s => Ex.mk 8 s 0 []) hnm.1))))),.refl,ex_shut (op := 8) (nm := nm) (n := 0) (args := []) hnm.2 (Rep.empty (p := none) (c := 0) (by decide))⟩,rfl,s.pickT (hd := [_,_]) (tl := bs) (hd' := [_]) [0] rfl rfl⟩
 rw [acS_F h17]
 refine .sr<|.m Z Z<|.cs (X := Unit) Fx.call72 Z (fun W s => accept_ac K hq [104,97,115] (by decide +kernel) (s.pickT (hd := [_,_]) (tl := bs) (hd' := [_,_]) [0,1] Z Z)) Z fun _ _ => .a Z Z<|.nt<|.cd Z (fun h23 => ?_) (fun h23 => ?_)
 ·rw [acS_T h23]
  have hlt := mu_tl h23
  refine .sr<|.m Z Z<|.m Z Z<|.cs (X := Str) Fx.call74 Z (fun W s => name_st K (Suf.tl hq)  (s.pickT (hd := [_,_]) (tl := bs) (hd' := [_,_]) [0,1] Z Z)) Z fun nm hnm => .cs (X := Ex × List Value × Hp) Fx.call185 Z (fun W s => key_st M hex K (Suf.nm.up (Suf.tl hq)) 7 nm hnm.2 (by have h1 := mu_up (n := n) (s := q.tl) Shs.nm.le Cz.nm;have h2 := mu_up (n := n) (s := up n gNm q.tl) (Shs.nd [91]).le (Cz.nd [91]);omega) (s.pickT (hd := [_,_]) (tl := bs) (hd' := [_,_]) [0,1] Z Z)) Z fun z1 hz1 => ?_
  obtain ⟨a1,c1,H1⟩ := z1
  obtain ⟨hv1,u1,r1⟩ := hz1
  dsimp only at hv1 u1 r1 ⊢
  obtain ⟨x1,x2,x3,x4,rfl⟩ := four (ex_len r1)
  have K1 := K.up u1.up
  refine .sW (.tail<|.head) Z Z Fx.size27 (Rep.one r1) Z<|.nt<|.rt<|.bR<|.tR<|?_
  refine Sx.ret1 (.inl rfl) rfl (.cell rfl Fx.agg27 (.tail _<|.head _) rfl) fun W s => ?_
  rw [show up n gPrim q = up n (gKy 7 nm) (up n gNm q.tl) by unfold gPrim;rw [up_altF h5,up_altF h9,up_altF h13,up_altF h17,up_altT h23,up_bind Cz.nm hnm.1];rfl]
  exact ⟨(a1,[x1,x2,x3,x4],H1),⟨(by unfold gPrim;exact vl_altF h5 (vl_altF h9 (vl_altF h13 (vl_altF h17 (vl_altT h23 (vl_bind (n := n) hnm.1 hv1)))))),u1,r1⟩,rfl,s.pickT (hd := [_,_]) (tl := bs) (hd' := [_]) [0] rfl rfl⟩
 rw [acS_F h23]
 refine .sr<|.m Z Z<|.cs (X := Unit) Fx.call72 Z (fun W s => accept_ac K hq [40] (by decide +kernel) (s.pickT (hd := [_,_]) (tl := bs) (hd' := [_,_]) [0,1] Z Z)) Z fun _ _ => .a Z Z<|.nt<|.cd Z (fun h30 => ?_) (fun h30 => ?_)
 ·rw [acS_T h30]
  have hlt := mu_tl h30
  refine .sr<|.m Z Z<|.cs (X := Ex × List Value × Hp) Fx.call23 Z (fun W s => hex K (Suf.tl hq) (by omega) (s.pickT (hd := [_,_]) (tl := bs) (hd' := [_,_]) [0,1] Z Z)) Z fun z1 hz1 => ?_
  obtain ⟨a1,c1,H1⟩ := z1
  obtain ⟨hv1,u1,r1⟩ := hz1
  dsimp only at hv1 u1 r1 ⊢
  obtain ⟨x1,x2,x3,x4,rfl⟩ := four (ex_len r1)
  have K1 := K.up u1.up
  refine .al Fx.zero27 Z fun b3 => .sW .head Z Z Fx.size27 (Rep.one r1) Z<|.ns<|.m Z Z<|.cs (X := Unit) Fx.call73 Z (fun W s => expect_nd K1 ((Suf.ex 0).up (Suf.tl hq)) [41] (by decide +kernel) (s.pickT (hd := [_,_,_]) (tl := bs) (hd' := [_,_,_]) [1,0,2] Z Z)) Z fun _ _ => .ns<|.yv (.loadW Z Fx.agg27 (.tail _<|.head _) Z) Z<|.sW (.tail<|.tail<|.head) Z Z Fx.size27 (Rep.one r1) Z<|.nt<|.rt<|.bR<|.tR<|?_
  refine Sx.ret1 (.inl rfl) rfl (.cell rfl Fx.agg27 (.tail _<|.tail _<|.head _) rfl) fun W s => ?_
  rw [show up n gPrim q = up n (gNd [41]) (up n (gX 0) q.tl) by unfold gPrim;rw [up_altF h5,up_altF h9,up_altF h13,up_altF h17,up_altF h23,up_altT h30,up_bind (Cz.ex _) hv1,up_bind (x := ()) (Cz.nd _) vl_unit,up_pure]]
  exact ⟨(a1,[x1,x2,x3,x4],H1),⟨(by unfold gPrim;exact vl_altF h5 (vl_altF h9 (vl_altF h13 (vl_altF h17 (vl_altF h23 (vl_altT h30 (vl_bind (n := n) hv1 (vl_bind (n := n) (x := ()) vl_unit vl_pure)))))))),u1,r1⟩,rfl,s.pickT (hd := [_,_,_]) (tl := bs) (hd' := [_]) [0] rfl rfl⟩
 rw [acS_F h30]
 refine .sr<|.m Z Z<|.cs (X := Unit) Fx.call91 Z (fun W s => token_st K hq  (s.pickT (hd := [_,_]) (tl := bs) (hd' := [_,_]) [0,1] Z Z)) Z fun _ _ => .yv (.fld Z (fld_tk0 _ _ _)) Z<|.yv (.eql Z Z) Z<|.a Z Z<|.nt<|.cd Z (fun h38 => ?_) (fun h38 => ?_)
 ·skip
  refine .sr<|.m Z Z<|.cs (X := Int64) Fx.call120 Z (fun W s => number_st K hq  (s.pickT (hd := [_,_]) (tl := bs) (hd' := [_,_]) [0,1] Z Z)) Z fun nu hnu => .yv (.build Z (Fx.bld27_0_2 _ _)) Z<|.sW (.tail<|.head) Z Z Fx.size27 (by simp [Value.oneCell',strV]) Z<|.nt<|.rt<|.bR<|.tR<|?_
  refine Sx.ret1 (.inl rfl) rfl (.cell rfl Fx.agg27 (.tail _<|.head _) rfl) fun W s => ?_
  rw [show up n gPrim q = up n gNu q by unfold gPrim;rw [up_altF h5,up_altF h9,up_altF h13,up_altF h17,up_altF h23,up_altF h30];exact last_numU h38]
  exact ⟨(.mk 1 [] nu [],[.int .u8 1,.string ⟨#[]⟩,.int .i64 nu.toInt,.slice none 0 0],H),⟨(by unfold gPrim;exact vl_altF h5 (vl_altF h9 (vl_altF h13 (vl_altF h17 (vl_altF h23 (vl_altF h30 (last_num h38 hnu))))))),.refl,ex_shut (op := 1) (nm := []) (n := nu) (args := []) (by decide) (Rep.empty (p := none) (c := 0) (by decide))⟩,rfl,s.pickT (hd := [_,_]) (tl := bs) (hd' := [_]) [0] rfl rfl⟩
 skip
 refine .sk<|.bN<|.tN<|.sr<|.m Z Z<|.cs (X := Str) Fx.call74 Z (fun W s => name_st K hq  (s.pickT (hd := [_,_]) (tl := bs) (hd' := [_,_]) [0,1] Z Z)) Z fun nm hnm => .a Z Z<|.nt<|.sq<|.sr<|.m Z Z<|.cs (X := Unit) Fx.call118 Z (fun W s => is_ac K (Suf.nm.up hq) [91] (by decide +kernel) (s.pickT (hd := [_,_]) (tl := bs) (hd' := [_,_]) [0,1] Z Z)) Z fun _ _ => .nt<|.cd Z (fun h49 => ?_) (fun h49 => ?_)
 ·have hlt := mu_tl h49
  have hle := mu_up (n := n) (s := q) Shs.nm.le Cz.nm
  refine .sr<|.m Z Z<|.m Z Z<|.cs (X := Ex × List Value × Hp) Fx.call185 Z (fun W s => key_st M hex K (Suf.nm.up hq) 6 nm hnm.2 (by rw [up_ndT h49];omega) (s.pickT (hd := [_,_]) (tl := bs) (hd' := [_,_]) [0,1] Z Z)) Z fun z1 hz1 => ?_
  obtain ⟨a1,c1,H1⟩ := z1
  obtain ⟨hv1,u1,r1⟩ := hz1
  dsimp only at hv1 u1 r1 ⊢
  obtain ⟨x1,x2,x3,x4,rfl⟩ := four (ex_len r1)
  have K1 := K.up u1.up
  have hk1 : vl (gKey 6 nm) (up n gNm q).tl a1 := key_vl h49 hv1
  refine .sW (.tail<|.head) Z Z Fx.size27 (Rep.one r1) Z<|.nt<|.rt<|.tR<|?_
  refine Sx.ret1 (.inl rfl) rfl (.cell rfl Fx.agg27 (.tail _<|.head _) rfl) fun W s => ?_
  rw [show up n gPrim q = up n (gKy 6 nm) (up n gNm q) by unfold gPrim;rw [up_altF h5,up_altF h9,up_altF h13,up_altF h17,up_altF h23,up_altF h30];exact last_key h38 hnm.1 h49]
  exact ⟨(a1,[x1,x2,x3,x4],H1),⟨(by unfold gPrim;exact vl_altF h5 (vl_altF h9 (vl_altF h13 (vl_altF h17 (vl_altF h23 (vl_altF h30 (last_nam h38 (vl_bind (n := n) hnm.1 (vl_altT h49 hk1))))))))),u1,r1⟩,rfl,s.pickT (hd := [_,_]) (tl := bs) (hd' := [_]) [0] rfl rfl⟩
 skip
 refine .sk<|.tN<|.sr<|.m Z Z<|.yv (.build Z (Fx.bld27_0_1 _ _)) Z<|.sW (.tail<|.head) Z Z Fx.size27 (by simp [Value.oneCell',strV]) Z<|.nt<|.rt<|?_
 refine Sx.ret1 (.inl rfl) rfl (.cell rfl Fx.agg27 (.tail _<|.head _) rfl) fun W s => ?_
 rw [show up n gPrim q = up n gNm q by unfold gPrim;rw [up_altF h5,up_altF h9,up_altF h13,up_altF h17,up_altF h23,up_altF h30];exact last_name h38 hnm.1 h49]
 exact ⟨(.mk 5 nm 0 [],[.int .u8 5,strV nm,.int .i64 0,.slice none 0 0],H),⟨(by unfold gPrim;exact vl_altF h5 (vl_altF h9 (vl_altF h13 (vl_altF h17 (vl_altF h23 (vl_altF h30 (last_nam h38 (vl_bind (n := n) hnm.1 (vl_altF h49 vl_pure))))))))),.refl,ex_shut (op := 5) (nm := nm) (n := 0) (args := []) hnm.2 (Rep.empty (p := none) (c := 0) (by decide))⟩,rfl,s.pickT (hd := [_,_]) (tl := bs) (hd' := [_]) [0] rfl rfl⟩
theorem levels_st : ∀ M,ExC 23 (gX 0) M ∧ ExC 172 (gX 5) M
 | 0 => ⟨ExC.zero _ _,ExC.zero _ _⟩
 | M + 1 => by
  obtain ⟨h1,h2⟩ := levels_st M
  have hp : ExC 182 gPrim (M + 1) := primary_st M h1
  have hu : ExC 172 (gX 5) (M + 1) := unary_st M h2 hp
  exact ⟨expr_st _ (conj_st _ (comp_st _ (sum_st _ (product_st _ hu)))),hu⟩
theorem expr_all {H : Hp} {w0 W : World} {bs : List Res} {b n : Nat} {ts : List Tk} {tp : Option Addr} {tc : Nat} {t0 t1 t2 t3 : Value} {q : Sg} (K : Tkm H ts tp tc) (hq : q.r <:+ ts) (s : St H w0 (.box b [.slice tp ts.length tc,.int .i64 (posN ts q : Nat),.int .i64 (n : Nat),t0,t1,t2,t3,.int .i64 (q.o : Nat),.int .i64 (q.e : Nat)] 99 :: bs) W) : Calls Tryz.prog 23 #[.pointer (some ⟨b,0,none⟩)] W fun e W' => ∃ z : Ex × List Value × Hp,(vl (gX 0) q z.1 ∧ HUp w0 H z.2.2 ∧ Rep z.2.2 (dEx .u8 z.1) z.2.1) ∧ e = .returned (.agg z.2.1.toArray) ∧ St z.2.2 w0 (.box b [.slice tp ts.length tc,.int .i64 (posN ts (up n (gX 0) q) : Nat),.int .i64 (n : Nat),t0,t1,t2,t3,.int .i64 ((up n (gX 0) q).o : Nat),.int .i64 ((up n (gX 0) q).e : Nat)] 99 :: bs) W' := (levels_st (q.mu + 1)).1 K hq (Nat.lt_succ_self _) s
end Go.Proofs.YthhoebdlfjffkaaGreatDoor
namespace Go.Sx
open Go.RowKit Go.Par
def Qn (Q : Exit → Act → World → Prop) : Exit → Act → World → Prop
 | .normal => Q .normal
 | _ => fun _ _ => False
def noDef (l : List Oper) : Bool := l.all fun o => match o.op with | .defer _ => false | _ => true
section
variable {dfs : List Deferred} {P : Program} {n m : Nat} {L : Sl} {H : Hp} {w0 : World} {bs : List Res} {Q : Exit → Act → World → Prop} {ops : Array Oper} {F : Fence}
theorem wpIn_of_wpQ [hF : FW F] {o : Oper} {a : Act} {w : World} {K : Act → World → Prop} (hd : ∀ c,o.op ≠ .defer c) (h : o.wp P a w K (Qn Q)) : o.wpIn F m P a w K Q := by
 unfold Oper.wpIn
 refine ⟨fun f _ => hF.fn f,?_⟩
 rw [Oper.semAt_plain F _ _ hd]
 unfold Oper.wp at h
 generalize (execOp a.eval o).run P w = r at *
 cases r with
 | ok z w' =>
  cases z <;> simp only [Oper.upon] at h <;> simp only [Oper.uponIn]
  case value u => exact h
  case skip => exact h
  case defer d => exact h
  case enter f args =>
   refine ⟨fun e => (by rw [hF.depth] at e;cases e),hF.calls (h.mono ?_)⟩
   intro e w'' q
   cases e with
   | returned v => exact q
   | panicked c => exact q.elim
   | outgrown => obtain ⟨_,_,q⟩ := q;exact q.elim
  case row rw args => exact ⟨fun e => (by rw [hF.depth] at e;cases e),hF.rows h⟩
 | halt z w' =>
  cases z <;> simp only [Oper.upon] at h <;> exact h.elim
theorem anyIn [hF : FW F] (hd : ∀ (i : Nat) o,ops[i]? = some o → ∀ c,o.op ≠ .defer c) : ∀ (fuel : Nat) (listed : Array Bool) (a : Act) (w : World),wpAny P .any ops (Qn Q) fuel listed a w → wpAnyIn F m P .any ops Q fuel listed a w
 | 0,_,_,_,h => h
 | fuel + 1,listed,a,w,h => by
  refine ⟨h.1,fun i hi => ?_⟩
  have h1 := h.2 i hi
  unfold wpOp at h1
  unfold wpOpIn
  cases ho : ops[i]? with
  | none =>
   rw [ho] at h1
   exact anyIn hd fuel _ _ _ h1
  | some o =>
   rw [ho] at h1
   dsimp only at h1 ⊢
   cases hw : Region.wanted o (yielded ops a.tmps) with
   | true =>
    rw [hw] at h1
    simp only [if_true] at h1 ⊢
    rcases h1 with h1 | ⟨_,_,_,h1⟩
    ·exact Oper.wpIn_mono (fun a w k => anyIn hd fuel _ a w k) (wpIn_of_wpQ (hd i o ho) h1)
    ·exact h1.elim
   | false =>
    rw [hw] at h1
    simp only [Bool.false_eq_true,if_false] at h1 ⊢
    exact ⟨fun f _ => hF.fn f,anyIn hd fuel _ _ _ h1⟩
theorem noDef_at {l : List Oper} (h : noDef l = true) : ∀ (i : Nat) o,l.toArray[i]? = some o → ∀ c,o.op ≠ .defer c := by
 intro i o ho c e
 have hm : o ∈ l := List.mem_of_getElem? (by simpa using ho)
 have := List.all_eq_true.1 h o hm
 rw [e] at this
 cases this
theorem At.flI [FW F] {id : Nat} {l : List Oper} {trip : List (Nat × Nat × Oper)} (nn : Nat) (ord : List (Nat × Nat)) (hm : P.follows .mixedOrders = true) (hB : flowB l.toArray nn ord = true) (hd : noDef l = true) (ht : ord.map (fun x => (x.1,x.2,l[x.1]!)) = trip)
 (h : FlowP dfs P l.toArray nn w0 n (fun L H bs => At dfs n L H w0 bs (wpList P l.toArray (Qn Q) (l.drop nn))) trip [] L H bs) : At dfs n L H w0 bs ((Code.region id l.toArray true).wpIn F m P Q) :=
 fun a W f s => wpIn_region_any hm (anyIn (noDef_at hd) _ _ _ _ (flowAny nn ord hB ht h a W f s))
theorem At.nlQ (h : At dfs n L H w0 bs (Q .normal)) : At dfs n L H w0 bs (wpList P ops (Qn Q) []) := h
theorem At.bkI {id : Nat} {c : Code} (h : At dfs n L H w0 bs (c.wpIn F m P (Exit.inBlock id Q))) : At dfs n L H w0 bs ((Code.block id c).wpIn F m P Q) := fun a W f s => wpIn_block (h a W f s)
end
structure Apx (H : Hp) (p : Nat) (fx : List Res) (TX : TypeId) (cs : List Value) (b : Nat) (W : World) : Prop where
 blk : W.heap[b]? = some (.cells cs.toArray TX (0,0))
 new : H b = none
 head : ∃ u l t m,W.heap[p]? = some (.cells (u :: l).toArray t m) ∧ u.ownBlock ≠ some b
 ne : b ≠ p
 fix : ∀ x ∈ fx,x.blk ≠ some b
theorem Apx.grow {H : Hp} {p b : Nat} {fx : List Res} {TX : TypeId} {cs : List Value} {A B : World} {row : Option Nat} (h : Apx H p fx TX cs b A) (g : A.grownBy B row) (hr : ∀ r,row = some r → ∃ o : Obj,A.heap[r]? = some o ∧ o.isCells = false) : Apx H p fx TX cs b B := by
 have key : ∀ {k : Nat} {arr : Array Value} {t : TypeId} {m : Nat × Nat},A.heap[k]? = some (Obj.cells arr t m) → B.heap[k]? = some (Obj.cells arr t m) := fun {k arr t m} hk => by
  rw [← hk]
  refine g.block k (block_lt hk) fun e => ?_
  obtain ⟨o,h1,h2⟩ := hr k e.symm
  rw [hk] at h1
  cases h1
  cases h2
 obtain ⟨u,l,t,m,h1,h2⟩ := h.head
 exact ⟨key h.blk,h.new,⟨u,l,t,m,key h1,h2⟩,h.ne,h.fix⟩
section
variable {H : Hp} {w0 : World}
def rsB (e : TypeId) (size p : Nat) (T : TypeId) (fx : List Res) (v : Value) (k : Nat) (xs l : List Value) : List Res := .row e size v k xs :: .box p (v :: l) T :: fx
theorem Apx.of {p b size k : Nat} {e T TX : TypeId} {fx tl : List Res} {v : Value} {xs l cs : List Value} {W : World} (s : St H w0 (.box b cs TX :: (rsB e size p T fx v k xs l ++ tl)) W) : Apx H p fx TX cs b W := by
 have hb := s.own _ (List.mem_cons_self ..)
 have ha := (List.pairwise_cons.1 s.apart).1
 refine ⟨hb.1.2,hb.2 b rfl,⟨v,l,T,_,(s.own (.box p (v :: l) T) (by simp [rsB])).1.2,fun e => ha (.row _ _ v _ _) (by simp [rsB];exact .inl ⟨rfl,rfl,rfl,rfl⟩) b rfl e⟩,fun e => ha (.box p (v :: l) T) (by simp [rsB]) b rfl (by rw [e];rfl),fun x hx e => ha x (by simp [rsB,hx]) b rfl e⟩
theorem Apx.st {p b size k : Nat} {e T TX : TypeId} {fx : List Res} {v : Value} {xs l cs : List Value} {W : World} (h : Apx H p fx TX cs b W) (s : St H w0 (rsB e size p T fx v k xs l) W) : St (fun c => if c = b then some (.cells cs.toArray TX (0,0)) else H c) w0 (rsB e size p T fx v k xs l) W := by
 refine ⟨s.ext,fun c o hc => ?_,fun x hx => ⟨(s.own x hx).1,fun c hc => ?_⟩,s.apart⟩
 ·split at hc
  ·rename_i e;subst e;rw [← hc];exact h.blk
  ·exact s.agr c o hc
 ·rw [if_neg,(s.own x hx).2 c hc]
  intro e
  subst e
  unfold rsB at hx
  rcases List.mem_cons.1 hx with rfl | hx
  ·obtain ⟨u,l2,t,m,h1,h2⟩ := h.head
   have h3 := (s.own (.box p (v :: l) T) (by simp [rsB])).1.2
   rw [h1] at h3
   have h4 : (u :: l2).toArray = (v :: l).toArray := by injection h3 with h3;injection h3
   have h5 := congrArg Array.toList h4
   simp only [List.cons.injEq] at h5
   rw [h5.1] at h2
   exact h2 hc
  ·rcases List.mem_cons.1 hx with rfl | hx
   ·exact h.ne (Option.some.inj hc).symm
   ·exact h.fix x hx hc
theorem up_put {b : Nat} {o : Obj} (h : H b = none) : Up H (fun c => if c = b then some o else H c) := fun c x hc => by
 dsimp only
 rw [if_neg]
 ·exact hc
 ·intro e
  subst e
  rw [h] at hc
  cases hc
theorem At.rfB {α Z : Type} {bs : List Res} {dfs : List Deferred} {P : Program} {n : Nat} {L : Sl} {Q : Exit → Act → World → Prop} {g : Operand} {pt : Tmp} {assign body : Code} {gf : Nat} {lb : Array Value} {enc : α → Value} {S : List α → Prop} {N : Nat} {e T TX : TypeId} {size p : Nat} {fx : List Res}
 (C : List α → Z → Prop) (v : Z → Value) (k : Z → Nat) (xs l : Z → List Value) (z0 : Z) (L2 : α → Nat → Sl) (cx : α → List Value)
 (hg : ev L g = some (.func (.func gf) #[] lb)) (eg : ∀ args w,(callFunc gf args).run P w = .ok (.enter gf args) w) (ht : Nat.blt pt n = true)
 (hseq : ∀ w,Agr H w → SeqStopsK Fence.wide 8 P gf lb (fun x => #[enc x]) (KpH H) S (fun _ => True) N w)
 (h0 : C [] z0) (hb : bs = rsB e size p T fx (v z0) (k z0) (xs z0) (l z0)) (hn : nobj fx = true)
 (hass : ∀ l x bs' K,(∀ b,At [] n (L2 x b) H w0 (.box b (cx x) TX :: bs') K) → At [] n ((pt,enc x) :: L) H w0 bs' (assign.wpIn (Fence.wide.inRound l) 7 P (Exit.then K (fun _ _ _ => False))))
 (hbody : ∀ l' pre x z tl b H2,C pre z → pre.length < N → Up H H2 → MemAt H2 b 0 (cx x) → At [] n (L2 x b) H2 w0 (rsB e size p T fx (v z) (k z) (xs z) (l z) ++ tl) (body.wpIn (Fence.wide.inRound l') 7 P (Sx.rE C (fun z => rsB e size p T fx (v z) (k z) (xs z) (l z)) H w0 tl (pre ++ [x]))))
 (hdone : ∀ D ys z,S ys → C ys z → At ({ target := .collected D,args := #[] } :: dfs) n L H w0 (.obj D (.deferred (some [])) :: rsB e size p T fx (v z) (k z) (xs z) (l z)) (Q .normal)) :
 At dfs n L H w0 bs ((Code.rangeFunc g #[pt] assign body).wp P Q) := by
 intro a W f s
 subst hb
 have hnz : ∀ z,nobj (rsB e size p T fx (v z) (k z) (xs z) (l z)) = true := fun z => hn
 have hB : w0.heap.size ≤ W.heap.size := s.ext.size
 have hH : ∀ r,W.heap.size ≤ r → H r = none := fun r hr => s.agr.lt hr
 refine (wpIn_wide (n := 9)).1 (wpIn_rangeFunc_ownH (n := 9) (ps := #[pt]) (α := α) (N := N) (S := S) (Sp := fun _ => True) (encs := fun x => #[enc x]) (Kp := KpH H) (w0 := W) rfl (by decide) (f.ev hg) trivial eg (hseq W s.agr) (fun h k q => k (h q)) ?_ (Below.refl _ _) (fun _ => rfl)
  (fun pre W => ∃ z,C pre z ∧ St H w0 (rsB e size p T fx (v z) (k z) (xs z) (l z)) W) (fun _ _ _ => False) (ownSt hB hH fun _ z _ => hnz z) (fun _ _ _ _ _ h _ _ => h.elim) ⟨z0,h0,s⟩ (fun x a' W => ∃ b,Fr [] n (L2 x b) a' ∧ Apx H p fx TX (cx x) b W)
  (fun x a' _ A B row h hg hr => by obtain ⟨b,h1,h2⟩ := h;exact ⟨b,h1,h2.grow hg fun r e => (hr r e).2⟩) ?_ ?_ ?_ (fun _ _ _ _ _ _ h => h.elim))
 ·intro W1 l o o' hl ho _ _ q b ob e
  have hne : b ≠ l := fun h => by subst h;rw [hH b hl] at e;cases e
  exact (World.putObj_heap_other hne).trans (q b ob e)
 ·rintro l' pre x W1 K ⟨z,hz,s1⟩ hK
  have f1 : Fr [] n ((pt,enc x) :: L) { tmps := (#[pt].zip #[enc x]).foldl (fun t (p,v) => t.setIfInBounds p v) a.tmps,defers := [] } := by
   have f2 : Fr [] n L { a with defers := [] } := ⟨f.size,rfl,f.slot⟩
   have e : (#[pt].zip #[enc x]).foldl (fun t (x : Tmp × Value) => match x with | (p,v) => t.setIfInBounds p v) a.tmps = a.tmps.setIfInBounds pt (enc x) := by simp
   rw [e]
   exact f2.put ht (enc x)
  refine hass l' x _ K ?_ _ W1 f1 (s1.tailOf (hnz z) hB hH)
  intro b a' W2 f' s2
  have s3 := s2.drop
  exact hK a' W2 s3.keepsFrom (fun _ => s3.agr) ⟨z,hz,s3.front⟩ ⟨b,f',Apx.of s2⟩
 ·rintro l' pre x a' W1 hl _ ⟨z,hz,s1⟩ ⟨b,f',hx⟩ hlen
  have s2 := hx.st s1
  have hH2 : ∀ r,W1.heap.size ≤ r → (if r = b then some (Obj.cells (cx x).toArray TX (0,0)) else H r) = none := fun r hr => s2.agr.lt hr
  have ht := s1.tailOf (B := W.heap.size) (hnz z) hB hH
  have s4 : St (fun c => if c = b then some (.cells (cx x).toArray TX (0,0)) else H c) w0 (rsB e size p T fx (v z) (k z) (xs z) (l z) ++ Sx.tailOf W.heap.size W1) W1 := by
   refine ⟨ht.ext,s2.agr,fun y hy => ?_,ht.apart⟩
   rcases List.mem_append.1 hy with h | h
   ·exact s2.own y h
   ·refine ⟨(ht.own y hy).1,fun c hc => ?_⟩
    rw [if_neg,(ht.own y hy).2 c hc]
    rintro rfl
    rcases mem_tailOf h with rfl | ⟨d,o,rfl,ho,hc2,_⟩
    ·cases hc
    ·obtain rfl : d = c := Option.some.inj hc
     rw [hx.blk] at ho
     cases ho
     cases hc2
  refine wpIn_mono (hbody l' pre x z _ b _ hz hlen (up_put hx.new) ⟨_,_,_,if_pos rfl,fun j u e => by simpa using e⟩ a' W1 f' s4) ?_
  intro e a2 W2 h
  cases e with
  | normal =>
   obtain ⟨z',hz',s2⟩ := h
   exact ⟨s2.keepsFrom,fun _ => s2.agr,z',hz',s2.front⟩
  | _ => exact h.elim
 ·rintro D ys W1 hD hS ⟨z,hz,s1⟩ hd
  refine hdone D ys z hS hz _ W1 ⟨f.size,by show _ :: _ = _;rw [f.defers],f.slot⟩ ⟨s1.ext,s1.agr,?_,.cons ?_ s1.apart⟩
  ·intro x hx
   rcases List.mem_cons.1 hx with rfl | hx
   ·exact ⟨⟨Nat.le_trans hB hD,hd⟩,fun b e => by obtain rfl : D = b := Option.some.inj e;exact hH D hD⟩
   ·exact s1.own x hx
  ·intro y hy b e e'
   obtain rfl : D = b := Option.some.inj e
   exact nobj_ne s1 (hnz z) hd rfl y hy e'
end
end Go.Sx
namespace Go.Proofs.YthhoebdlfjffkaaGreatDoor
open Go.RowKit Go.Par Go.Sx
theorem u8d (c k : UInt8) : decide (((c.toNat : Nat) : Int) = (k.toNat : Nat)) = decide (c = k) := by
 rw [Bool.eq_iff_iff,decide_eq_true_eq,decide_eq_true_eq]
 exact ⟨fun h => UInt8.toNat_inj.1 (by omega),fun h => by rw [h]⟩
set_option maxRecDepth 100000 in
theorem blank_any (c : UInt8) (w : World) : Calls Tryz.prog 111 #[byteV c] w fun r w' => r = .returned (.bool (blkB c)) ∧ Ext w w' := by
 refine Sx.enter (H := (fun _ => none)) Tryz.func111 rfl Tryz.ntmps111 rfl (fun _ _ e => by cases e) ?_
 refine .sr<|.a Z Z<|.ns<|.m Z Z<|.yv (.cast (.eql Z Z) (congrArg Value.bool (u8d c 32))) Z<|.m Z Z<|.b2 (fun h5 => ?_) (fun h5 => ?_)
 ·skip
  refine .gF Z Z Z Z<|.gF Z Z Z Z<|.yv (.pickT Z Z) Z<|.m Z Z<|.gF Z Z Z Z<|.gF Z Z Z Z<|.yv (.pickT Z Z) Z<|.m Z Z<|.gF Z Z Z Z<|.gF Z Z Z Z<|.yv (.pickT Z Z) Z<|.a Z Z<|.nt<|.rt<|?_
  refine Sx.ret1 (.inl rfl) rfl (.tmp rfl) fun W s => ⟨?_,s.ext⟩
  first
   | (unfold blkB;rw [h5];rfl)
   | (unfold blkB;rw [h5,h9];rfl)
   | (unfold blkB;rw [h5,h9,h13];rfl)
 skip
 refine .gd Z Z<|.yv (.move Z) Z<|.gd Z Z<|.yv (.cast (.eql Z Z) (congrArg Value.bool (u8d c 9))) Z<|.yv (.pickF Z Z) Z<|.m Z Z<|.b2 (fun h9 => ?_) (fun h9 => ?_)
 ·skip
  refine .gF Z Z Z Z<|.gF Z Z Z Z<|.yv (.pickT Z Z) Z<|.m Z Z<|.gF Z Z Z Z<|.gF Z Z Z Z<|.yv (.pickT Z Z) Z<|.a Z Z<|.nt<|.rt<|?_
  refine Sx.ret1 (.inl rfl) rfl (.tmp rfl) fun W s => ⟨?_,s.ext⟩
  first
   | (unfold blkB;rw [h5];rfl)
   | (unfold blkB;rw [h5,h9];rfl)
   | (unfold blkB;rw [h5,h9,h13];rfl)
 skip
 refine .gd Z Z<|.yv (.move Z) Z<|.gd Z Z<|.yv (.cast (.eql Z Z) (congrArg Value.bool (u8d c 10))) Z<|.yv (.pickF Z Z) Z<|.m Z Z<|.b2 (fun h13 => ?_) (fun h13 => ?_)
 ·skip
  refine .gF Z Z Z Z<|.gF Z Z Z Z<|.yv (.pickT Z Z) Z<|.a Z Z<|.nt<|.rt<|?_
  refine Sx.ret1 (.inl rfl) rfl (.tmp rfl) fun W s => ⟨?_,s.ext⟩
  first
   | (unfold blkB;rw [h5];rfl)
   | (unfold blkB;rw [h5,h9];rfl)
   | (unfold blkB;rw [h5,h9,h13];rfl)
 skip
 refine .gd Z Z<|.yv (.move Z) Z<|.gd Z Z<|.yv (.cast (.eql Z Z) (congrArg Value.bool (u8d c 13))) Z<|.yv (.pickF Z Z) Z<|.a Z Z<|.nt<|.rt<|?_
 refine Sx.ret1 (.inl rfl) rfl (.tmp rfl) fun W s => ⟨?_,s.ext⟩
 first
  | (unfold blkB;rw [h5];rfl)
  | (unfold blkB;rw [h5,h9];rfl)
  | (unfold blkB;rw [h5,h9,h13];rfl)
def notNl (c : UInt8) : Bool := !decide (c = 10)
theorem u8n (c k : UInt8) : decide (¬ ((c.toNat : Nat) : Int) = (k.toNat : Nat)) = !decide (c = k) := by rw [← u8d,decide_not]
set_option maxRecDepth 100000 in
theorem skip1_any (c : UInt8) (w : World) : Calls Tryz.prog 113 #[byteV c] w fun r w' => r = .returned (.bool (notNl c)) ∧ Ext w w' := by
 refine Sx.enter (H := (fun _ => none)) Tryz.func113 rfl Tryz.ntmps113 rfl (fun _ _ e => by cases e) ?_
 refine .sr<|.a Z Z<|.ns<|.m Z Z<|.yv (.cast (.neq Z Z) (congrArg Value.bool (u8n c 10))) Z<|.a Z Z<|.nt<|.rt<|?_
 exact Sx.ret1 (.inl rfl) rfl (.tmp rfl) fun W s => ⟨rfl,s.ext⟩
theorem pre_cons (q : UInt8 → Bool) (c : UInt8) (r : Str) : pre q (c :: r) = if q c then pre q r + 1 else 0 := by
 unfold pre
 rw [List.takeWhile_cons]
 split <;> simp
theorem skip_b : ∀ (m : Str),skipS false (m.drop (pre blkB m)) = skipS false m
 | [] => rfl
 | c :: r => by
  rw [pre_cons]
  split
  ·rename_i h
   rw [List.drop_succ_cons,skip_b r,skipS_blk h]
  ·rfl
theorem skip_c : ∀ (m : Str),skipS false (m.drop (pre notNl m)) = skipS true m
 | [] => by rw [List.drop_nil,skipS_nil,skipS_nil]
 | c :: r => by
  rw [pre_cons]
  split
  ·rename_i h
   unfold notNl at h
   rw [List.drop_succ_cons,skip_c r,skipS_com (by simpa using h)]
  ·rename_i h
   have e : c = 10 := by unfold notNl at h;simpa using h
   subst e
   rw [List.drop_zero,skipS_end]
theorem pre_hd (q : UInt8 → Bool) : ∀ (m : Str) (c : UInt8) (r : Str),m.drop (pre q m) = c :: r → q c = false
 | [],c,r,h => by cases h
 | x :: m,c,r,h => by
  rw [pre_cons] at h
  split at h
  ·exact pre_hd q m c r (by simpa using h)
  ·rename_i hx
   rw [List.drop_zero] at h
   injection h with h1 _
   subst h1
   simpa using hx
theorem skip_two {m : Str} (h : hasP m [47,47] = true) : skipS false (m.drop (pre notNl m)) = skipS false m ∧ 1 ≤ pre notNl m := by
 rw [hasP_pre] at h
 obtain ⟨r,rfl⟩ := List.isPrefixOf_iff_prefix.1 h
 refine ⟨?_,?_⟩
 ·rw [skip_c]
  exact (skipS_two r).symm
 ·show 1 ≤ pre notNl (47 :: 47 :: r)
  rw [pre_cons,if_pos (by decide)]
  omega
theorem skip_stop {m : Str} (h : hasP (m.drop (pre blkB m)) [47,47] = false) : skipS false m = m.drop (pre blkB m) := by
 rw [← skip_b]
 cases e : m.drop (pre blkB m) with
 | nil => rw [skipS_nil]
 | cons c r =>
  refine skipS_stop (pre_hd _ _ _ _ e) ?_
  rintro ⟨rfl,h2⟩
  rw [e] at h
  cases r with
  | nil => cases h2
  | cons d r =>
   obtain rfl : d = 47 := Option.some.inj h2
   rw [hasP_pre] at h
   rw [show ([47,47] : Str).isPrefixOf (47 :: 47 :: r) = true by simp [List.isPrefixOf]] at h
   cases h
theorem skipN_at {t : Str} {o : Nat} (ho : o ≤ t.length) (h : skipS false t = t.drop o) : skipN t = o := by
 unfold skipN
 rw [h,List.length_drop]
 omega
set_option maxRecDepth 100000 in
theorem lskip_any (t : Str) (hl : t.length ≤ 9223372036854775807) (w : World) : Calls Tryz.prog 69 #[strV t] w fun r w' => r = .returned (.int .i64 (skipN t : Nat)) ∧ Ext w w' := by
 refine Sx.enter (H := (fun _ => none)) Tryz.func69 rfl Tryz.ntmps69 rfl (fun _ _ e => by cases e) ?_
 refine .sr<|.a Z Z<|.ns<|.a Z Z<|.nt<|.bk<|.lp (X := Nat) [(0,_)] ⟨rfl,trivial⟩ [] (fun o => [(3,.int .i64 (o : Nat))]) (fun o => (fun _ => none)) (fun o => []) (fun o => o ≤ t.length ∧ skipS false (t.drop o) = skipS false t) (fun o => t.length - o) 0 (fun _ s => s) ⟨rfl,trivial⟩ ⟨Nat.zero_le _,rfl⟩ fun o hC => ?_
 obtain ⟨ho,hs⟩ := hC
 have hp1 := pre_le blkB (t.drop o)
 rw [List.length_drop] at hp1
 replace hp1 : (o + (pre blkB (t.drop o))) ≤ t.length := by omega
 refine .bk<|.sr<|.m Z Z<|.m Z Z<|.m Z Z<|.yv (.dropS Fx.str9 Z Z (lo := o) Z ho) Z<|.yv (.call Fx.call110 Z (fun W s => prefix_any 111 blkB Fx.call111 blank_any _ (by rw [List.length_drop];omega) W)) Z<|.yv (.add Z Z (c := (((o + (pre blkB (t.drop o))) : Nat) : Int)) ((w6 (by omega)).trans (by omega))) Z<|.a Z Z<|.nt<|.sq<|.sr<|.m Z Z<|.m Z Z<|.yv (.dropS Fx.str9 Z Z (lo := (o + (pre blkB (t.drop o)))) Z hp1) Z<|.yv (.call Fx.call112 Z (fun W s => hasPrefix_any _ [47,47] W)) Z<|.yv (.not Z) Z<|.nt<|.cd Z (fun h14 => ?_) (fun h14 => ?_)
 ·have hh : hasP (t.drop (o + (pre blkB (t.drop o)))) [47,47] = false := by simpa using h14
  refine .sr<|.m Z Z<|.a Z Z<|.nt<|.rt<|.tR<|.bR<|.tR<|.bR<|?_
  exact Sx.ret1 (.inl rfl) rfl (.tmp rfl) fun W s => ⟨by rw [skipN_at hp1 (by rw [← hs,← List.drop_drop];exact skip_stop (by rw [List.drop_drop];exact hh))],s.ext⟩
 have hh : hasP (t.drop (o + (pre blkB (t.drop o)))) [47,47] = true := by simpa using h14
 obtain ⟨hs2,hg2⟩ := skip_two hh
 have hp2 := pre_le notNl (t.drop (o + (pre blkB (t.drop o))))
 rw [List.length_drop] at hp2
 exact .sk<|.tN<|.rg<|.m Z Z<|.m Z Z<|.m Z Z<|.yv (.dropS Fx.str9 Z Z (lo := (o + (pre blkB (t.drop o)))) Z hp1) Z<|.yv (.call Fx.call110 Z (fun W s => prefix_any 113 notNl Fx.call113 skip1_any _ (by rw [List.length_drop];omega) W)) Z<|.yv (.add Z Z (c := (((o + (pre blkB (t.drop o))) + (pre notNl (t.drop (o + (pre blkB (t.drop o))))) : Nat) : Int)) ((w6 (by omega)).trans (by omega))) Z<|.a Z Z<|.nl<|.bN<|.tN<|.ag ((o + (pre blkB (t.drop o))) + (pre notNl (t.drop (o + (pre blkB (t.drop o)))))) ⟨rfl,trivial⟩ ⟨rfl,trivial⟩ (fun _ s => s) ⟨by omega,by rw [← List.drop_drop,hs2,← List.drop_drop,skip_b,hs]⟩ (by omega)
set_option maxRecDepth 100000 in
theorem lex_any (H : Hp) (t : Str) (w : World) (hA : Agr H w) : Calls Tryz.prog 37 #[strV t] w fun r w' => ∃ (b : Nat) (H' : Hp),MemAt H' b 0 [strV t] ∧ r = .returned (.func (.func 68) #[] #[.pointer (some ⟨b,0,none⟩)]) ∧ Grow H w H' w' := by
 refine Sx.enter (H := H) Tryz.func37 rfl Tryz.ntmps37 rfl hA ?_
 refine .sr<|.bx Z Z Z fun b1 => .a Z Z<|.ns<|.yv (.mkF Z Z) Z<|.a Z Z<|.nt<|.rt<|?_
 refine Sx.freezeBox fun H1 u1 m1 => ?_
 exact Sx.ret1 (.inl rfl) rfl (.tmp rfl) fun W s => ⟨b1,H1,m1,rfl,u1.grow s⟩
abbrev TkS := {x : Tk // x.t.length ≤ 1000000}
set_option maxRecDepth 100000 in
theorem lex_seq (H : Hp) (G : Gl H) (t : Str) (hl : t.length ≤ 1000000000000000000) (hs : ∀ x ∈ lexR t,x.t.length ≤ 1000000) (b : Nat) (hm : MemAt H b 0 [strV t]) (w : World) (hA : Agr H w) :
 SeqStopsK Fence.wide 8 Tryz.prog 68 #[.pointer (some ⟨b,0,none⟩)] (fun x : TkS => #[.agg (cTk .u8 x.1).toArray]) (KpH H) (fun xs => xs.map (·.1) = lexR t) (fun _ => True) (t.length + 1) w := by
 refine Sx.seqStops (lb := [.pointer (some ⟨b,0,none⟩)]) Tryz.func68 rfl Tryz.ntmps68 rfl (fun W hW => hA.ext hW) ?_
 intro l Jg Jx W hJs hJxs hY hJ0
 refine .sr<|.yv (.loadM Z Fx.agg9 hm (k := 0) Z Z) Z<|.yv (.call Fx.call69 Z (fun W s => lskip_any t (by omega) W)) Z<|.a Z Z<|.nt<|.bk<|.lj (X := Nat × List TkS) (fun z => [(0,.func (.yield l) #[] #[]),(1,.pointer (some ⟨b,0,none⟩)),(3,.int .i64 (z.1 : Nat))]) (fun z => Jg z.2) (fun z => z.1 ≤ t.length ∧ z.2.length ≤ z.1 ∧ z.2.map (·.1) ++ toks z.1 (t.drop z.1) = lexR t) (fun z => t.length - z.1) (skipN t,[]) ⟨skipN_le t,Nat.zero_le _,(lexR_toks t).symm⟩ ⟨rfl,rfl,rfl,trivial⟩ hJ0 fun z w1 hC hJ1 => ?_
 obtain ⟨o,pre1⟩ := z
 obtain ⟨ho,hpl,htk⟩ := hC
 dsimp only at ho hpl htk hJ1 ⊢
 refine .sq<|.sr<|.m Z Z<|.yv (.loadM Z Fx.agg9 hm (k := 0) Z Z) Z<|.yv (.lenS Fx.str9 Z) Z<|.yv (.lss Z Z) Z<|.nt<|.cd Z (fun h11 => ?_) (fun h11 => ?_)
 ·try simp only [dt] at h11
  have hlt : o < t.length := by omega
  have hm0 : t.drop o ≠ [] := by intro e;have := congrArg List.length e;rw [List.length_drop] at this;simp at this;omega
  have hrk := readK_bnd hm0
  rw [List.length_drop] at hrk
  have hx5 : ((t.drop o).take (readK (t.drop o)).2).length ≤ 1000000 := hs ⟨(readK (t.drop o)).1,(t.drop o).take (readK (t.drop o)).2,o⟩ (by rw [← htk,toks_cons hm0];simp)
  refine .sk<|.tN<|.sq<|.bk<|.sr<|.yv (.loadM Z Fx.agg9 hm (k := 0) Z Z) Z<|.m Z Z<|.yv (.dropS Fx.str9 Z Z (lo := o) Z (by omega)) Z<|.yv (.call Fx.call70 Z (fun W s => read_any H G (t.drop o) (by rw [List.length_drop];omega) hm0 W s.agr)) Z<|.m Z Z<|.yv (.extract Z Z) Z<|.yv (.extract Z Z) Z<|.a Z Z<|.a Z Z<|.nt<|.sq<|.sq<|.rgW 8<|.mI Z Z<|.mI Z Z<|.yvI (.loadM Z Fx.agg9 hm (k := 0) Z Z) Z<|.mI Z Z<|.mI Z Z<|.mI Z Z<|.yvI (.add Z Z (c := ((o + (readK (t.drop o)).2 : Nat) : Int)) ((w6 (by omega)).trans (by omega))) Z<|.yvI (.cast (.midS Fx.str9 Z Z Z (lo := o) (hi := o + (readK (t.drop o)).2) Z Z (by omega) (by omega)) (by rw [List.drop_take,Nat.add_sub_cancel_left])) Z<|.mI Z Z<|.yvI (.build Z (Fx.bld96_0_1_2 _ _ _)) Z<|.yd Z Z Z (fun W s => hY pre1 ⟨⟨(readK (t.drop o)).1,(t.drop o).take (readK (t.drop o)).2,o⟩,hx5⟩ W (hJs _ _ _ hJ1 s.ext) (by omega)) (fun w2 hj2 => ?_) (fun w2 hj2 => ?_)
  ·have hsd := skipN_le ((t.drop o).drop (readK (t.drop o)).2)
   rw [List.length_drop,List.length_drop] at hsd
   exact .yvI (.not Z) Z<|.nlI<|.tN<|.cF Z<|.sk<|.tN<|.rg<|.m Z Z<|.m Z Z<|.yv (.add Z Z (c := ((o + (readK (t.drop o)).2 : Nat) : Int)) ((w6 (by omega)).trans (by omega))) Z<|.a Z Z<|.nl<|.bN<|.tN<|.rg<|.m Z Z<|.yv (.loadM Z Fx.agg9 hm (k := 0) Z Z) Z<|.m Z Z<|.yv (.cast (.dropS Fx.str9 Z Z (lo := o + (readK (t.drop o)).2) Z (by omega)) (by rw [← List.drop_drop];rfl)) Z<|.yv (.call Fx.call69 Z (fun W s => lskip_any ((t.drop o).drop (readK (t.drop o)).2) (by rw [List.length_drop,List.length_drop];omega) W)) Z<|.yv (.add Z Z (c := ((o + (readK (t.drop o)).2 + skipN ((t.drop o).drop (readK (t.drop o)).2) : Nat) : Int)) ((w6 (by omega)).trans (by omega))) Z<|.a Z Z<|.nt<|.aj (x := (o,pre1)) (o + (readK (t.drop o)).2 + skipN ((t.drop o).drop (readK (t.drop o)).2),pre1 ++ [⟨⟨(readK (t.drop o)).1,(t.drop o).take (readK (t.drop o)).2,o⟩,hx5⟩]) ⟨by dsimp only;omega,by dsimp only;rw [List.length_append];simp;omega,by dsimp only;rw [← htk,List.map_append,List.append_assoc];congr 1;rw [toks_cons hm0,show (t.drop o).drop ((readK (t.drop o)).2 + skipN ((t.drop o).drop (readK (t.drop o)).2)) = t.drop (o + (readK (t.drop o)).2 + skipN ((t.drop o).drop (readK (t.drop o)).2)) by rw [Nat.add_assoc];exact List.drop_drop];rfl⟩ (by dsimp only;omega) hj2 ⟨rfl,rfl,rfl,trivial⟩
  refine .yvI (.not Z) Z<|.nlI<|.tN<|.cT Z<|.rt<|.tR<|.bR<|.tR<|.tR<|.bR<|?_
  refine Sx.retN (.inl rfl) rfl .nil rfl fun W s => ⟨⟨_,rfl⟩,.inr ⟨_,trivial,hJxs _ _ _ hj2 s.ext⟩⟩
 try simp only [df] at h11
 have hoe : o = t.length := by omega
 refine .ex<|.tE<|.tE<|.bE<|?_
 refine Sx.retN (.inr rfl) rfl .nil rfl fun W s => ⟨⟨_,rfl⟩,.inl ⟨pre1,?_,hJs _ _ _ hJ1 s.ext⟩⟩
 rw [← htk,hoe,List.drop_length,toks_nil,List.append_nil]
theorem repZ_one {H : Hp} {z : Nat} {d : D} {l : List Value} (h : RepZ H z [d] l) : Rep H d l := by
 unfold RepZ at h
 obtain ⟨x,y,rfl,_,h1,h2⟩ := h
 unfold RepZ at h2
 subst h2
 rw [List.append_nil]
 exact h1
theorem tok_row {H H' : Hp} {x : TkS} {l : List Value} (h : RepZ H 3 [dTk .u8 x.1] l) : RepZ H' 3 (List.map (dTk .u8) (List.map (·.1) [x])) l := by
 obtain ⟨rfl,_⟩ := tk_open (repZ_one h)
 exact .single (tk_shut x.2) Z
theorem pre_take (q : UInt8 → Bool) : ∀ (m : Str),pre q (m.take (pre q m)) = pre q m
 | [] => rfl
 | c :: r => by
  rw [pre_cons]
  cases h : q c with
  | false => rw [if_neg (by decide)];rfl
  | true => rw [if_pos rfl,List.take_succ_cons,pre_cons,h,if_pos rfl,pre_take q r]
theorem readK_dig {m : Str} (h : m ≠ []) (hk : (readK m).1 = 3) : pre digB (m.take (readK m).2) = (m.take (readK m).2).length := by
 have key : (readK m).2 = pre digB m := by
  match m,h with
  | c :: r,_ =>
   cases h1 : letB c with
   | true =>
    exfalso
    revert hk
    cases h4 : words.contains ((c :: r).take (pre insB (c :: r))) with
    | true => simp only [readK,List.headD_cons,h1,h4,if_true];decide
    | false =>
     by_cases h5 : pre insB (c :: r) ≤ 12
     ·simp only [readK,List.headD_cons,h1,h4,h5,if_true,Bool.false_eq_true,if_false];decide
     ·simp only [readK,List.headD_cons,h1,h4,h5,if_true,Bool.false_eq_true,if_false];decide
   | false =>
    cases h4 : digB c with
    | true =>
     by_cases h5 : pre digB (c :: r) = 1 ∨ c ≠ 48
     ·simp only [readK,List.headD_cons,h1,h4,h5,if_true,Bool.false_eq_true,if_false]
     ·exfalso;revert hk;simp only [readK,List.headD_cons,h1,h4,h5,if_true,Bool.false_eq_true,if_false];decide
    | false =>
     exfalso
     revert hk
     cases hx : symbols.find? (fun x => x.isPrefixOf (c :: r)) <;> simp only [readK,List.headD_cons,h1,h4,hx,Bool.false_eq_true,if_false] <;> decide
 rw [key,pre_take,List.length_take,Nat.min_eq_left (pre_le digB m)]
theorem tokF_num : ∀ (f o : Nat) (m : Str),∀ t ∈ tokF f o m,t.k = 3 → pre digB t.t = t.t.length
 | 0,_,_,t,h => by cases h
 | f + 1,o,m,t,h => by
  by_cases h0 : m = []
  ·rw [h0,tokF_nil] at h;cases h
  ·rw [tokF_step h0] at h
   rcases List.mem_cons.1 h with rfl | h
   ·exact fun hk => readK_dig h0 hk
   ·exact tokF_num f _ _ t h
theorem lexR_num (s : Str) : ∀ t ∈ lexR s,t.k = 3 → pre digB t.t = t.t.length := tokF_num _ _ _
theorem tokF_short : ∀ (f o : Nat) (m : Str),∀ t ∈ tokF f o m,t.t.length ≤ m.length
 | 0,_,_,t,h => by cases h
 | f + 1,o,m,t,h => by
  by_cases h0 : m = []
  ·rw [h0,tokF_nil] at h;cases h
  ·rw [tokF_step h0] at h
   rcases List.mem_cons.1 h with rfl | h
   ·show (m.take _).length ≤ _
    rw [List.length_take]
    omega
   ·have h1 := tokF_short f _ _ t h
    have h2 := skipS_len false (m.drop (readK m).2)
    rw [List.length_drop] at h2
    omega
theorem lexR_short (s : Str) : ∀ t ∈ lexR s,t.t.length ≤ s.length := fun t h => Nat.le_trans (tokF_short _ _ _ t h) (skipS_len false s)
set_option maxRecDepth 100000 in
theorem start_any (H : Hp) (G : Gl H) (t : Str) (ht : t.length ≤ 9223372036854775807) (w : World) (hA : Agr H w) :
 Calls Tryz.prog 22 #[strV t] w fun e W' => ∃ z : Nat × Hp × Option Addr × Nat,(Tkm z.2.1 (sg0 t).r z.2.2.1 z.2.2.2 ∧ HUp w H z.2.1) ∧ e = .returned (.pointer (some ⟨z.1,0,none⟩)) ∧ St z.2.1 w [.box z.1 [.slice z.2.2.1 ((sg0 t).r).length z.2.2.2,.int .i64 (posN ((sg0 t).r) (sg0 t) : Nat),.int .i64 (t.length : Nat),.string ⟨#[]⟩,.slice none 0 0,.slice none 0 0,.slice none 0 0,.int .i64 ((sg0 t).o : Nat),.int .i64 ((sg0 t).e : Nat)] 99] W' := by
 refine Sx.enterM (H := H) Tryz.func22 rfl Tryz.ntmps22 rfl hA ?_
 refine .sr<|.a Z Z<|.ns<|.m Z Z<|.yv (.lenS Fx.str9 Z) Z<|.yv (.build Z (Fx.bld99_2 _)) Z<|.bx Z Z Z fun b8 => .al Fx.zero65 Z fun b3 => .st .head Z Z Fx.size65 Z (nb Z) Z<|.nt<|.sq<|.sr<|.m Z Z<|.yv (.lenS Fx.str9 Z) Z<|.yv (.gtr Z Z) Z<|.nt<|.cd Z (fun h11 => ?_) (fun h11 => ?_)
 ·try simp only [dt] at h11
  have hbig : 20000 < t.length := by omega
  have e0 : sg0 t = ⟨[],3,0⟩ := by unfold sg0;rw [if_pos hbig]
  refine .sr<|.yv (.load Z Fx.agg65 (.head _) Z) Z<|.yv (.nilCheck Z) Z<|.yv (.fieldAddr Z Fx.field99_5) Z<|.st (.tail<|.head) Z Z Fx.size28 Z (nb Z) Z<|.ns<|.yv (.load Z Fx.agg65 (.head _) Z) Z<|.a Z Z<|.nt<|.rt<|.tR<|?_
  refine Sx.ret0M (.inl rfl) ?_
  refine Sx.ret1 (.inl rfl) rfl (.tmp rfl) fun W s => ⟨(b8,H,none,0),⟨by rw [e0];exact ⟨Rep.empty (Nat.zero_le _),fun _ h => (by cases h),fun _ h => (by cases h),fun _ h => (by cases h)⟩,.refl⟩,rfl,?_⟩
  rw [e0]
  exact s.pick [1] [_] rfl rfl
 try simp only [df] at h11
 have hl : t.length ≤ 20000 := by omega
 have e0 : sg0 t = ⟨lexR t,0,0⟩ := by unfold sg0;rw [if_neg (by omega)]
 refine .sk<|.tN<|.sq<|.sr<|.m Z Z<|.ct (X := Nat) Fx.call37 Z (fun W s => lex_any H t W s.agr) Z fun b1 H1 m1 u1 => .nt<|.bk<|?_
 refine Sx.row0 96 3 ?_
 refine At.pm [0,2,1] [_,_,_] rfl rfl ?_
 refine At.rfB (α := TkS) (Z := Value × Nat × List Value) (N := t.length + 1) (e := 96) (T := 99) (TX := 96) (size := 3) (p := b8) (fx := [.box b3 [.pointer (some ⟨b8,0,none⟩)] 65]) (enc := fun x : TkS => .agg (cTk .u8 x.1).toArray) (S := fun xs => xs.map (·.1) = lexR t)
  (fun pre z => z.2.1 = pre.length ∧ RepZ H1 3 ((pre.map (·.1)).map (dTk .u8)) z.2.2) (fun z => z.1) (fun z => z.2.1) (fun z => z.2.2) (fun _ => [.int .i64 0,.int .i64 (t.length : Nat),.string ⟨#[]⟩,.slice none 0 0,.slice none 0 0,.slice none 0 0,.int .i64 0,.int .i64 0]) (.slice none 0 0,0,[])
  (fun _ b => [(3,.pointer (some ⟨b3,0,none⟩)),(4,.pointer (some ⟨b,0,none⟩))]) (fun x => cTk .u8 x.1) rfl (fun _ _ => run_callFunc Fx.call68) rfl (fun w hA => lex_seq H1 (G.up u1.up) t (by omega) (fun x hx => Nat.le_trans (lexR_short t x hx) (by omega)) b1 m1 w hA) ⟨rfl,RepZ.nil⟩ rfl rfl ?_ ?_ ?_
 ·intro l x bs' K h
  exact .rgI<|.alI Fx.zero96 Z fun b => .sWI .head Z Z Fx.size96 (by simp [cTk,Value.oneCell',strV]) Z<|.nlI<|.tN<|fun a W f s => h b a W (f.sub ⟨rfl,rfl,trivial⟩) s
 ·intro l' pre x z tl b H2 hC hlen u2 m2
  obtain ⟨v,k,xs⟩ := z
  obtain ⟨hk,hz⟩ := hC
  dsimp only at hk hz ⊢
  change At [] _ _ H2 w (.row 96 3 v k xs :: .box b8 (v :: [.int .i64 0,.int .i64 (t.length : Nat),.string ⟨#[]⟩,.slice none 0 0,.slice none 0 0,.slice none 0 0,.int .i64 0,.int .i64 0]) 99 :: .box b3 [.pointer (some ⟨b8,0,none⟩)] 65 :: tl) _
  refine At.ra (.head _) fun pv cv ev => ?_
  subst ev
  refine .bkI<|.flI (trip := [(_,_,_),(_,_,_),(_,_,_),(_,_,_),(_,_,_),(_,_,_),(_,_,_),(_,_,_)]) 8 [(0,0),(1,0),(2,0),(3,0),(4,0),(5,0),(6,1),(7,3)] (by kernel_rfl) (by kernel_rfl) (by kernel_rfl) Z<|.yv (.load Z Fx.agg65 (.tail _<|.tail _<|.head _) Z) Z<|.yv (.load Z Fx.agg65 (.tail _<|.tail _<|.head _) Z) Z<|.yv (.nilCheck Z) Z<|.yv (.fieldAddr Z Fx.field99_0) Z<|.yv (.load Z Fx.agg97 (.tail _<|.head _) Z) Z<|.yv (.loadMW Z Fx.agg96 m2 Z) Z<|.blF Z (Fx.bsl97_1 _ _ _) Z fun b25 H3 u3 m3 => .apD Fx.row97 Z (fun _ _ => .head) Z (Rep.mk (n := 1) (c := 1) (ds := [dTk .u8 x.1]) m3 (.single (tk_shut x.2) Z) Z (Nat.le_refl _) (by decide)) (by simp [maxLen];omega) (by omega) Z (fun _ _ => (.done (by kernel_rfl)<|.done (by kernel_rfl)<|.done (by kernel_rfl)<|.done (by kernel_rfl)<|.done (by kernel_rfl)<|.yv (.load Z Fx.agg65 (.tail _<|.tail _<|.head _) Z)<|.nl)) fun xs26 p26 c26 hz26 => .fn (tl := [_,_,_]) Z<|.yv (.nilCheck Z) Z<|.yv (.fieldAddr Z Fx.field99_0) Z<|.st (.tail<|.head) Z Z Fx.size97 Z (nb Z) Z<|.nlQ<|.bN<|?_
  refine At.rE ((.slice p26 (k + 1) c26,k + 1,xs ++ xs26) : Value × Nat × List Value) (u2.trans u3.up) ?_ rfl
  exact ⟨by simp [hk],by rw [List.map_append,List.map_append];exact hz.app (tok_row hz26)⟩
 intro D ys z hS hC
 obtain ⟨v,k,xs⟩ := z
 obtain ⟨hk,hz⟩ := hC
 dsimp only at hk hz ⊢
 change At _ _ _ H1 w (.obj D (.deferred (some [])) :: .row 96 3 v k xs :: .box b8 (v :: [.int .i64 0,.int .i64 (t.length : Nat),.string ⟨#[]⟩,.slice none 0 0,.slice none 0 0,.slice none 0 0,.int .i64 0,.int .i64 0]) 99 :: .box b3 [.pointer (some ⟨b8,0,none⟩)] 65 :: []) _
 refine .bN<|.tN<|.sr<|.yv (.load Z Fx.agg65 (.tail _<|.tail _<|.tail _<|.head _) Z) Z<|.a Z Z<|.nt<|.rt<|?_
 refine At.pm [1,0,2,3] [_,_,_,_] rfl rfl ?_
 have hz2 : RepZ H1 3 ((lexR t).map (dTk .u8)) xs := by rw [← hS];exact hz
 have hlen : ((lexR t).map (dTk .u8)).length = k := by rw [List.length_map,← hS,List.length_map,hk]
 refine Sx.freezeSeq hlen hz2 fun H3 p3 c3 u3 e3 h3 => ?_
 subst e3
 refine Sx.retM (.inl rfl) .head ?_
 refine Sx.ret1 (.inl rfl) rfl (.tmp rfl) fun W s => ⟨(b8,H3,p3,c3),⟨by rw [e0];rw [List.length_map] at hlen;subst hlen;exact ⟨h3,lexR_good t,lexR_num t,fun x hx => Nat.le_trans (lexR_short t x hx) (by omega)⟩,u1.trans u3⟩,rfl,?_⟩
 rw [List.length_map] at hlen
 subst hlen
 rw [e0]
 have s2 := s.pick [1] [_] rfl rfl
 rw [show posN (lexR t) ⟨lexR t,0,0⟩ = 0 from Nat.sub_self _]
 exact s2
theorem Fx.call51 : callN Tryz.prog 51 = Bool.true := by kernel_rfl
theorem Fx.call135 : callN Tryz.prog 135 = Bool.true := by kernel_rfl
theorem Fx.int12 : intN Tryz.prog 12 = Option.some Go.IntKind.u64 := by kernel_rfl
theorem Fx.size73 : sizeN Tryz.prog 73 = Option.some 1 := by kernel_rfl
theorem Fx.bld75_0 (x0 : ByteArray) : buildN Tryz.prog 75 [(0,.string x0)] = some [.string x0,.slice none 0 0,.int .i64 0,.int .i64 0,.int .i64 0] := by kernel_rfl
theorem wU {n : Nat} (h : n < 18446744073709551616) : IntKind.u64.wrap (n : Int) = (n : Int) := by
 simp only [IntKind.wrap,IntKind.signed,IntKind.bits]
 simp
 omega
set_option maxRecDepth 100000 in
theorem rvalue_any (t : Tk) (hd : t.k = 3 → pre digB t.t = t.t.length ∧ ¬ t.t = []) (hl : t.t.length ≤ 1000000) (w : World) :
 Calls Tryz.prog 135 #[.agg (cTk .i64 t).toArray] w fun r w' => r = .returned (.tuple #[.int .i64 (valV t : Nat),.int .i64 (valE t : Nat)]) ∧ Ext w w' := by
 refine Sx.enter (H := (fun _ => none)) Tryz.func135 rfl Tryz.ntmps135 rfl (fun _ _ e => by cases e) ?_
 refine .sr<|.bx Z Z Z fun b1 => .a Z Z<|.a Z Z<|.nt<|.sq<|.sr<|.yv (.fieldAddr Z Fx.field133_0) Z<|.yv (.load Z Fx.agg3 (.head _) Z) Z<|.yv (.neq Z Z) Z<|.m Z Z<|.b2 (fun h11 => ?_) (fun h11 => ?_)
 ·try simp only [dt] at h11
  have hk : ¬ t.k = 3 := fun e => by simp [e] at h11
  obtain ⟨hv1,hv2⟩ := val_no hk
  refine .gF Z Z Z Z<|.gF Z Z Z Z<|.gF Z Z Z Z<|.yv (.pickT Z Z) Z<|.nt<|.cT Z<|.sr<|.a Z Z<|.a Z Z<|.nt<|.rt<|.tR<|?_
  refine Sx.retN (.inl rfl) rfl (.cons (.tmp rfl) (.cons (.tmp rfl) .nil)) rfl fun W s => ⟨?_,s.ext⟩
  first
   | (rw [hv1,hv2];rfl)
   | (rw [hv1,hv2,hvk];rfl)
   | (rw [hv1,hv2,hvk])
 try simp only [df] at h11
 have hk : t.k = 3 := UInt8.toNat_inj.1 (by show t.k.toNat = 3;omega)
 obtain ⟨hd1,hd2⟩ := hd hk
 have hall := List.all_eq_true.1 (pre_all hd1)
 refine .gd Z Z<|.yv (.fieldAddr Z Fx.field133_1) Z<|.gd Z Z<|.yv (.load Z Fx.agg9 (.head _) Z) Z<|.gd Z Z<|.yv (.cast (.eqS Z Z) (congrArg Value.bool (decide_eq_false hd2))) Z<|.yv (.pickF Z Z) Z<|.nt<|.cF Z<|.sk<|.tN<|.sr<|.a Z Z<|.ns<|.a Z Z<|.nt<|.sq<|.sr<|.a Z Z<|.nt<|.bk<|.lp (X := Nat × Bool × Nat) [(1,_)] ⟨rfl,trivial⟩ [_] (fun z => [(6,.int .i64 (z.1 : Nat)),(5,.bool z.2.1),(4,.int .u64 (z.2.2 : Nat))]) (fun z => (fun _ => none)) (fun z => []) (fun z => z.1 ≤ t.t.length ∧ z.2.2 ≤ 9223372036854775807 ∧ (z.2.1 = false → z.2.2 = numV (t.t.take z.1)) ∧ (z.2.1 = true → ¬ numV t.t ≤ 9223372036854775807)) (fun z => t.t.length - z.1) (0,false,0) (fun _ s => s) ⟨rfl,rfl,rfl,trivial⟩ ⟨Nat.zero_le _,Nat.zero_le _,fun _ => by simp [numV_zero],fun h => by cases h⟩ fun z hC => ?_
 obtain ⟨k,ov,v⟩ := z
 obtain ⟨hk0,hvb,hF,hT⟩ := hC
 dsimp only at hk0 hvb hF hT ⊢
 refine .sq<|.sr<|.m Z Z<|.yv (.fieldAddr Z Fx.field133_1) Z<|.yv (.load Z Fx.agg9 (.head _) Z) Z<|.yv (.lenS Fx.str9 Z) Z<|.yv (.lss Z Z) Z<|.nt<|.cd Z (fun h20 => ?_) (fun h20 => ?_)
 ·try simp only [dt] at h20
  have hlt : k < t.t.length := by omega
  obtain ⟨c,hc⟩ : ∃ c,c = t.t[k] := ⟨_,rfl⟩
  have hdc : digB c = true := hall c (by rw [hc];exact List.getElem_mem hlt)
  obtain ⟨hc1,hc2⟩ := dig_rng hdc
  have hst : numV (t.t.take (k + 1)) = 10 * numV (t.t.take k) + (c.toNat - 48) := numV_step (by rw [hc];exact List.getElem?_eq_getElem hlt)
  have hle := numV_take t.t (k + 1)
  rw [hst] at hle
  refine .sk<|.tN<|.sq<|.bk<|.sq<|.sr<|.yv (.fieldAddr Z Fx.field133_1) Z<|.yv (.load Z Fx.agg9 (.head _) Z) Z<|.m Z Z<|.yv (.idxS Fx.str9 Z Z Z (b := c) (j := k) (by rw [hc];exact List.getElem?_eq_getElem hlt)) Z<|.yv (.cast (.call Fx.call132 Z (fun W s => rdigit_any _ W)) (congrArg Value.bool hdc)) Z<|.yv (.not Z) Z<|.nt<|.cF Z<|.sk<|.tN<|.sr<|.yv (.fieldAddr Z Fx.field133_1) Z<|.yv (.load Z Fx.agg9 (.head _) Z) Z<|.m Z Z<|.yv (.idxS Fx.str9 Z Z Z (b := c) (j := k) (by rw [hc];exact List.getElem?_eq_getElem hlt)) Z<|.yv (.sub Z Z (u8w hc1)) Z<|.yv (.conv Z Fx.int5 Fx.int12 (c := ((c.toNat - 48 : Nat) : Int)) (wU (by omega))) Z<|.a Z Z<|.nt<|.sq<|.sr<|.m Z Z<|.m Z Z<|.b2 (fun h36 => ?_) (fun h36 => ?_)
  ·skip
   exact .gF Z Z Z Z<|.gF Z Z Z Z<|.gF Z Z Z Z<|.gF Z Z Z Z<|.gF Z Z Z Z<|.yv (.pickT Z Z) Z<|.nt<|.cT Z<|.sr<|.a Z Z<|.nt<|.ex<|.tE<|.bE<|.tN<|.rg<|.m Z Z<|.yv (.add Z Z (w6 (by omega))) Z<|.a Z Z<|.nt<|.ag (x := (k,ov,v)) (k + 1,true,v) ⟨rfl,rfl,rfl,trivial⟩ ⟨rfl,trivial⟩ (fun _ s => s) ⟨by show k + 1 ≤ _;omega,hvb,fun h => (by cases h),fun _ => hT (by assumption)⟩ (by show t.t.length - (k + 1) < t.t.length - k;omega)
  obtain rfl : ov = false := h36
  have hvk : v = numV (t.t.take k) := hF rfl
  refine .gd Z Z<|.yv (.move Z) Z<|.gd Z Z<|.yv (.move Z) Z<|.gd Z Z<|.yv (.sub Z Z (c := ((9223372036854775807 - (c.toNat - 48) : Nat) : Int)) (by rw [show (9223372036854775807 : Int) - ((c.toNat - 48 : Nat) : Int) = ((9223372036854775807 - (c.toNat - 48) : Nat) : Int) by omega];exact wU (by omega))) Z<|.gd Z Z<|.yv (.quo Z Z (by decide) (c := (((9223372036854775807 - (c.toNat - 48)) / 10 : Nat) : Int)) (by rw [Int.tdiv_eq_ediv_of_nonneg (by omega)];rw [show ((9223372036854775807 - (c.toNat - 48) : Nat) : Int) / 10 = (((9223372036854775807 - (c.toNat - 48)) / 10 : Nat) : Int) by omega];exact wU (by omega))) Z<|.gd Z Z<|.yv (.gtr Z Z) Z<|.yv (.pickF Z Z) Z<|.nt<|.cd Z (fun h42 => ?_) (fun h42 => ?_)
  ·try simp only [dt] at h42
   have hbig : ¬ numV t.t ≤ 9223372036854775807 := by omega
   exact .sr<|.a Z Z<|.nt<|.ex<|.tE<|.bE<|.tN<|.rg<|.m Z Z<|.yv (.add Z Z (w6 (by omega))) Z<|.a Z Z<|.nt<|.ag (x := (k,false,v)) (k + 1,true,v) ⟨rfl,rfl,rfl,trivial⟩ ⟨rfl,trivial⟩ (fun _ s => s) ⟨by show k + 1 ≤ _;omega,hvb,fun h => (by cases h),fun _ => hbig⟩ (by show t.t.length - (k + 1) < t.t.length - k;omega)
  try simp only [df] at h42
  have hb : 10 * v + (c.toNat - 48) ≤ 9223372036854775807 := by omega
  exact .sk<|.tN<|.rg<|.m Z Z<|.yv (.mul Z Z (c := ((10 * v : Nat) : Int)) (by rw [show (10 : Int) * (v : Int) = ((10 * v : Nat) : Int) by omega];exact wU (by omega))) Z<|.m Z Z<|.yv (.add Z Z (c := ((10 * v + (c.toNat - 48) : Nat) : Int)) (by rw [show ((10 * v : Nat) : Int) + (((c.toNat - 48) : Nat) : Int) = ((10 * v + (c.toNat - 48) : Nat) : Int) by omega];exact wU (by omega))) Z<|.a Z Z<|.nl<|.bN<|.tN<|.rg<|.m Z Z<|.yv (.add Z Z (w6 (by omega))) Z<|.a Z Z<|.nt<|.ag (x := (k,false,v)) (k + 1,false,10 * v + (c.toNat - 48)) ⟨rfl,rfl,rfl,trivial⟩ ⟨rfl,trivial⟩ (fun _ s => s) ⟨by show k + 1 ≤ _;omega,(by show 10 * v + (c.toNat - 48) ≤ _;omega),fun _ => (by show 10 * v + (c.toNat - 48) = _;rw [hst,← hvk]),fun h => (by cases h)⟩ (by show t.t.length - (k + 1) < t.t.length - k;omega)
 try simp only [df] at h20
 obtain rfl : k = t.t.length := by omega
 rw [List.take_length] at hF
 refine .ex<|.tE<|.tE<|.bE<|.tN<|.sq<|.sr<|.m Z Z<|.nt<|.cd Z (fun h47 => ?_) (fun h47 => ?_)
 ·obtain ⟨hv1,hv2⟩ := val_big hk (hT h47)
  refine .sr<|.a Z Z<|.a Z Z<|.nt<|.rt<|.tR<|?_
  refine Sx.retN (.inl rfl) rfl (.cons (.tmp rfl) (.cons (.tmp rfl) .nil)) rfl fun W s => ⟨?_,s.ext⟩
  first
   | (rw [hv1,hv2];rfl)
   | (rw [hv1,hv2,hvk];rfl)
   | (rw [hv1,hv2,hvk])
 have hvk := hF h47
 obtain ⟨hv1,hv2⟩ := val_ok hk (by rw [← hvk];exact hvb)
 refine .sk<|.tN<|.sr<|.m Z Z<|.yv (.conv Z Fx.int12 Fx.int2 (c := ((v : Nat) : Int)) (w6 (by omega))) Z<|.a Z Z<|.a Z Z<|.nt<|.rt<|?_
 refine Sx.retN (.inl rfl) rfl (.cons (.tmp rfl) (.cons (.tmp rfl) .nil)) rfl fun W s => ⟨?_,s.ext⟩
 first
  | (rw [hv1,hv2];rfl)
  | (rw [hv1,hv2,hvk];rfl)
  | (rw [hv1,hv2,hvk])
set_option maxRecDepth 100000 in
theorem number_r {H : Hp} {w0 W : World} {bs : List Res} {b n : Nat} {t : Str} {ts : List Tk} {tp : Option Addr} {tc : Nat} {q : Sg} (K : Tkr H t n ts tp tc) (hq : q.r <:+ ts) (s : St H w0 (.box b [strV t,.slice tp ts.length tc,.int .i64 (posN ts q : Nat),.int .i64 (q.o : Nat),.int .i64 (q.e : Nat)] 75 :: bs) W) :
 Calls Tryz.prog 99 #[.pointer (some ⟨b,0,none⟩)] W fun e W' => ∃ x : Int64,(vl gNu q x) ∧ e = .returned (.int .i64 x.toInt) ∧ St H w0 (.box b [strV t,.slice tp ts.length tc,.int .i64 (posN ts (up n gNu q) : Nat),.int .i64 ((up n gNu q).o : Nat),.int .i64 ((up n gNu q).e : Nat)] 75 :: bs) W' := by
 have hcap := K.rep.cap
 refine Sx.enterS Tryz.func99 rfl Tryz.ntmps99 rfl s ?_
 refine .sr<|.a Z Z<|.ns<|.m Z Z<|.cs (X := Unit) Fx.call55 Z (fun W s => tok_r K hq  (s.pickT (hd := [_]) (tl := bs) (hd' := [_]) [0] Z Z)) Z fun _ _ => .al Fx.zero133 Z fun b3 => .sW .head Z Z Fx.size133 (by simp [cTk,Value.oneCell',strV]) Z<|.nt<|.sq<|.sr<|.m Z Z<|.yv (.nilCheck Z) Z<|.yv (.fieldAddr Z Fx.field75_4) Z<|.yv (.load Z Fx.agg3 (.tail _<|.head _) Z) Z<|.yv (.neq Z Z) Z<|.m Z Z<|.b2 (fun h13 => ?_) (fun h13 => ?_)
 ·try simp only [dt] at h13
  have h0 : ¬ q.e = 0 := by omega
  have e1 : up n gNu q = q.fail n 8 := by rw [up_er h0];unfold Sg.fail;rw [if_neg h0]
  have hv : vl gNu q 0 := vl_er h0
  rw [e1]
  refine .gF Z Z Z Z<|.gF Z Z Z Z<|.gF Z Z Z Z<|.yv (.pickT Z Z) Z<|.nt<|.cT Z<|.sr<|.m Z Z<|.cs (X := Unit) Fx.call56 Z (fun W s => fail_r K hq 8 (s.pickT (hd := [_,_]) (tl := bs) (hd' := [_,_]) [1,0] Z Z)) Z fun _ _ => .ns<|.a Z Z<|.nt<|.rt<|.tR<|?_
  refine Sx.ret1 (.inl rfl) rfl (.tmp rfl) fun W s => ?_
  exact ⟨0,hv,rfl,s.pickT (hd := [_,_]) (tl := bs) (hd' := [_]) [0] rfl rfl⟩
 try simp only [df] at h13
 have h0 : q.e = 0 := by omega
 refine .gd Z Z<|.yv (.fieldAddr Z Fx.field133_0) Z<|.gd Z Z<|.yv (.load Z Fx.agg3 (.head _) Z) Z<|.gd Z Z<|.yv (.neq Z Z) Z<|.yv (.pickF Z Z) Z<|.nt<|.cd Z (fun h17 => ?_) (fun h17 => ?_)
 ·try simp only [dt] at h17
  have hk : ¬ (tkH n q.r).k = 3 := fun e => by simp [e] at h17
  obtain ⟨e1,hv0⟩ := nu_no (n := n) hk
  have hv := hv0 0
  rw [e1]
  refine .sr<|.m Z Z<|.cs (X := Unit) Fx.call56 Z (fun W s => fail_r K hq 8 (s.pickT (hd := [_,_]) (tl := bs) (hd' := [_,_]) [1,0] Z Z)) Z fun _ _ => .ns<|.a Z Z<|.nt<|.rt<|.tR<|?_
  refine Sx.ret1 (.inl rfl) rfl (.tmp rfl) fun W s => ?_
  exact ⟨0,hv,rfl,s.pickT (hd := [_,_]) (tl := bs) (hd' := [_]) [0] rfl rfl⟩
 try simp only [df] at h17
 have hk : (tkH n q.r).k = 3 := UInt8.toNat_inj.1 (by show (tkH n q.r).k.toNat = 3;omega)
 refine .sk<|.tN<|.sr<|.yv (.loadW Z Fx.agg133 (.head _) Z) Z<|.yv (.call Fx.call135 Z (fun W s => rvalue_any (tkH n q.r) (K.numD hq) (K.tk hq) W)) Z<|.m Z Z<|.yv (.extract Z Z) Z<|.yv (.extract Z Z) Z<|.a Z Z<|.a Z Z<|.nt<|.sq<|.sr<|.m Z Z<|.yv (.neq Z Z) Z<|.nt<|.cd Z (fun h26 => ?_) (fun h26 => ?_)
 ·try simp only [dt] at h26
  have he : ¬ valE (tkH n q.r) = 0 := by omega
  have hn : ¬ numV (tkH n q.r).t ≤ 9223372036854775807 := fun h => he (val_ok hk h).1
  obtain ⟨e1,hv0⟩ := nu_big (n := n) hk hn
  have hv := hv0 0
  rw [e1]
  refine .sr<|.m Z Z<|.cs (X := Unit) Fx.call56 Z (fun W s => fail_r K hq 2 (s.pickT (hd := [_,_]) (tl := bs) (hd' := [_,_]) [1,0] Z Z)) Z fun _ _ => .ns<|.a Z Z<|.nt<|.rt<|.tR<|?_
  refine Sx.ret1 (.inl rfl) rfl (.tmp rfl) fun W s => ?_
  exact ⟨0,hv,rfl,s.pickT (hd := [_,_]) (tl := bs) (hd' := [_]) [0] rfl rfl⟩
 try simp only [df] at h26
 have he : valE (tkH n q.r) = 0 := by omega
 obtain ⟨_,hn⟩ := val_e0 he
 have hv2 := (val_ok hk hn).2
 obtain ⟨e1,hv⟩ := nu_ok h0 hk hn
 rw [e1]
 obtain ⟨hp,hi⟩ := posN_tl hq (tkH_ne (n := n) (by rw [hk];decide))
 refine .sk<|.tN<|.sr<|.m Z Z<|.yv (.nilCheck Z) Z<|.yv (.fieldAddr Z Fx.field75_2) Z<|.yv (.load Z Fx.agg3 (.tail _<|.head _) Z) Z<|.yv (.add Z Z (c := ((posN ts q.tl : Nat) : Int)) ((w6 (by omega)).trans (by omega))) Z<|.yv (.nilCheck Z) Z<|.yv (.fieldAddr Z Fx.field75_2) Z<|.st (.tail<|.head) Z Z Fx.size3 Z (nb Z) Z<|.ns<|.m Z Z<|.a Z Z<|.nt<|.rt<|?_
 refine Sx.ret1 (.inl rfl) rfl (.tmp rfl) fun W s => ?_
 exact ⟨Int64.ofNat (numV (tkH n q.r).t),hv,(by rw [hv2,i64N hn]),s.pickT (hd := [_,_]) (tl := bs) (hd' := [_]) [1] rfl rfl⟩
theorem readK_kz {m : Str} (h : m ≠ []) : (readK m).1 ≠ 0 := by
 match m,h with
 | c :: r,_ =>
  cases h1 : letB c with
  | true =>
   cases h4 : words.contains ((c :: r).take (pre insB (c :: r))) with
   | true => simp only [readK,List.headD_cons,h1,h4,if_true];decide
   | false =>
    by_cases h5 : pre insB (c :: r) ≤ 12
    ·simp only [readK,List.headD_cons,h1,h4,h5,if_true,Bool.false_eq_true,if_false];decide
    ·simp only [readK,List.headD_cons,h1,h4,h5,if_true,Bool.false_eq_true,if_false];decide
  | false =>
   cases h4 : digB c with
   | true =>
    by_cases h5 : pre digB (c :: r) = 1 ∨ c ≠ 48
    ·simp only [readK,List.headD_cons,h1,h4,h5,if_true,Bool.false_eq_true,if_false];decide
    ·simp only [readK,List.headD_cons,h1,h4,h5,if_true,Bool.false_eq_true,if_false];decide
   | false => cases hx : symbols.find? (fun x => x.isPrefixOf (c :: r)) <;> simp only [readK,List.headD_cons,h1,h4,hx,Bool.false_eq_true,if_false] <;> decide
theorem tokF_kz : ∀ (f o : Nat) (m : Str),∀ t ∈ tokF f o m,t.k ≠ 0
 | 0,_,_,t,h => by cases h
 | f + 1,o,m,t,h => by
  by_cases h0 : m = []
  ·rw [h0,tokF_nil] at h;cases h
  ·rw [tokF_step h0] at h
   rcases List.mem_cons.1 h with rfl | h
   ·exact readK_kz h0
   ·exact tokF_kz f _ _ t h
theorem lexR_kz (s : Str) : ∀ t ∈ lexR s,t.k ≠ 0 := tokF_kz _ _ _
set_option maxRecDepth 100000 in
theorem made_r {H : Hp} {w0 W : World} {bs : List Res} (t : Str) (ht : t.length ≤ 9223372036854775807) (s : St H w0 bs W) :
 Calls Tryz.prog 25 #[strV t] W fun e W' => ∃ z : Nat × Hp × Option Addr × Nat,(Tkr z.2.1 t t.length (sg0 t).r z.2.2.1 z.2.2.2 ∧ HUp w0 H z.2.1) ∧ e = .returned (.pointer (some ⟨z.1,0,none⟩)) ∧ St z.2.1 w0 (.box z.1 [strV t,.slice z.2.2.1 ((sg0 t).r).length z.2.2.2,.int .i64 (posN ((sg0 t).r) (sg0 t) : Nat),.int .i64 ((sg0 t).o : Nat),.int .i64 ((sg0 t).e : Nat)] 75 :: bs) W' := by
 refine Sx.enterS Tryz.func25 rfl Tryz.ntmps25 rfl s ?_
 refine .sr<|.a Z Z<|.ns<|.m Z Z<|.yv (.build Z (Fx.bld75_0 _)) Z<|.bx Z Z Z fun b6 => .a Z Z<|.nt<|.sq<|.sr<|.m Z Z<|.yv (.lenS Fx.str9 Z) Z<|.yv (.gtr Z Z) Z<|.nt<|.cd Z (fun h9 => ?_) (fun h9 => ?_)
 ·try simp only [dt] at h9
  have hbig : 20000 < t.length := by omega
  have e0 : sg0 t = ⟨[],3,0⟩ := by unfold sg0;rw [if_pos hbig]
  refine .sr<|.m Z Z<|.yv (.nilCheck Z) Z<|.yv (.fieldAddr Z Fx.field75_4) Z<|.st .head Z Z Fx.size3 Z (nb Z) Z<|.ns<|.m Z Z<|.a Z Z<|.nt<|.rt<|.tR<|?_
  refine Sx.ret1 (.inl rfl) rfl (.tmp rfl) fun W s => ⟨(b6,H,none,0),⟨by rw [e0];exact ⟨Rep.empty (Nat.zero_le _),fun _ h => (by cases h),fun _ h => (by cases h),fun _ h => (by cases h),fun _ h => (by cases h),rfl⟩,.refl⟩,rfl,?_⟩
  rw [e0]
  exact s.pickT (hd := [_]) (tl := bs) (hd' := [_]) [0] rfl rfl
 try simp only [df] at h9
 have hl : t.length ≤ 20000 := by omega
 have e0 : sg0 t = ⟨lexR t,0,0⟩ := by unfold sg0;rw [if_neg (by omega)]
 refine .sk<|.tN<|.sr<|.m Z Z<|.m Z Z<|.ct (X := Value) Fx.call51 Z (fun W s => lexR_any H t (by omega) W s.agr) Z fun v H1 hsq u1 => ?_
 obtain ⟨p1,c1,e1,_⟩ := hsq.sl
 simp only [List.cons.injEq,and_true] at e1
 subst e1
 rw [List.length_map] at hsq ⊢
 refine .yv (.nilCheck Z) Z<|.yv (.fieldAddr Z Fx.field75_1) Z<|.st .head Z Z Fx.size73 Z (nb Z) Z<|.ns<|.m Z Z<|.a Z Z<|.nt<|.rt<|?_
 refine Sx.ret1 (.inl rfl) rfl (.tmp rfl) fun W s => ⟨(b6,H1,p1,c1),⟨by rw [e0];exact ⟨hsq,lexR_good t,lexR_num t,fun x hx => Nat.le_trans (lexR_short t x hx) (by omega),lexR_kz t,rfl⟩,u1⟩,rfl,?_⟩
 rw [e0]
 rw [show posN (lexR t) ⟨lexR t,0,0⟩ = 0 from Nat.sub_self _]
 exact s.pickT (hd := [_]) (tl := bs) (hd' := [_]) [0] rfl rfl
theorem Fx.call26 : callN Tryz.prog 26 = Bool.true := by kernel_rfl
theorem Fx.call52 : callN Tryz.prog 52 = Bool.true := by kernel_rfl
theorem Fx.call53 : callN Tryz.prog 53 = Bool.true := by kernel_rfl
theorem Fx.call94 : callN Tryz.prog 94 = Bool.true := by kernel_rfl
theorem Fx.bsl129_2 (x0 : Int) (x1 : Int) : bslN Tryz.prog 129 2 [(0,.int .i64 x0),(1,.int .i64 x1)] = some (3,[.int .i64 x0,.int .i64 x1]) := by kernel_rfl
theorem Fx.bsl129_3 (x0 : Int) (x1 : Int) (x2 : Int) : bslN Tryz.prog 129 3 [(0,.int .i64 x0),(1,.int .i64 x1),(2,.int .i64 x2)] = some (3,[.int .i64 x0,.int .i64 x1,.int .i64 x2]) := by kernel_rfl
def ExV (f : FuncId) (vs : List Value) (g : Pz Ex) (M : Nat) : Prop := ∀ {H : Hp} {w0 W : World} {bs : List Res} {b n : Nat} {t : Str} {ts : List Tk} {tp : Option Addr} {tc : Nat} {q : Sg},(_ :  Tkr H t n ts tp tc) → (_ : q.r <:+ ts) → q.mu < M → St H w0 (.box b [strV t,.slice tp ts.length tc,.int .i64 (posN ts q : Nat),.int .i64 (q.o : Nat),.int .i64 (q.e : Nat)] 75 :: bs) W →
 Calls Tryz.prog f (.pointer (some ⟨b,0,none⟩) :: vs).toArray W fun e W' => ∃ z : Ex × List Value × Hp,(vl g q z.1 ∧ HUp w0 H z.2.2 ∧ Rep z.2.2 (dEx .i64 z.1) z.2.1) ∧ e = .returned (.agg z.2.1.toArray) ∧ St z.2.2 w0 (.box b [strV t,.slice tp ts.length tc,.int .i64 (posN ts (up n g q) : Nat),.int .i64 ((up n g q).o : Nat),.int .i64 ((up n g q).e : Nat)] 75 :: bs) W'
theorem ExV.zero (f : FuncId) (vs : List Value) (g : Pz Ex) : ExV f vs g 0 := fun _ _ h _ => absurd h (Nat.not_lt_zero _)
theorem LfI.fin {n : Nat} {q q1 : Sg} {a b : Ex} {op : UInt8} (h : LfI n 2 q a q1) (hop : opF (opsL 2) q1 = some op) (hb : vl (gX 3) q1.tl b) : up n (gX 3) q1.tl = up n (gX 2) q ∧ vl (gX 2) q (opE op [a,b]) := by
 rw [opF_opS] at hop
 have e : gK 2 op a b = gPure (opE op [a,b]) := by unfold gK;rw [if_pos rfl]
 refine ⟨?_,h.val _ (vl_lpS (by decide) hop (vl_bind (n := n) hb (by rw [e];exact vl_pure)))⟩
 rw [← h.eq,up_lpS (by decide) hop,up_bind (Cz.ex _) hb,e,up_pure]
def qo : Option UInt8 → Sg → Sg
 | none,q => q
 | some _,q => q.tl
theorem opsL_nz (lv : Nat) : ∀ x ∈ opsL lv,x.2.toNat ≠ 0 := by
 unfold opsL
 split <;> decide
theorem opsL_len (lv : Nat) : (opsL lv).length ≤ 6 := by
 unfold opsL
 split <;> decide
theorem ov_none {lv : Nat} {q : Sg} {ov : Option UInt8} (h : ∀ op,ov = some op → opF (opsL lv) q = some op) (e : (((ov.getD 0).toNat : Nat) : Int) = 0) : ov = none := by
 cases ov with
 | none => rfl
 | some op =>
  have h1 := h op rfl
  unfold opF at h1
  obtain ⟨x,hx,rfl⟩ := Option.map_eq_some_iff.1 h1
  exact absurd (show x.2.toNat = 0 by simpa using e) (opsL_nz lv x (List.mem_of_find?_eq_some hx))
set_option maxRecDepth 100000 in
theorem opers_r (H : Hp) (lv : Nat) (hl : lv ≤ 4) (w : World) (hA : Agr H w) :
 Calls Tryz.prog 53 #[.int .i64 (lv : Nat)] w fun r w' => ∃ (z : Nat × Nat) (H' : Hp),(MemAt H' z.1 0 ((opsL lv).map fun x => strV x.1) ∧ MemAt H' z.2 0 ((opsL lv).map fun x => .int .i64 x.2.toNat)) ∧ r = .returned (.tuple #[.slice (some ⟨z.1,0,none⟩) (opsL lv).length (opsL lv).length,.slice (some ⟨z.2,0,none⟩) (opsL lv).length (opsL lv).length]) ∧ Grow H w H' w' := by
 refine Sx.enter (H := H) Tryz.func53 rfl Tryz.ntmps53 rfl hA ?_
 refine .sr<|.a Z Z<|.a Z Z<|.nt<|.sq<|.sr<|.m Z Z<|.nt<|.bk<|.sr<|.yv (.eql Z Z) Z<|.a Z Z<|.nt<|.cd Z (fun h5 => ?_) (fun h5 => ?_)
 ·try simp only [dt] at h5
  obtain rfl : lv = 0 := by omega
  refine .sr<|.bl Z (Fx.bsl52_1 _) Z fun b7 => ?_
  refine Sx.freezeBox fun H1 u1 m1 => ?_
  refine .bl Z (Fx.bsl129_1 _) Z fun b8 => ?_
  refine Sx.freezeBox fun H2 u2 m2 => ?_
  refine .a Z Z<|.a Z Z<|.nt<|.rt<|.bR<|.tR<|?_
  refine Sx.retN (.inl rfl) rfl (.cons (.tmp rfl) (.cons (.tmp rfl) .nil)) rfl fun W s => ⟨(b7,b8),H2,⟨m1.up u2.up,m2⟩,rfl,(u1.trans u2).grow s⟩
 try simp only [df] at h5
 skip
 refine .sr<|.yv (.eql Z Z) Z<|.a Z Z<|.nt<|.cd Z (fun h9 => ?_) (fun h9 => ?_)
 ·try simp only [dt] at h9
  obtain rfl : lv = 1 := by omega
  refine .sr<|.bl Z (Fx.bsl52_1 _) Z fun b11 => ?_
  refine Sx.freezeBox fun H1 u1 m1 => ?_
  refine .bl Z (Fx.bsl129_1 _) Z fun b12 => ?_
  refine Sx.freezeBox fun H2 u2 m2 => ?_
  refine .a Z Z<|.a Z Z<|.nt<|.rt<|.bR<|.tR<|?_
  refine Sx.retN (.inl rfl) rfl (.cons (.tmp rfl) (.cons (.tmp rfl) .nil)) rfl fun W s => ⟨(b11,b12),H2,⟨m1.up u2.up,m2⟩,rfl,(u1.trans u2).grow s⟩
 try simp only [df] at h9
 skip
 refine .sr<|.yv (.eql Z Z) Z<|.a Z Z<|.nt<|.cd Z (fun h13 => ?_) (fun h13 => ?_)
 ·try simp only [dt] at h13
  obtain rfl : lv = 2 := by omega
  refine .sr<|.bl Z (Fx.bsl52_6 _ _ _ _ _ _) Z fun b15 => ?_
  refine Sx.freezeBox fun H1 u1 m1 => ?_
  refine .bl Z (Fx.bsl129_6 _ _ _ _ _ _) Z fun b16 => ?_
  refine Sx.freezeBox fun H2 u2 m2 => ?_
  refine .a Z Z<|.a Z Z<|.nt<|.rt<|.bR<|.tR<|?_
  refine Sx.retN (.inl rfl) rfl (.cons (.tmp rfl) (.cons (.tmp rfl) .nil)) rfl fun W s => ⟨(b15,b16),H2,⟨m1.up u2.up,m2⟩,rfl,(u1.trans u2).grow s⟩
 try simp only [df] at h13
 skip
 refine .sr<|.yv (.eql Z Z) Z<|.a Z Z<|.nt<|.cd Z (fun h17 => ?_) (fun h17 => ?_)
 ·try simp only [dt] at h17
  obtain rfl : lv = 3 := by omega
  refine .sr<|.bl Z (Fx.bsl52_2 _ _) Z fun b19 => ?_
  refine Sx.freezeBox fun H1 u1 m1 => ?_
  refine .bl Z (Fx.bsl129_2 _ _) Z fun b20 => ?_
  refine Sx.freezeBox fun H2 u2 m2 => ?_
  refine .a Z Z<|.a Z Z<|.nt<|.rt<|.bR<|.tR<|?_
  refine Sx.retN (.inl rfl) rfl (.cons (.tmp rfl) (.cons (.tmp rfl) .nil)) rfl fun W s => ⟨(b19,b20),H2,⟨m1.up u2.up,m2⟩,rfl,(u1.trans u2).grow s⟩
 try simp only [df] at h17
 obtain rfl : lv = 4 := by omega
 refine .sk<|.bN<|.tN<|.sr<|.bl Z (Fx.bsl52_3 _ _ _) Z fun b21 => ?_
 refine Sx.freezeBox fun H1 u1 m1 => ?_
 refine .bl Z (Fx.bsl129_3 _ _ _) Z fun b22 => ?_
 refine Sx.freezeBox fun H2 u2 m2 => ?_
 refine .a Z Z<|.a Z Z<|.nt<|.rt<|?_
 refine Sx.retN (.inl rfl) rfl (.cons (.tmp rfl) (.cons (.tmp rfl) .nil)) rfl fun W s => ⟨(b21,b22),H2,⟨m1.up u2.up,m2⟩,rfl,(u1.trans u2).grow s⟩
set_option maxRecDepth 100000 in
theorem expr_r (M lv : Nat) (hlv : lv ≤ 5) (hun : lv = 5 → ExV 52 [] (gX 5) M) (hop : lv < 5 → ExV 26 [.int .i64 ((lv + 1 : Nat) : Int)] (gX (lv + 1)) M) : ExV 26 [.int .i64 (lv : Nat)] (gX lv) M := by
 intro H w0 W bs b n t ts tp tc q K hq hmu s
 have hL6 := opsL_len lv
 refine Sx.enterS Tryz.func26 rfl Tryz.ntmps26 rfl s ?_
 refine .sr<|.al Fx.zero33 Z fun b4 => .nt<|.sq<|.sr<|.m Z Z<|.yv (.eql Z Z) Z<|.nt<|.cd Z (fun h12 => ?_) (fun h12 => ?_)
 ·try simp only [dt] at h12
  obtain rfl : lv = 5 := by omega
  refine .sr<|.m Z Z<|.cs (X := Ex × List Value × Hp) Fx.call52 Z (fun W s => hun Z K hq hmu (s.pickT (hd := [_,_]) (tl := bs) (hd' := [_,_]) [1,0] Z Z)) Z fun z1 hz1 => ?_
  obtain ⟨a1,c1,H1⟩ := z1
  obtain ⟨hv1,u1,r1⟩ := hz1
  dsimp only at hv1 u1 r1 ⊢
  obtain ⟨x1,x2,x3,x4,rfl⟩ := four (ex_len r1)
  have K1 := K.up u1.up
  refine .sW (.tail<|.head) Z Z Fx.size33 (Rep.one r1) Z<|.nt<|.rt<|.tR<|?_
  refine Sx.ret1 (.inl rfl) rfl (.cell rfl Fx.agg33 (.tail _<|.head _) rfl) fun W s => ?_
  exact ⟨(a1,[x1,x2,x3,x4],H1),⟨hv1,u1,r1⟩,rfl,s.pickT (hd := [_,_]) (tl := bs) (hd' := [_]) [0] rfl rfl⟩
 try simp only [df] at h12
 have hl : lv ≤ 4 := by omega
 refine .sk<|.tN<|.sr<|.m Z Z<|.m Z Z<|.yv (.add Z Z (c := ((lv + 1 : Nat) : Int)) ((w6 (by omega)).trans (by omega))) Z<|.cs (X := Ex × List Value × Hp) Fx.call26 Z (fun W s => hop (by omega) K hq hmu (s.pickT (hd := [_,_]) (tl := bs) (hd' := [_,_]) [1,0] Z Z)) Z fun z1 hz1 => ?_
 obtain ⟨a1,c1,H1⟩ := z1
 obtain ⟨hv1,u1,r1⟩ := hz1
 dsimp only at hv1 u1 r1 ⊢
 obtain ⟨x1,x2,x3,x4,rfl⟩ := four (ex_len r1)
 have K1 := K.up u1.up
 refine .al Fx.zero33 Z fun b5 => .sW .head Z Z Fx.size33 (Rep.one r1) Z<|.ns<|.m Z Z<|.ct (X := Nat × Nat) Fx.call53 Z (fun W s => opers_r H1 lv (by omega) W s.agr) Z fun zo H2 mo u2 => ?_
 obtain ⟨bw,bo⟩ := zo
 obtain ⟨mw,mo⟩ := mo
 dsimp only at mw mo ⊢
 have K2 := K1.up u2.up
 refine .m Z Z<|.yv (.extract Z Z) Z<|.yv (.extract Z Z) Z<|.a Z Z<|.a Z Z<|.nt<|.bk<|.lp (X := (Ex × Value × Value × Value × Value) × Hp × Sg) [(0,_),(1,_),(4,_),(5,_),(6,_),(7,_)] ⟨rfl,rfl,rfl,rfl,rfl,rfl,trivial⟩ (_ :: bs) (fun z => []) (fun z => z.2.1) (fun z => [.box b5 [z.1.2.1,z.1.2.2.1,z.1.2.2.2.1,z.1.2.2.2.2] 33,.box b [strV t,.slice tp ts.length tc,.int .i64 (posN ts z.2.2 : Nat),.int .i64 (z.2.2.o : Nat),.int .i64 (z.2.2.e : Nat)] 75]) (fun z => LfI n lv q z.1.1 z.2.2 ∧ HUp w0 H2 z.2.1 ∧ Rep z.2.1 (dEx .i64 z.1.1) [z.1.2.1,z.1.2.2.1,z.1.2.2.2.1,z.1.2.2.2.2] ∧ z.2.2.r <:+ ts) (fun z => z.2.2.mu) ((a1,x1,x2,x3,x4),H2,up n (gX (lv + 1)) q) (fun _ s => s) trivial ⟨LfI.start (by omega) hv1,.refl,r1.up u2.up,(Suf.ex _).up hq⟩ fun z hC => ?_
 obtain ⟨⟨a,y1,y2,y3,y4⟩,H3,q1⟩ := z
 obtain ⟨hI,u3,r3,hq1⟩ := hC
 dsimp only at hI u3 r3 hq1 ⊢
 have K3 := K2.up u3.up
 refine .bk<|.sr<|.a Z Z<|.nt<|.sq<|.sr<|.m Z Z<|.yv (.lenSl Fx.sl52 Z) Z<|.m Z Z<|.nt<|.bk<|.lp (X := Nat × Option UInt8) [(0,_),(1,_),(4,_),(5,_),(6,_),(7,_),(24,_),(25,_)] ⟨rfl,rfl,rfl,rfl,rfl,rfl,rfl,rfl,trivial⟩ (_ :: _ :: bs) (fun y => [(26,.int .i64 (y.1 : Nat)),(8,.int .i64 ((y.2.getD 0).toNat : Nat))]) (fun y => H3) (fun y => [.box b [strV t,.slice tp ts.length tc,.int .i64 (posN ts (qo y.2 q1) : Nat),.int .i64 ((qo y.2 q1).o : Nat),.int .i64 ((qo y.2 q1).e : Nat)] 75]) (fun y => y.1 ≤ (opsL lv).length ∧ (y.2 = none → ∀ i,i < y.1 → ∀ x,(opsL lv)[i]? = some x → ac x.1 q1 = false) ∧ (∀ op,y.2 = some op → opF (opsL lv) q1 = some op)) (fun y => (opsL lv).length - y.1) (0,none) (fun _ s => (s.pickT (hd := [_,_,_]) (tl := bs) (hd' := [_,_,_]) [1,0,2] Z Z)) ⟨rfl,rfl,trivial⟩ ⟨Nat.zero_le _,fun _ i hi => absurd hi (Nat.not_lt_zero _),fun op h => (by cases h)⟩ fun y hC => ?_
 obtain ⟨k,ov⟩ := y
 obtain ⟨hk0,hnone,hsome⟩ := hC
 dsimp only at hk0 hnone hsome ⊢
 refine .sr<|.yv (.lss Z Z) Z<|.nt<|.sq<|.cd Z (fun h27 => ?_) (fun h27 => ?_)
 ·try simp only [dt] at h27
  have hk : k < (opsL lv).length := by omega
  refine .sk<|.tN<|.sq<|.bk<|.sr<|.m Z Z<|.yv (.indexSl Fx.sl52 Z Z Z (by omega) (q := k) (by omega)) Z<|.yv (.loadM Z Fx.agg9 (mw.up u3.up) (k := k) (v := strV (opsL lv)[k].1) (by omega) (map_at (f := fun x : Str × UInt8 => strV x.1) hk)) Z<|.a Z Z<|.a Z Z<|.ns<|.m Z Z<|.yv (.eql Z Z) Z<|.m Z Z<|.b2 (fun h33 => ?_) (fun h33 => ?_)
  ·try simp only [dt] at h33
   obtain rfl := ov_none hsome (by omega)
   refine .gd Z Z<|.yv (.move Z) Z<|.gd Z Z<|.yv (.move Z) Z<|.gd Z Z<|.cs (X := Unit) Fx.call54 Z (fun W s => take_r K3 hq1 (opsL lv)[k].1 (s.pickT (hd := [_,_,_]) (tl := bs) (hd' := [_,_,_]) [0,1,2] Z Z)) Z fun _ _ => .yv (.pickT Z Z) Z<|.nt<|.cd Z (fun h37 => ?_) (fun h37 => ?_)
   ·rw [acS_T h37]
    exact .rg<|.m Z Z<|.m Z Z<|.yv (.indexSl Fx.sl129 Z Z Z (by omega) (q := k) (by omega)) Z<|.yv (.loadM Z Fx.agg3 (mo.up u3.up) (k := k) (v := .int .i64 ((opsL lv)[k].2.toNat : Nat)) (by omega) (map_at (f := fun x : Str × UInt8 => Value.int .i64 x.2.toNat) hk)) Z<|.a Z Z<|.nl<|.bN<|.tN<|.rg<|.yv (.add Z Z (w6 (by omega))) Z<|.m Z Z<|.nt<|.ag (x := (k,none)) (k + 1,some (opsL lv)[k].2) ⟨rfl,rfl,trivial⟩ ⟨rfl,rfl,rfl,rfl,rfl,rfl,rfl,rfl,trivial⟩ (fun _ s => s) ⟨by show k + 1 ≤ _;omega,fun h => (by cases h),fun op h => (by cases h;exact opF_at hk (hnone Z) h37)⟩ (by show (opsL lv).length - (k + 1) < (opsL lv).length - k;omega)
   rw [acS_F h37]
   exact .sk<|.bN<|.tN<|.rg<|.yv (.add Z Z (w6 (by omega))) Z<|.m Z Z<|.nt<|.ag (x := (k,none)) (k + 1,none) ⟨rfl,rfl,trivial⟩ ⟨rfl,rfl,rfl,rfl,rfl,rfl,rfl,rfl,trivial⟩ (fun _ s => s) ⟨by show k + 1 ≤ _;omega,fun _ i hi x hx => (by
   by_cases hik : i = k
   ·subst hik
    rw [List.getElem?_eq_getElem hk] at hx
    cases hx
    exact h37
   ·exact hnone rfl i (by omega) x hx),fun op h => (by cases h)⟩ (by show (opsL lv).length - (k + 1) < (opsL lv).length - k;omega)
  try simp only [df] at h33
  have hz : ov ≠ none := fun e => by subst e;exact h33 rfl
  exact .gF Z Z Z Z<|.gF Z Z Z Z<|.gF Z Z Z Z<|.yv (.pickF Z Z) Z<|.nt<|.cF Z<|.sk<|.bN<|.tN<|.rg<|.yv (.add Z Z (w6 (by omega))) Z<|.m Z Z<|.nt<|.ag (x := (k,ov)) (k + 1,ov) ⟨rfl,rfl,trivial⟩ ⟨rfl,rfl,rfl,rfl,rfl,rfl,rfl,rfl,trivial⟩ (fun _ s => s) ⟨by show k + 1 ≤ _;omega,fun h => absurd h hz,hsome⟩ (by show (opsL lv).length - (k + 1) < (opsL lv).length - k;omega)
 try simp only [df] at h27
 obtain rfl : k = (opsL lv).length := by omega
 refine .ex<|.tE<|.tE<|.bE<|.tN<|.sq<|.sr<|.m Z Z<|.yv (.eql Z Z) Z<|.nt<|.cd Z (fun h44 => ?_) (fun h44 => ?_)
 ·try simp only [dt] at h44
  obtain rfl := ov_none hsome (by omega)
  have hN : opF (opsL lv) q1 = none := opF_none (hnone rfl)
  obtain ⟨e1,hv⟩ := hI.stop hN
  rw [e1]
  refine .sr<|.yv (.loadW Z Fx.agg33 (.tail _<|.head _) Z) Z<|.sW (.tail<|.tail<|.head) Z Z Fx.size33 (Rep.one r3) Z<|.nt<|.rt<|.tR<|.bR<|.tR<|.bR<|?_
  refine Sx.ret1 (.inl rfl) rfl (.cell rfl Fx.agg33 (.tail _<|.tail _<|.head _) rfl) fun W s => ?_
  exact ⟨(a,[y1,y2,y3,y4],H3),⟨hv,u1.trans (u2.trans u3),r3⟩,rfl,s.pickT (hd := [_,_,_]) (tl := bs) (hd' := [_]) [0] rfl rfl⟩
 try simp only [df] at h44
 have hz : ov ≠ none := fun e => by subst e;exact h44 rfl
 obtain ⟨op,rfl⟩ := Option.ne_none_iff_exists'.1 hz
 have hS := hsome op rfl
 have hmu1 : q1.tl.mu < M := by have := opF_mu hS;have := hI.mu;omega
 refine .sk<|.tN<|.sq<|.fl (trip := [(_,_,_),(_,_,_),(_,_,_),(_,_,_),(_,_,_),(_,_,_),(_,_,_),(_,_,_)]) 8 [(0,0),(1,0),(2,0),(3,0),(4,0),(5,3),(6,1),(7,0)] (by kernel_rfl) (by kernel_rfl) Z<|.m Z Z<|.yv (.loadW Z Fx.agg33 (.tail _<|.head _) Z) Z<|.m Z Z<|.m Z Z<|.yv (.add Z Z (c := ((lv + 1 : Nat) : Int)) ((w6 (by omega)).trans (by omega))) Z<|.c3 (X := Ex × List Value × Hp) Fx.call26 Z (fun W s => hop (by omega) K3 (Suf.tl hq1) hmu1 (s.pickT (hd := [_,_,_]) (tl := bs) (hd' := [_,_,_]) [0,1,2] Z Z)) Z (fun _ _ => (.done (by kernel_rfl)<|.done (by kernel_rfl)<|.done (by kernel_rfl)<|.yv (.loadW Z Fx.agg33 (.tail _<|.head _) Z)<|.yv (.move Z)<|.nl)) fun z4 hz4 => ?_
 obtain ⟨a2,c2,H4⟩ := z4
 obtain ⟨hv4,u4,r4⟩ := hz4
 dsimp only at hv4 u4 r4 ⊢
 obtain ⟨w1,w2,w3,w4,rfl⟩ := four (ex_len r4)
 refine .blF Z (Fx.bsl31_2 _ _ _ _ _ _ _ _) Z fun b52 H5 u5 m5 => .yv (.build Z (Fx.bld33_0_3 _ _ _ _)) Z<|.fn (tl := [_]) Z<|.sW (.tail<|.head) Z Z Fx.size33 (by simp [Value.oneCell']) Z<|.ns<|.m Z Z<|.yv (.eql Z Z) Z<|.nt<|.cd Z (fun h55 => ?_) (fun h55 => ?_)
 ·try simp only [dt] at h55
  obtain rfl : lv = 2 := by omega
  refine .sr<|.yv (.loadW Z Fx.agg33 (.tail _<|.head _) Z) Z<|.sW (.tail<|.tail<|.head) Z Z Fx.size33 (by simp [Value.oneCell']) Z<|.nt<|.rt<|.bR<|.tR<|.bR<|?_
  refine Sx.ret1 (.inl rfl) rfl (.cell rfl Fx.agg33 (.tail _<|.tail _<|.head _) rfl) fun W s => ?_
  rw [← (hI.fin (n := n) hS hv4).1]
  exact ⟨(opE op [a,a2],[.int .i64 op.toNat,.string ⟨#[]⟩,.int .i64 0,.slice (some ⟨b52,0,none⟩) 2 2],H5),⟨(hI.fin hS hv4).2,u1.trans (u2.trans (u3.trans (u4.trans u5))),ex_shut (op := op) (nm := []) (n := 0) (args := [a,a2]) (by decide) (Rep.mk (n := 2) (c := 2) m5 (RepZ.app (RepZ.single (r3.up (u4.trans u5).up) rfl) (RepZ.single (r4.up u5.up) rfl)) rfl (Nat.le_refl _) (by decide))⟩,rfl,s.pickT (hd := [_,_,_]) (tl := bs) (hd' := [_]) [0] rfl rfl⟩
 try simp only [df] at h55
 have hne : lv ≠ 2 := by omega
 exact .sk<|.bN<|.tN<|.ag (x := ((a,y1,y2,y3,y4),H3,q1)) ((opE op [a,a2],.int .i64 op.toNat,.string ⟨#[]⟩,.int .i64 0,.slice (some ⟨b52,0,none⟩) 2 2),H5,up n (gX (lv + 1)) q1.tl) trivial ⟨rfl,rfl,rfl,rfl,rfl,rfl,trivial⟩ (fun _ s => (s.pickT (hd := [_,_,_]) (tl := bs) (hd' := [_,_,_]) [1,0,2] Z Z)) ⟨(hI.step hl hne hS hv4).1,u3.trans (u4.trans u5),ex_shut (op := op) (nm := []) (n := 0) (args := [a,a2]) (by decide) (Rep.mk (n := 2) (c := 2) m5 (RepZ.app (RepZ.single (r3.up (u4.trans u5).up) Z) (RepZ.single (r4.up u5.up) Z)) Z (Nat.le_refl _) (by decide)),(Suf.ex _).up (Suf.tl hq1)⟩ (hI.step hl hne hS hv4).2
theorem un_r9 {n : Nat} {q : Sg} {a : Ex} (h1 : ac [45] q = true) (hv : vl (gX 5) q.tl a) : up n (gX 5) q = up n (gX 5) q.tl ∧ vl (gX 5) q (opE 9 [a]) :=
 ⟨by conv => lhs;rw [gX_un,up_altT h1,up_map],by rw [gX_un];exact vl_altT h1 (vl_map (f := fun x => opE 9 [x]) hv)⟩
theorem un_r10 {n : Nat} {q : Sg} {a : Ex} (h1 : ac [45] q = false) (h2 : ac [110,111,116] q = true) (hv : vl (gX 5) q.tl a) : up n (gX 5) q = up n (gX 5) q.tl ∧ vl (gX 5) q (opE 10 [a]) :=
 ⟨by conv => lhs;rw [gX_un,up_altF h1,up_altT h2,up_map],by rw [gX_un];exact vl_altF h1 (vl_altT h2 (vl_map (f := fun x => opE 10 [x]) hv))⟩
theorem un_r0 {n : Nat} {q : Sg} {a : Ex} (h1 : ac [45] q = false) (h2 : ac [110,111,116] q = false) (hv : vl gPrim q a) : up n (gX 5) q = up n gPrim q ∧ vl (gX 5) q a := by
 rw [gX_un,prim_eq]
 exact ⟨by rw [up_altF h1,up_altF h2],vl_altF h1 (vl_altF h2 hv)⟩
set_option maxRecDepth 100000 in
theorem unary_r (M : Nat) (hun : ExV 52 [] (gX 5) M) (hprim : ExV 94 [] gPrim (M + 1)) : ExV 52 [] (gX 5) (M + 1) := by
 intro H w0 W bs b n t ts tp tc q K hq hmu s
 refine Sx.enterS Tryz.func52 rfl Tryz.ntmps52 rfl s ?_
 refine .sr<|.al Fx.zero33 Z fun b2 => .nt<|.sq<|.sr<|.m Z Z<|.cs (X := Unit) Fx.call54 Z (fun W s => take_r K hq [45] (s.pickT (hd := [_,_]) (tl := bs) (hd' := [_,_]) [1,0] Z Z)) Z fun _ _ => .nt<|.cd Z (fun h4 => ?_) (fun h4 => ?_)
 ·rw [acS_T h4]
  have hlt := mu_tl h4
  refine .sr<|.m Z Z<|.cs (X := Ex × List Value × Hp) Fx.call52 Z (fun W s => hun K (Suf.tl hq) (by omega) (s.pickT (hd := [_,_]) (tl := bs) (hd' := [_,_]) [0,1] Z Z)) Z fun z1 hz1 => ?_
  obtain ⟨a1,c1,H1⟩ := z1
  obtain ⟨hv1,u1,r1⟩ := hz1
  dsimp only at hv1 u1 r1 ⊢
  obtain ⟨x1,x2,x3,x4,rfl⟩ := four (ex_len r1)
  have K1 := K.up u1.up
  refine .bl Z (Fx.bsl31_1 _ _ _ _) Z fun b7 => ?_
  refine Sx.freezeBox fun H2 u2 m2 => ?_
  refine .yv (.build Z (Fx.bld33_0_3 _ _ _ _)) Z<|.sW (.tail<|.head) Z Z Fx.size33 (by simp [Value.oneCell']) Z<|.nt<|.rt<|.tR<|?_
  refine Sx.ret1 (.inl rfl) rfl (.cell rfl Fx.agg33 (.tail _<|.head _) rfl) fun W s => ?_
  rw [(un_r9 (n := n) h4 hv1).1]
  exact ⟨(opE 9 [a1],[.int .i64 9,.string ⟨#[]⟩,.int .i64 0,.slice (some ⟨b7,0,none⟩) 1 1],H2),⟨(un_r9 (n := n) h4 hv1).2,u1.trans u2,ex_shut (op := 9) (nm := []) (n := 0) (args := [a1]) (by decide) (Rep.mk (n := 1) (c := 1) m2 (.single (r1.up u2.up) rfl) rfl (Nat.le_refl _) (by decide))⟩,rfl,s.pickT (hd := [_,_]) (tl := bs) (hd' := [_]) [0] rfl rfl⟩
 rw [acS_F h4]
 refine .sk<|.tN<|.sq<|.sr<|.m Z Z<|.cs (X := Unit) Fx.call54 Z (fun W s => take_r K hq [110,111,116] (s.pickT (hd := [_,_]) (tl := bs) (hd' := [_,_]) [0,1] Z Z)) Z fun _ _ => .nt<|.cd Z (fun h10 => ?_) (fun h10 => ?_)
 ·rw [acS_T h10]
  have hlt := mu_tl h10
  refine .sr<|.m Z Z<|.cs (X := Ex × List Value × Hp) Fx.call52 Z (fun W s => hun K (Suf.tl hq) (by omega) (s.pickT (hd := [_,_]) (tl := bs) (hd' := [_,_]) [0,1] Z Z)) Z fun z1 hz1 => ?_
  obtain ⟨a1,c1,H1⟩ := z1
  obtain ⟨hv1,u1,r1⟩ := hz1
  dsimp only at hv1 u1 r1 ⊢
  obtain ⟨x1,x2,x3,x4,rfl⟩ := four (ex_len r1)
  have K1 := K.up u1.up
  refine .bl Z (Fx.bsl31_1 _ _ _ _) Z fun b13 => ?_
  refine Sx.freezeBox fun H2 u2 m2 => ?_
  refine .yv (.build Z (Fx.bld33_0_3 _ _ _ _)) Z<|.sW (.tail<|.head) Z Z Fx.size33 (by simp [Value.oneCell']) Z<|.nt<|.rt<|.tR<|?_
  refine Sx.ret1 (.inl rfl) rfl (.cell rfl Fx.agg33 (.tail _<|.head _) rfl) fun W s => ?_
  rw [(un_r10 (n := n) h4 h10 hv1).1]
  exact ⟨(opE 10 [a1],[.int .i64 10,.string ⟨#[]⟩,.int .i64 0,.slice (some ⟨b13,0,none⟩) 1 1],H2),⟨(un_r10 (n := n) h4 h10 hv1).2,u1.trans u2,ex_shut (op := 10) (nm := []) (n := 0) (args := [a1]) (by decide) (Rep.mk (n := 1) (c := 1) m2 (.single (r1.up u2.up) rfl) rfl (Nat.le_refl _) (by decide))⟩,rfl,s.pickT (hd := [_,_]) (tl := bs) (hd' := [_]) [0] rfl rfl⟩
 rw [acS_F h10]
 refine .sk<|.tN<|.sr<|.m Z Z<|.cs (X := Ex × List Value × Hp) Fx.call94 Z (fun W s => hprim K hq hmu (s.pickT (hd := [_,_]) (tl := bs) (hd' := [_,_]) [0,1] Z Z)) Z fun z1 hz1 => ?_
 obtain ⟨a1,c1,H1⟩ := z1
 obtain ⟨hv1,u1,r1⟩ := hz1
 dsimp only at hv1 u1 r1 ⊢
 obtain ⟨x1,x2,x3,x4,rfl⟩ := four (ex_len r1)
 have K1 := K.up u1.up
 refine .sW (.tail<|.head) Z Z Fx.size33 (Rep.one r1) Z<|.nt<|.rt<|?_
 refine Sx.ret1 (.inl rfl) rfl (.cell rfl Fx.agg33 (.tail _<|.head _) rfl) fun W s => ?_
 rw [(un_r0 (n := n) h4 h10 hv1).1]
 exact ⟨(a1,[x1,x2,x3,x4],H1),⟨(un_r0 (n := n) h4 h10 hv1).2,u1,r1⟩,rfl,s.pickT (hd := [_,_]) (tl := bs) (hd' := [_]) [0] rfl rfl⟩
theorem Fx.call25 : callN Tryz.prog 25 = Bool.true := by kernel_rfl
theorem Fx.call27 : callN Tryz.prog 27 = Bool.true := by kernel_rfl
theorem Fx.call96 : callN Tryz.prog 96 = Bool.true := by kernel_rfl
theorem Fx.call97 : callN Tryz.prog 97 = Bool.true := by kernel_rfl
theorem Fx.call99 : callN Tryz.prog 99 = Bool.true := by kernel_rfl
theorem Fx.size31 : sizeN Tryz.prog 31 = Option.some 1 := by kernel_rfl
theorem Fx.bld33  : buildN Tryz.prog 33 [] = some [.int .i64 0,.string ⟨#[]⟩,.int .i64 0,.slice none 0 0] := by kernel_rfl
theorem ac_k3 {n : Nat} {w : Str} {q : Sg} (h : decide ((((tkH n q.r).k.toNat : Nat) : Int) = 3) = true) : ac w q = false := by
 have h := of_decide_eq_true h
 rw [ac_k (n := n),decide_eq_false (show ¬ (((tkH n q.r).k.toNat : Nat) : Int) = 2 by omega),decide_eq_false (show ¬ (((tkH n q.r).k.toNat : Nat) : Int) = 4 by omega)]
 simp
set_option maxRecDepth 100000 in
theorem primary_r (M : Nat) (hex : ExV 26 [.int .i64 ((0 : Nat) : Int)] (gX 0) M) : ExV 94 [] gPrim (M + 1) := by
 intro H w0 W bs b n t ts tp tc q K hq hmu s
 refine Sx.enterS Tryz.func94 rfl Tryz.ntmps94 rfl s ?_
 refine .sr<|.al Fx.zero33 Z fun b2 => .nt<|.sq<|.sr<|.m Z Z<|.yv (.nilCheck Z) Z<|.yv (.fieldAddr Z Fx.field75_4) Z<|.yv (.load Z Fx.agg3 (.tail _<|.head _) Z) Z<|.yv (.neq Z Z) Z<|.nt<|.cd Z (fun h10 => ?_) (fun h10 => ?_)
 ·try simp only [dt] at h10
  have h0 : ¬ q.e = 0 := by omega
  refine .sr<|.yv (.build Z Fx.bld33) Z<|.sW .head Z Z Fx.size33 (by simp [Value.oneCell',strV]) Z<|.nt<|.rt<|.tR<|?_
  refine Sx.ret1 (.inl rfl) rfl (.cell rfl Fx.agg33 (.head _) rfl) fun W s => ?_
  rw [up_er h0]
  exact ⟨(opE 0 [],[.int .i64 0,.string ⟨#[]⟩,.int .i64 0,.slice none 0 0],H),⟨vl_er h0,.refl,ex_shut (op := 0) (nm := []) (n := 0) (args := []) (by decide) (Rep.empty (p := none) (c := 0) (by decide))⟩,rfl,s.pickT (hd := [_,_]) (tl := bs) (hd' := [_]) [1] rfl rfl⟩
 try simp only [df] at h10
 have h0 : q.e = 0 := by omega
 refine .sk<|.tN<|.sq<|.bk<|.sr<|.m Z Z<|.cs (X := Unit) Fx.call55 Z (fun W s => tok_r K hq  (s.pickT (hd := [_,_]) (tl := bs) (hd' := [_,_]) [1,0] Z Z)) Z fun _ _ => .yv (.fld Z (fld_tr0 _ _ _)) Z<|.yv (.eql Z Z) Z<|.a Z Z<|.nt<|.cd Z (fun h12 => ?_) (fun h12 => ?_)
 ·skip
  refine .sr<|.m Z Z<|.cs (X := Int64) Fx.call99 Z (fun W s => number_r K hq  (s.pickT (hd := [_,_]) (tl := bs) (hd' := [_,_]) [0,1] Z Z)) Z fun nu hnu => .yv (.build Z (Fx.bld33_0_2 _ _)) Z<|.sW (.tail<|.head) Z Z Fx.size33 (by simp [Value.oneCell',strV]) Z<|.nt<|.rt<|.bR<|.tR<|?_
  refine Sx.ret1 (.inl rfl) rfl (.cell rfl Fx.agg33 (.tail _<|.head _) rfl) fun W s => ?_
  rw [show up n gPrim q = up n gNu q by unfold gPrim;rw [up_altF (ac_k3 h12),up_altF (ac_k3 h12),up_altF (ac_k3 h12),up_altF (ac_k3 h12),up_altF (ac_k3 h12),up_altF (ac_k3 h12)];exact last_numU h12]
  exact ⟨(.mk 1 [] nu [],[.int .i64 1,.string ⟨#[]⟩,.int .i64 nu.toInt,.slice none 0 0],H),⟨(by unfold gPrim;exact vl_altF (ac_k3 h12) (vl_altF (ac_k3 h12) (vl_altF (ac_k3 h12) (vl_altF (ac_k3 h12) (vl_altF (ac_k3 h12) (vl_altF (ac_k3 h12) (last_num h12 hnu))))))),.refl,ex_shut (op := 1) (nm := []) (n := nu) (args := []) (by decide) (Rep.empty (p := none) (c := 0) (by decide))⟩,rfl,s.pickT (hd := [_,_]) (tl := bs) (hd' := [_]) [0] rfl rfl⟩
 skip
 refine .sr<|.m Z Z<|.cs (X := Unit) Fx.call54 Z (fun W s => take_r K hq [116,114,117,101] (s.pickT (hd := [_,_]) (tl := bs) (hd' := [_,_]) [0,1] Z Z)) Z fun _ _ => .a Z Z<|.nt<|.cd Z (fun h20 => ?_) (fun h20 => ?_)
 ·rw [acS_T h20]
  refine .sr<|.yv (.build Z (Fx.bld33_0 _)) Z<|.sW (.tail<|.head) Z Z Fx.size33 (by simp [Value.oneCell',strV]) Z<|.nt<|.rt<|.bR<|.tR<|?_
  refine Sx.ret1 (.inl rfl) rfl (.cell rfl Fx.agg33 (.tail _<|.head _) rfl) fun W s => ?_
  rw [show up n gPrim q = q.tl by unfold gPrim;rw [up_altT h20,up_pure]]
  exact ⟨(opE 2 [],[.int .i64 2,.string ⟨#[]⟩,.int .i64 0,.slice none 0 0],H),⟨(by unfold gPrim;exact vl_altT h20 (vl_pure)),.refl,ex_shut (op := 2) (nm := []) (n := 0) (args := []) (by decide) (Rep.empty (p := none) (c := 0) (by decide))⟩,rfl,s.pickT (hd := [_,_]) (tl := bs) (hd' := [_]) [0] rfl rfl⟩
 rw [acS_F h20]
 refine .sr<|.m Z Z<|.cs (X := Unit) Fx.call54 Z (fun W s => take_r K hq [102,97,108,115,101] (s.pickT (hd := [_,_]) (tl := bs) (hd' := [_,_]) [0,1] Z Z)) Z fun _ _ => .a Z Z<|.nt<|.cd Z (fun h24 => ?_) (fun h24 => ?_)
 ·rw [acS_T h24]
  refine .sr<|.yv (.build Z (Fx.bld33_0 _)) Z<|.sW (.tail<|.head) Z Z Fx.size33 (by simp [Value.oneCell',strV]) Z<|.nt<|.rt<|.bR<|.tR<|?_
  refine Sx.ret1 (.inl rfl) rfl (.cell rfl Fx.agg33 (.tail _<|.head _) rfl) fun W s => ?_
  rw [show up n gPrim q = q.tl by unfold gPrim;rw [up_altF h20,up_altT h24,up_pure]]
  exact ⟨(opE 3 [],[.int .i64 3,.string ⟨#[]⟩,.int .i64 0,.slice none 0 0],H),⟨(by unfold gPrim;exact vl_altF h20 (vl_altT h24 (vl_pure))),.refl,ex_shut (op := 3) (nm := []) (n := 0) (args := []) (by decide) (Rep.empty (p := none) (c := 0) (by decide))⟩,rfl,s.pickT (hd := [_,_]) (tl := bs) (hd' := [_]) [0] rfl rfl⟩
 rw [acS_F h24]
 refine .sr<|.m Z Z<|.cs (X := Unit) Fx.call54 Z (fun W s => take_r K hq [110,111,119] (s.pickT (hd := [_,_]) (tl := bs) (hd' := [_,_]) [0,1] Z Z)) Z fun _ _ => .a Z Z<|.nt<|.cd Z (fun h28 => ?_) (fun h28 => ?_)
 ·rw [acS_T h28]
  refine .sr<|.yv (.build Z (Fx.bld33_0 _)) Z<|.sW (.tail<|.head) Z Z Fx.size33 (by simp [Value.oneCell',strV]) Z<|.nt<|.rt<|.bR<|.tR<|?_
  refine Sx.ret1 (.inl rfl) rfl (.cell rfl Fx.agg33 (.tail _<|.head _) rfl) fun W s => ?_
  rw [show up n gPrim q = q.tl by unfold gPrim;rw [up_altF h20,up_altF h24,up_altT h28,up_pure]]
  exact ⟨(opE 4 [],[.int .i64 4,.string ⟨#[]⟩,.int .i64 0,.slice none 0 0],H),⟨(by unfold gPrim;exact vl_altF h20 (vl_altF h24 (vl_altT h28 (vl_pure)))),.refl,ex_shut (op := 4) (nm := []) (n := 0) (args := []) (by decide) (Rep.empty (p := none) (c := 0) (by decide))⟩,rfl,s.pickT (hd := [_,_]) (tl := bs) (hd' := [_]) [0] rfl rfl⟩
 rw [acS_F h28]
 refine .sr<|.m Z Z<|.cs (X := Unit) Fx.call54 Z (fun W s => take_r K hq [115,105,122,101] (s.pickT (hd := [_,_]) (tl := bs) (hd' := [_,_]) [0,1] Z Z)) Z fun _ _ => .a Z Z<|.nt<|.cd Z (fun h32 => ?_) (fun h32 => ?_)
 ·rw [acS_T h32]
  refine .sr<|.m Z Z<|.cs (X := Str) Fx.call97 Z (fun W s => name_r K (Suf.tl hq)  (s.pickT (hd := [_,_]) (tl := bs) (hd' := [_,_]) [0,1] Z Z)) Z fun nm hnm => .yv (.build Z (Fx.bld33_0_1 _ _)) Z<|.sW (.tail<|.head) Z Z Fx.size33 (by simp [Value.oneCell',strV]) Z<|.nt<|.rt<|.bR<|.tR<|?_
  refine Sx.ret1 (.inl rfl) rfl (.cell rfl Fx.agg33 (.tail _<|.head _) rfl) fun W s => ?_
  rw [show up n gPrim q = up n gNm q.tl by unfold gPrim;rw [up_altF h20,up_altF h24,up_altF h28,up_altT h32,up_map]]
  exact ⟨(.mk 8 nm 0 [],[.int .i64 8,strV nm,.int .i64 0,.slice none 0 0],H),⟨(by unfold gPrim;exact vl_altF h20 (vl_altF h24 (vl_altF h28 (vl_altT h32 (vl_map (f := fun s => Ex.mk 8 s 0 []) hnm.1))))),.refl,ex_shut (op := 8) (nm := nm) (n := 0) (args := []) hnm.2 (Rep.empty (p := none) (c := 0) (by decide))⟩,rfl,s.pickT (hd := [_,_]) (tl := bs) (hd' := [_]) [0] rfl rfl⟩
 rw [acS_F h32]
 refine .sr<|.m Z Z<|.cs (X := Unit) Fx.call54 Z (fun W s => take_r K hq [40] (s.pickT (hd := [_,_]) (tl := bs) (hd' := [_,_]) [0,1] Z Z)) Z fun _ _ => .a Z Z<|.nt<|.cd Z (fun h38 => ?_) (fun h38 => ?_)
 ·rw [acS_T h38]
  have hlt := mu_tl h38
  refine .sr<|.m Z Z<|.cs (X := Ex × List Value × Hp) Fx.call26 Z (fun W s => hex K (Suf.tl hq) (by omega) (s.pickT (hd := [_,_]) (tl := bs) (hd' := [_,_]) [0,1] Z Z)) Z fun z1 hz1 => ?_
  obtain ⟨a1,c1,H1⟩ := z1
  obtain ⟨hv1,u1,r1⟩ := hz1
  dsimp only at hv1 u1 r1 ⊢
  obtain ⟨x1,x2,x3,x4,rfl⟩ := four (ex_len r1)
  have K1 := K.up u1.up
  refine .al Fx.zero33 Z fun b3 => .sW .head Z Z Fx.size33 (Rep.one r1) Z<|.ns<|.m Z Z<|.cs (X := Unit) Fx.call96 Z (fun W s => need_r K1 ((Suf.ex _).up (Suf.tl hq)) [41] (s.pickT (hd := [_,_,_]) (tl := bs) (hd' := [_,_,_]) [1,0,2] Z Z)) Z fun _ _ => .ns<|.yv (.loadW Z Fx.agg33 (.tail _<|.head _) Z) Z<|.sW (.tail<|.tail<|.head) Z Z Fx.size33 (Rep.one r1) Z<|.nt<|.rt<|.bR<|.tR<|?_
  refine Sx.ret1 (.inl rfl) rfl (.cell rfl Fx.agg33 (.tail _<|.tail _<|.head _) rfl) fun W s => ?_
  rw [show up n gPrim q = up n (gNd [41]) (up n (gX 0) q.tl) by unfold gPrim;rw [up_altF h20,up_altF h24,up_altF h28,up_altF h32,up_altF (ac_ne (w := [40]) h38 (by decide)),up_altT h38,up_bind (Cz.ex _) hv1,up_bind (x := ()) (Cz.nd _) vl_unit,up_pure]]
  exact ⟨(a1,[x1,x2,x3,x4],H1),⟨(by unfold gPrim;exact vl_altF h20 (vl_altF h24 (vl_altF h28 (vl_altF h32 (vl_altF (ac_ne (w := [40]) h38 (by decide)) (vl_altT h38 (vl_bind (n := n) hv1 (vl_bind (n := n) (x := ()) vl_unit vl_pure)))))))),u1,r1⟩,rfl,s.pickT (hd := [_,_,_]) (tl := bs) (hd' := [_]) [0] rfl rfl⟩
 rw [acS_F h38]
 refine .sr<|.m Z Z<|.cs (X := Unit) Fx.call54 Z (fun W s => take_r K hq [104,97,115] (s.pickT (hd := [_,_]) (tl := bs) (hd' := [_,_]) [0,1] Z Z)) Z fun _ _ => .a Z Z<|.nt<|.cd Z (fun h46 => ?_) (fun h46 => ?_)
 ·rw [acS_T h46]
  have hlt := mu_tl h46
  refine .sr<|.m Z Z<|.cs (X := Str) Fx.call97 Z (fun W s => name_r K (Suf.tl hq)  (s.pickT (hd := [_,_]) (tl := bs) (hd' := [_,_]) [0,1] Z Z)) Z fun nm hnm => .yv (.build Z (Fx.bld33_0_1 _ _)) Z<|.al Fx.zero33 Z fun b4 => .sW .head Z Z Fx.size33 (by simp [Value.oneCell',strV]) Z<|.ns<|.m Z Z<|.cs (X := Unit) Fx.call96 Z (fun W s => need_r K (Suf.nm.up (Suf.tl hq)) [91] (s.pickT (hd := [_,_,_]) (tl := bs) (hd' := [_,_,_]) [1,0,2] Z Z)) Z fun _ _ => .ns<|.m Z Z<|.cs (X := Ex × List Value × Hp) Fx.call26 Z (fun W s => hex K ((Suf.nd _).up (Suf.nm.up (Suf.tl hq))) (by have h1 := mu_up (n := n) (s := q.tl) Shs.nm.le Cz.nm;have h2 := mu_up (n := n) (s := up n gNm q.tl) (Shs.nd [91]).le (Cz.nd [91]);omega) (s.pickT (hd := [_,_,_]) (tl := bs) (hd' := [_,_,_]) [0,1,2] Z Z)) Z fun z1 hz1 => ?_
  obtain ⟨a1,c1,H1⟩ := z1
  obtain ⟨hv1,u1,r1⟩ := hz1
  dsimp only at hv1 u1 r1 ⊢
  obtain ⟨x1,x2,x3,x4,rfl⟩ := four (ex_len r1)
  have K1 := K.up u1.up
  refine .bl Z (Fx.bsl31_1 _ _ _ _) Z fun b56 => ?_
  refine Sx.freezeBox fun H2 u2 m2 => ?_
  have K2 := K1.up u2.up
  refine .yv (.fieldAddr Z Fx.field33_3) Z<|.st (.tail<|.head) Z Z Fx.size31 Z (nb Z) Z<|.ns<|.m Z Z<|.cs (X := Unit) Fx.call96 Z (fun W s => need_r K2 ((Suf.ex _).up ((Suf.nd _).up (Suf.nm.up (Suf.tl hq)))) [93] (s.pickT (hd := [_,_,_]) (tl := bs) (hd' := [_,_,_]) [0,1,2] Z Z)) Z fun _ _ => .ns<|.yv (.loadW Z Fx.agg33 (.tail _<|.head _) Z) Z<|.sW (.tail<|.tail<|.head) Z Z Fx.size33 (by simp [Value.oneCell',strV]) Z<|.nt<|.rt<|.bR<|.tR<|?_
  refine Sx.ret1 (.inl rfl) rfl (.cell rfl Fx.agg33 (.tail _<|.tail _<|.head _) rfl) fun W s => ?_
  rw [show up n gPrim q = up n (gNd [93]) (up n (gX 0) (up n (gNd [91]) (up n gNm q.tl))) by unfold gPrim;rw [up_altF h20,up_altF h24,up_altF h28,up_altF h32,up_altT h46,up_bind Cz.nm hnm.1];exact (key_eq (n := n) 7 nm hv1).1]
  exact ⟨(.mk 7 nm 0 [a1],[.int .i64 7,strV nm,.int .i64 0,.slice (some ⟨b56,0,none⟩) 1 1],H2),⟨(by unfold gPrim;exact vl_altF h20 (vl_altF h24 (vl_altF h28 (vl_altF h32 (vl_altT h46 (vl_bind (n := n) hnm.1 (key_eq (n := n) 7 nm hv1).2)))))),u1.trans u2,ex_shut (op := 7) (nm := nm) (n := 0) (args := [a1]) hnm.2 (Rep.mk (n := 1) (c := 1) m2 (.single (r1.up u2.up) rfl) rfl (Nat.le_refl _) (by decide))⟩,rfl,s.pickT (hd := [_,_,_]) (tl := bs) (hd' := [_]) [0] rfl rfl⟩
 rw [acS_F h46]
 refine .sk<|.bN<|.tN<|.sr<|.m Z Z<|.cs (X := Str) Fx.call97 Z (fun W s => name_r K hq  (s.pickT (hd := [_,_]) (tl := bs) (hd' := [_,_]) [0,1] Z Z)) Z fun nm hnm => .yv (.build Z (Fx.bld33_0_1 _ _)) Z<|.al Fx.zero33 Z fun b5 => .sW .head Z Z Fx.size33 (by simp [Value.oneCell',strV]) Z<|.nt<|.sq<|.sr<|.m Z Z<|.cs (X := Unit) Fx.call54 Z (fun W s => take_r K (Suf.nm.up hq) [91] (s.pickT (hd := [_,_,_]) (tl := bs) (hd' := [_,_,_]) [1,0,2] Z Z)) Z fun _ _ => .nt<|.cd Z (fun h65 => ?_) (fun h65 => ?_)
 ·rw [acS_T h65]
  have hlt := mu_tl h65
  have hle := mu_up (n := n) (s := q) Shs.nm.le Cz.nm
  refine .sr<|.yv (.fieldAddr Z Fx.field33_0) Z<|.st (.tail<|.head) Z Z Fx.size3 Z (nb Z) Z<|.ns<|.m Z Z<|.cs (X := Ex × List Value × Hp) Fx.call26 Z (fun W s => hex K (Suf.tl (Suf.nm.up hq)) (by omega) (s.pickT (hd := [_,_,_]) (tl := bs) (hd' := [_,_,_]) [0,1,2] Z Z)) Z fun z1 hz1 => ?_
  obtain ⟨a1,c1,H1⟩ := z1
  obtain ⟨hv1,u1,r1⟩ := hz1
  dsimp only at hv1 u1 r1 ⊢
  obtain ⟨x1,x2,x3,x4,rfl⟩ := four (ex_len r1)
  have K1 := K.up u1.up
  refine .bl Z (Fx.bsl31_1 _ _ _ _) Z fun b69 => ?_
  refine Sx.freezeBox fun H2 u2 m2 => ?_
  have K2 := K1.up u2.up
  refine .yv (.fieldAddr Z Fx.field33_3) Z<|.st (.tail<|.head) Z Z Fx.size31 Z (nb Z) Z<|.nt<|.rg<|.m Z Z<|.cs (X := Unit) Fx.call96 Z (fun W s => need_r K2 ((Suf.ex _).up (Suf.tl (Suf.nm.up hq))) [93] (s.pickT (hd := [_,_,_]) (tl := bs) (hd' := [_,_,_]) [0,1,2] Z Z)) Z fun _ _ => .ns<|.yv (.loadW Z Fx.agg33 (.tail _<|.head _) Z) Z<|.sW (.tail<|.tail<|.head) Z Z Fx.size33 (by simp [Value.oneCell',strV]) Z<|.nt<|.rt<|?_
  refine Sx.ret1 (.inl rfl) rfl (.cell rfl Fx.agg33 (.tail _<|.tail _<|.head _) rfl) fun W s => ?_
  rw [show up n gPrim q = up n (gNd [93]) (up n (gX 0) (up n gNm q).tl) by unfold gPrim;rw [up_altF h20,up_altF h24,up_altF h28,up_altF h32,up_altF h46,up_altF h38,last_key h12 hnm.1 h65,(key_eq (n := n) 6 nm (show vl (gX 0) (up n (gNd [91]) (up n gNm q)) a1 by rw [up_ndT h65];exact hv1)).1,up_ndT h65]]
  exact ⟨(.mk 6 nm 0 [a1],[.int .i64 6,strV nm,.int .i64 0,.slice (some ⟨b69,0,none⟩) 1 1],H2),⟨(by unfold gPrim;exact vl_altF h20 (vl_altF h24 (vl_altF h28 (vl_altF h32 (vl_altF h46 (vl_altF h38 (last_nam h12 (vl_bind (n := n) hnm.1 (vl_altT h65 (key_vl h65 (key_eq (n := n) 6 nm (show vl (gX 0) (up n (gNd [91]) (up n gNm q)) a1 by rw [up_ndT h65];exact hv1)).2)))))))))),u1.trans u2,ex_shut (op := 6) (nm := nm) (n := 0) (args := [a1]) hnm.2 (Rep.mk (n := 1) (c := 1) m2 (.single (r1.up u2.up) rfl) rfl (Nat.le_refl _) (by decide))⟩,rfl,s.pickT (hd := [_,_,_]) (tl := bs) (hd' := [_]) [0] rfl rfl⟩
 rw [acS_F h65]
 refine .sk<|.tN<|.sr<|.yv (.loadW Z Fx.agg33 (.tail _<|.head _) Z) Z<|.sW (.tail<|.tail<|.head) Z Z Fx.size33 (by simp [Value.oneCell',strV]) Z<|.nt<|.rt<|?_
 refine Sx.ret1 (.inl rfl) rfl (.cell rfl Fx.agg33 (.tail _<|.tail _<|.head _) rfl) fun W s => ?_
 rw [show up n gPrim q = up n gNm q by unfold gPrim;rw [up_altF h20,up_altF h24,up_altF h28,up_altF h32,up_altF h46,up_altF h38];exact last_name h12 hnm.1 h65]
 exact ⟨(.mk 5 nm 0 [],[.int .i64 5,strV nm,.int .i64 0,.slice none 0 0],H),⟨(by unfold gPrim;exact vl_altF h20 (vl_altF h24 (vl_altF h28 (vl_altF h32 (vl_altF h46 (vl_altF h38 (last_nam h12 (vl_bind (n := n) hnm.1 (vl_altF h65 vl_pure))))))))),.refl,ex_shut (op := 5) (nm := nm) (n := 0) (args := []) hnm.2 (Rep.empty (p := none) (c := 0) (by decide))⟩,rfl,s.pickT (hd := [_,_,_]) (tl := bs) (hd' := [_]) [0] rfl rfl⟩
theorem levels_r : ∀ M,(∀ lv,lv ≤ 5 → ExV 26 [.int .i64 (lv : Nat)] (gX lv) M) ∧ ExV 52 [] (gX 5) M
 | 0 => ⟨fun _ _ => ExV.zero _ _ _,ExV.zero _ _ _⟩
 | M + 1 => by
  obtain ⟨h1,h2⟩ := levels_r M
  have hu : ExV 52 [] (gX 5) (M + 1) := unary_r M h2 (primary_r M (h1 0 (by omega)))
  have key : ∀ k lv,lv + k = 5 → ExV 26 [.int .i64 (lv : Nat)] (gX lv) (M + 1) := by
   intro k
   induction k with
   | zero => exact fun lv h => expr_r (M + 1) lv (by omega) (fun _ => hu) (fun h5 => absurd h (by omega))
   | succ k ih => exact fun lv h => expr_r (M + 1) lv (by omega) (fun h5 => absurd h (by omega)) (fun _ => ih (lv + 1) (by omega))
  exact ⟨fun lv h => key (5 - lv) lv (by omega),hu⟩
theorem rexpr_all {H : Hp} {w0 W : World} {bs : List Res} {b n : Nat} {t : Str} {ts : List Tk} {tp : Option Addr} {tc : Nat} {q : Sg} (K : Tkr H t n ts tp tc) (hq : q.r <:+ ts) (s : St H w0 (.box b [strV t,.slice tp ts.length tc,.int .i64 (posN ts q : Nat),.int .i64 (q.o : Nat),.int .i64 (q.e : Nat)] 75 :: bs) W) : Calls Tryz.prog 26 #[.pointer (some ⟨b,0,none⟩),.int .i64 ((0 : Nat) : Int)] W fun e W' => ∃ z : Ex × List Value × Hp,(vl (gX 0) q z.1 ∧ HUp w0 H z.2.2 ∧ Rep z.2.2 (dEx .i64 z.1) z.2.1) ∧ e = .returned (.agg z.2.1.toArray) ∧ St z.2.2 w0 (.box b [strV t,.slice tp ts.length tc,.int .i64 (posN ts (up n (gX 0) q) : Nat),.int .i64 ((up n (gX 0) q).o : Nat),.int .i64 ((up n (gX 0) q).e : Nat)] 75 :: bs) W' := (levels_r (q.mu + 1)).1 0 (by omega) K hq (Nat.lt_succ_self _) s
theorem hup_base {H H' : Hp} {w0 W : World} {bs : List Res} (u : HUp W H H') (s : St H w0 bs W) : HUp w0 H H' := ⟨u.up,fun b e hb => u.new b e (Nat.lt_of_lt_of_le hb s.ext.size)⟩
theorem start_c {H : Hp} (G : Gl H) {w0 W : World} {bs : List Res} (t : Str) (ht : t.length ≤ 9223372036854775807) (s : St H w0 bs W) :
 Calls Tryz.prog 22 #[strV t] W fun e W' => ∃ z : Nat × Hp × Option Addr × Nat,(Tkm z.2.1 (sg0 t).r z.2.2.1 z.2.2.2 ∧ HUp w0 H z.2.1) ∧ e = .returned (.pointer (some ⟨z.1,0,none⟩)) ∧ St z.2.1 w0 (.box z.1 [.slice z.2.2.1 ((sg0 t).r).length z.2.2.2,.int .i64 (posN ((sg0 t).r) (sg0 t) : Nat),.int .i64 (t.length : Nat),.string ⟨#[]⟩,.slice none 0 0,.slice none 0 0,.slice none 0 0,.int .i64 ((sg0 t).o : Nat),.int .i64 ((sg0 t).e : Nat)] 99 :: bs) W' :=
 (start_any H G t ht W s.agr).mono fun e W' ⟨z,⟨h1,h2⟩,h3,h4⟩ => ⟨z,⟨h1,hup_base h2 s⟩,h3,s.join h2 h4⟩
def exE (t : Str) (x : Ex) : Nat := if (sgZ (gX 0) t).e = 0 then checkE x else (sgZ (gX 0) t).e
def exO (t : Str) (x : Ex) : Nat := if (sgZ (gX 0) t).e = 0 ∧ checkE x = 0 then 0 else (sgZ (gX 0) t).o
def exR (t : Str) (x : Ex) (cs : List Value) : List Value := if (sgZ (gX 0) t).e = 0 ∧ checkE x = 0 then cs else [.int .u8 0,.string ⟨#[]⟩,.int .i64 0,.slice none 0 0]
set_option maxRecDepth 100000 in
theorem exprP_st {H : Hp} (G : Gl H) {w0 W : World} {bs : List Res} (t : Str) (ht : t.length ≤ 9223372036854775807) (s : St H w0 bs W) :
 Calls Tryz.prog 11 #[strV t] W fun e W' => ∃ z : Ex × List Value × Hp,(vl (gX 0) (sg0 t) z.1 ∧ HUp w0 H z.2.2 ∧ Rep z.2.2 (dEx .u8 z.1) z.2.1) ∧ e = .returned (.tuple #[.agg (exR t z.1 z.2.1).toArray,.int .i64 (exO t z.1 : Nat),.int .i64 (exE t z.1 : Nat)]) ∧ St z.2.2 w0 bs W' := by
 refine Sx.enterS Tryz.func11 rfl Tryz.ntmps11 rfl s ?_
 refine .sr<|.al Fx.zero27 Z fun b2 => .a Z Z<|.a Z Z<|.ns<|.m Z Z<|.cs (X := Nat × Hp × Option Addr × Nat) Fx.call22 Z (fun W s => start_c G t ht s) Z fun z0 hz0 => ?_
 obtain ⟨b,H0,tp,tc⟩ := z0
 obtain ⟨K0,u0⟩ := hz0
 dsimp only at K0 u0 ⊢
 refine .a Z Z<|.ns<|.m Z Z<|.cs (X := Ex × List Value × Hp) Fx.call23 Z (fun W s => expr_all K0 (List.suffix_refl _) (s.pickT (hd := [_,_]) (tl := bs) (hd' := [_,_]) [0,1] Z Z)) Z fun z1 hz1 => ?_
 obtain ⟨a1,c1,H1⟩ := z1
 obtain ⟨hv1,u1,r1⟩ := hz1
 dsimp only at hv1 u1 r1 ⊢
 obtain ⟨x1,x2,x3,x4,rfl⟩ := four (ex_len r1)
 have K1 := K0.up u1.up
 have u2 := u0.trans u1
 refine .al Fx.zero27 Z fun b6 => .sW .head Z Z Fx.size27 (Rep.one r1) Z<|.ns<|.m Z Z<|.cs (X := Unit) Fx.call24 Z (fun W s => close_st K1 ((Suf.ex 0).up (List.suffix_refl _))  (s.pickT (hd := [_,_,_]) (tl := bs) (hd' := [_,_,_]) [1,0,2] Z Z)) Z fun _ _ => .m Z Z<|.yv (.extract Z Z) Z<|.yv (.extract Z Z) Z<|.a Z Z<|.a Z Z<|.nt<|.sq<|.sr<|.m Z Z<|.yv (.eql Z Z) Z<|.nt<|.cd Z (fun h19 => ?_) (fun h19 => ?_)
 ·try simp only [dt] at h19
  have hZ : (sgZ (gX 0) t).e = 0 := by unfold sgZ;omega
  refine .rg<|.yv (.loadW Z Fx.agg27 (.tail _<|.head _) Z) Z<|.yv (.call Fx.call15 Z (fun W s => checkExpr_any H1 (G.up u2.up) a1 _ r1 (Nat.le_trans (vl_depth hv1 hZ) (by decide)) W s.agr)) Z<|.a Z Z<|.nt<|.sq<|.sr<|.m Z Z<|.yv (.neq Z Z) Z<|.nt<|.cd Z (fun h23 => ?_) (fun h23 => ?_)
  ·try simp only [dt] at h23
   have hck : ¬ checkE a1 = 0 := by omega
   refine .sr<|.yv (.build Z Fx.bld27) Z<|.m Z Z<|.m Z Z<|.sW (.tail<|.tail<|.head) Z Z Fx.size27 (by simp [Value.oneCell']) Z<|.a Z Z<|.a Z Z<|.nt<|.rt<|.tR<|?_
   refine Sx.retN (.inl rfl) rfl (.cons (.cell rfl Fx.agg27 (.tail _<|.tail _<|.head _) rfl) (.cons (.tmp rfl) (.cons (.tmp rfl) .nil))) rfl fun W s => ⟨(a1,[x1,x2,x3,x4],H1),⟨hv1,u2,r1⟩,?_,s.pickT (hd := [_,_,_]) (tl := bs) (hd' := []) [] rfl rfl⟩
   unfold exR exO exE
   simp only [hZ,hck,if_true,if_false]
   rfl
  try simp only [df] at h23
  have hck : checkE a1 = 0 := by omega
  refine .sk<|.tN<|.sr<|.yv (.loadW Z Fx.agg27 (.tail _<|.head _) Z) Z<|.sW (.tail<|.tail<|.head) Z Z Fx.size27 (Rep.one r1) Z<|.a Z Z<|.a Z Z<|.nt<|.rt<|?_
  refine Sx.retN (.inl rfl) rfl (.cons (.cell rfl Fx.agg27 (.tail _<|.tail _<|.head _) rfl) (.cons (.tmp rfl) (.cons (.tmp rfl) .nil))) rfl fun W s => ⟨(a1,[x1,x2,x3,x4],H1),⟨hv1,u2,r1⟩,?_,s.pickT (hd := [_,_,_]) (tl := bs) (hd' := []) [] rfl rfl⟩
  unfold exR exO exE
  simp only [hZ,hck,if_true]
  rfl
 try simp only [df] at h19
 have hZ : ¬ (sgZ (gX 0) t).e = 0 := by unfold sgZ;omega
 refine .sk<|.tN<|.sq<|.sr<|.m Z Z<|.yv (.neq Z Z) Z<|.nt<|.cd Z (fun h23 => ?_) (fun h23 => ?_)
 ·skip
  refine .sr<|.yv (.build Z Fx.bld27) Z<|.m Z Z<|.m Z Z<|.sW (.tail<|.tail<|.head) Z Z Fx.size27 (by simp [Value.oneCell']) Z<|.a Z Z<|.a Z Z<|.nt<|.rt<|.tR<|?_
  refine Sx.retN (.inl rfl) rfl (.cons (.cell rfl Fx.agg27 (.tail _<|.tail _<|.head _) rfl) (.cons (.tmp rfl) (.cons (.tmp rfl) .nil))) rfl fun W s => ⟨(a1,[x1,x2,x3,x4],H1),⟨hv1,u2,r1⟩,?_,s.pickT (hd := [_,_,_]) (tl := bs) (hd' := []) [] rfl rfl⟩
  unfold exR exO exE
  simp only [hZ,if_false]
  rfl
 exact absurd (show (sgZ (gX 0) t).e = 0 by unfold sgZ;have := Classical.not_not.1 (of_decide_eq_false h23);omega) hZ
theorem exprP_ok {H : Hp} (G : Gl H) {w0 W : World} {bs : List Res} {t : Str} {x : Ex} (ht : t.length ≤ 20000) (hx : gX 0 (lexR t) = .ok x []) (hc : checkE x = 0) (s : St H w0 bs W) :
 Calls Tryz.prog 11 #[strV t] W fun e W' => ∃ z : List Value × Hp,(HUp w0 H z.2 ∧ Rep z.2 (dEx .u8 x) z.1) ∧ e = .returned (.tuple #[.agg z.1.toArray,.int .i64 0,.int .i64 0]) ∧ St z.2 w0 bs W' := by
 refine (exprP_st G t (by omega) s).mono ?_
 rintro e W' ⟨z,⟨h1,h2,h3⟩,h4,h5⟩
 have h0 : sg0 t = ⟨lexR t,0,0⟩ := by unfold sg0;rw [if_neg (by omega)]
 have hz : (sgZ (gX 0) t).e = 0 := by
  have hu : up t.length (gX 0) (sg0 t) = ⟨[],0,0⟩ := by
   rw [h0]
   unfold up
   rw [if_pos rfl,hx]
  unfold sgZ
  rw [hu]
  rfl
 have e1 : z.1 = x := h1 (by rw [h0]) x [] (by rw [h0];exact hx)
 refine ⟨(z.2.1,z.2.2),⟨h2,e1 ▸ h3⟩,?_,h5⟩
 rw [h4,e1]
 unfold exR exO exE
 simp only [hz,hc,if_true]
 rfl
theorem exprP_bad {H : Hp} (G : Gl H) {w0 W : World} {bs : List Res} {t : Str} {c o : Nat} (ht : t.length ≤ 9223372036854775807) (hc : (sgZ (gX 0) t).e = c) (ho : (sgZ (gX 0) t).o = o) (h0 : c ≠ 0) (s : St H w0 bs W) :
 Calls Tryz.prog 11 #[strV t] W fun e W' => ∃ z : Hp,HUp w0 H z ∧ e = .returned (.tuple #[.agg ([.int .u8 0,.string ⟨#[]⟩,.int .i64 0,.slice none 0 0] : List Value).toArray,.int .i64 (o : Nat),.int .i64 (c : Nat)]) ∧ St z w0 bs W' := by
 subst hc ho
 refine (exprP_st G t ht s).mono ?_
 rintro e W' ⟨z,⟨h1,h2,h3⟩,h4,h5⟩
 refine ⟨z.2.2,h2,?_,h5⟩
 rw [h4]
 unfold exR exO exE
 simp only [h0,if_false,false_and]
end Go.Proofs.YthhoebdlfjffkaaGreatDoor
namespace Go.Proofs.YthhoebdlfjffkaaGreatDoor
theorem Suf.gex : Suf gEx := Suf.ex 0
theorem Suf.blk {b : Pz (List Sm)} (h : Suf b) : Suf (gBlk b) := .bind (.nd _) fun _ => .bind h fun _ => .bind (.nd _) fun _ => .pure _
theorem Suf.els {b : Pz (List Sm)} (h : Suf b) : Suf (gEls b) := .alt (.blk h) (.pure _)
theorem Suf.oth {b : Pz (List Sm)} (h : Suf b) : Suf (gOth b) := .alt (.blk h) (.bind (.nd _) fun _ => .pure _)
theorem Suf.list {α : Type} {p : Pz α} (h : Suf p) : Suf (gList p) := .bind (.nd _) fun _ => .alt (.pure _) (.bind h fun _ => .bind (.many h) fun _ => .bind (.nd _) fun _ => .pure _)
theorem Suf.st {b : Pz (List Sm)} (h : Suf b) : Suf (gSt b) :=
 .alt (.bind .gex fun _ => .bind (.blk h) fun _ => .bind (.els h) fun _ => .pure _)<|.alt (.bind .gex fun _ => .bind (.blk h) fun _ => .pure _)<|.alt (.bind .gex fun _ => .bind (.nd _) fun _ => .bind .gex fun _ => .bind (.oth h) fun _ => .pure _)<|.alt (.bind .nm fun _ => .bind (.nd _) fun _ => .bind .gex fun _ => .bind (.oth h) fun _ => .pure _)<|.alt (.bind .nm fun _ => .bind (.nd _) fun _ => .bind .nm fun _ => .bind (.list .gex) fun _ => .bind (.nd _) fun _ => .pure _)<|.alt (.bind .gex fun _ => .bind (.nd _) fun _ => .bind .nm fun _ => .bind (.list .gex) fun _ => .bind (.nd _) fun _ => .pure _)<|.alt (.bind (.nd _) fun _ => .pure _)<|.alt (.bind .nm fun _ => .bind (.nd _) fun _ => .bind .gex fun _ => .bind (.nd _) fun _ => .bind (.nd _) fun _ => .pure _)<|.bind .nm fun _ => .alt (.bind .gex fun _ => .bind (.nd _) fun _ => .bind (.nd _) fun _ => .bind .gex fun _ => .bind (.nd _) fun _ => .pure _)
  (.bind (.nd _) fun _ => .bind .gex fun _ => .bind (.nd _) fun _ => .pure _)
theorem Suf.bF : ∀ f,Suf (gBF f)
 | 0 => fun r => ⟨fun a r' e => (by unfold gBF at e;cases e),fun r' c e => (by unfold gBF at e;injection e with e _;subst e;exact List.suffix_refl _)⟩
 | f + 1 => fun r => by
  have h1 := Suf.st (Suf.bF f)
  have h2 := Suf.bF f
  refine ⟨fun a r' e => ?_,fun r' c e => ?_⟩
  ·unfold gBF at e
   split at e
   ·injection e with _ e;subst e;exact List.suffix_refl _
   ·obtain ⟨s,q,k1,k2⟩ := Rs.bind_ok e
    obtain ⟨l,q2,k3,k4⟩ := Rs.bind_ok k2
    injection k4 with _ k4;subst k4
    exact ((h2 _).1 _ _ k3).trans ((h1 _).1 _ _ k1)
  ·unfold gBF at e
   split at e
   ·cases e
   ·rcases Rs.bind_er e with e | ⟨s,q,k1,e⟩
    ·exact (h1 _).2 _ _ e
    ·rcases Rs.bind_er e with e | ⟨l,q2,k3,e⟩
     ·exact ((h2 _).2 _ _ e).trans ((h1 _).1 _ _ k1)
     ·cases e
theorem Suf.b : Suf gB := fun r => Suf.bF _ r
theorem Suf.tr : Suf gTr := .alt (.pure _) (.bind (.nd _) fun _ => .pure _)
theorem Suf.fg : Suf gFg := .bind .nm fun _ => .bind (.nd _) fun _ => .bind .tr fun _ => .bind (.nd _) fun _ => .pure _
theorem Suf.lk : Suf gLk := .bind .nm fun _ => .bind (.nd _) fun _ => .bind .nm fun _ => .bind (.nd _) fun _ => .bind .nu fun _ => .bind (.nd _) fun _ => .pure _
theorem Suf.int : Suf gInt := .alt (.bind .nu fun _ => .pure _) .nu
theorem Suf.vr : Suf gVr := .bind .nm fun _ => .bind (.nd _) fun _ => .alt (.bind (.nd _) fun _ => .bind .int fun _ => .bind (.nd _) fun _ => .pure _)<|.alt (.bind (.nd _) fun _ => .bind .tr fun _ => .bind (.nd _) fun _ => .pure _)<|.bind (.nd _) fun _ => .bind (.nd _) fun _ => .pure _
theorem Suf.hd : Suf gHd := .bind .nm fun _ => .bind (.list .nm) fun _ => .bind (.blk .b) fun _ => .pure _
theorem Suf.vs : Suf gVs := .many .hd
theorem Suf.vn (w : Str) : Suf (gVn w) := .bind (.nn _) fun _ => .bind (.nd _) fun _ => .bind .vs fun _ => .bind (.nd _) fun _ => .pure _
theorem Suf.vm : Suf gVm := .alt (.bind (.vn _) fun _ => .alt (.bind (.vn _) fun _ => .pure _) (.pure _)) (.pure _)
theorem Suf.cp : Suf gCp := .bind .nm fun _ => .bind (.nd _) fun _ => .bind (.many .vr) fun _ => .bind .vs fun _ => .bind .vm fun _ => .bind (.nd _) fun _ => .pure _
theorem Suf.ft : Suf gFt := .bind (.nd _) fun _ => .bind .nm fun _ => .bind (.nd _) fun _ => .bind (.many .fg) fun _ => .bind (.many .lk) fun _ => .bind (.many .cp) fun _ => .bind (.nd _) fun _ => .pure _
end Go.Proofs.YthhoebdlfjffkaaGreatDoor
namespace Go.Proofs.YthhoebdlfjffkaaGreatDoor
open Go.RowKit Go.Par Go.Sx
theorem Fx.call119 : callN Tryz.prog 119 = Bool.true := by kernel_rfl
theorem Fx.field99_3 : fieldN Tryz.prog 99 3 = Option.some 3 := by kernel_rfl
theorem Fx.size4 : sizeN Tryz.prog 4 = Option.some 1 := by kernel_rfl
def ItemC (f : FuncId) {α : Type} (g : Pz α) (d : α → D) (T : TypeId) (size : Nat) (c0 c1 c2 c3 : Value → Value) (b n : Nat) (ts : List Tk) (tp : Option Addr) (tc : Nat) : Prop :=
 ∀ {H : Hp} {w0 W : World} {bs : List Res} {q : Sg} {v : Value} {k : Nat} {xs : List Value},Tkm H ts tp tc → q.r <:+ ts → k ≤ 1000000 → St H w0 (.row T size v k xs :: .box b [.slice tp ts.length tc,.int .i64 (posN ts q : Nat),.int .i64 (n : Nat),c0 v,c1 v,c2 v,c3 v,.int .i64 (q.o : Nat),.int .i64 (q.e : Nat)] 99 :: bs) W →
  Calls Tryz.prog f #[.pointer (some ⟨b,0,none⟩)] W fun e W' => ∃ z : α × Value × List Value × Hp,(vl g q z.1 ∧ HUp w0 H z.2.2.2 ∧ RepZ z.2.2.2 size [d z.1] z.2.2.1) ∧ e = .returned (.tuple #[]) ∧ St z.2.2.2 w0 (.row T size z.2.1 (k + 1) (xs ++ z.2.2.1) :: .box b [.slice tp ts.length tc,.int .i64 (posN ts (up n g q) : Nat),.int .i64 (n : Nat),c0 z.2.1,c1 z.2.1,c2 z.2.1,c3 z.2.1,.int .i64 ((up n g q).o : Nat),.int .i64 ((up n g q).e : Nat)] 99 :: bs) W'
set_option maxRecDepth 100000 in
theorem flag_st {b n : Nat} {ts : List Tk} {tp : Option Addr} {tc : Nat} {t0 t2 t3 : Value} : ItemC 75 gFg dFg 102 2 (fun _ => t0) (fun v => v) (fun _ => t2) (fun _ => t3) b n ts tp tc := by
 intro H w0 W bs q v k xs K hq hk s
 refine Sx.enterS Tryz.func75 rfl Tryz.ntmps75 rfl s ?_
 refine .sr<|.al Fx.zero102 Z fun b2 => .ns<|.m Z Z<|.cs (X := Str) Fx.call74 Z (fun W s => name_st K hq  (s.pickT (hd := [_,_,_]) (tl := bs) (hd' := [_,_,_]) [2,0,1] Z Z)) Z fun nm hnm => .yv (.fieldAddr Z Fx.field102_0) Z<|.st (.tail<|.head) Z Z Fx.size9 Z (nb Z) Z<|.ns<|.m Z Z<|.cs (X := Unit) Fx.call73 Z (fun W s => expect_nd K (Suf.nm.up hq) [61] (by decide +kernel) (s.pickT (hd := [_,_,_]) (tl := bs) (hd' := [_,_,_]) [0,1,2] Z Z)) Z fun _ _ => .ns<|.m Z Z<|.cs (X := Bool) Fx.call119 Z (fun W s => truth_st K ((Suf.nd _).up (Suf.nm.up hq))  (s.pickT (hd := [_,_,_]) (tl := bs) (hd' := [_,_,_]) [0,1,2] Z Z)) Z fun tb htb => .yv (.fieldAddr Z Fx.field102_1) Z<|.st (.tail<|.head) Z Z Fx.size4 Z (nb Z) Z<|.ns<|.m Z Z<|.cs (X := Unit) Fx.call73 Z (fun W s => expect_nd K (Suf.tr.up ((Suf.nd _).up (Suf.nm.up hq))) [59] (by decide +kernel) (s.pickT (hd := [_,_,_]) (tl := bs) (hd' := [_,_,_]) [0,1,2] Z Z)) Z fun _ _ => .nt<|.fl (trip := [(_,_,_),(_,_,_),(_,_,_),(_,_,_),(_,_,_),(_,_,_),(_,_,_),(_,_,_),(_,_,_)]) 9 [(0,0),(1,0),(2,0),(3,0),(4,0),(5,0),(6,0),(7,1),(8,3)] (by kernel_rfl) (by kernel_rfl) Z<|.m Z Z<|.m Z Z<|.yv (.nilCheck Z) Z<|.yv (.fieldAddr Z Fx.field99_3) Z<|.yv (.fieldAddr Z Fx.field49_1) Z<|.yv (.load Z Fx.agg45 (.head _) Z) Z<|.yv (.loadW Z Fx.agg102 (.tail _<|.head _) Z) Z<|.blF Z (Fx.bsl45_1 _ _) Z fun b25 H2 u2 m2 => .apD Fx.row45 Z (fun _ _ => (.tail<|.tail<|.head)) Z (Rep.mk (n := 1) (c := 1) (ds := [dFg ⟨nm,tb⟩]) m2 (.single (fg_shut (x := ⟨nm,tb⟩) hnm.2) Z) Z (Nat.le_refl _) (by decide)) (by simp [maxLen];omega) (by omega) Z (fun _ _ => (.done (by kernel_rfl)<|.done (by kernel_rfl)<|.done (by kernel_rfl)<|.done (by kernel_rfl)<|.done (by kernel_rfl)<|.done (by kernel_rfl)<|.yv (.move Z)<|.nl)) fun xs26 p26 c26 hz26 => .fn (tl := [_,_,_,_]) Z<|.yv (.nilCheck Z) Z<|.yv (.fieldAddr Z Fx.field99_3) Z<|.yv (.fieldAddr Z Fx.field49_1) Z<|.st .head Z Z Fx.size45 Z (nb Z) Z<|.nl<|?_
 refine Sx.retN (.inr rfl) rfl .nil rfl fun W s => ⟨(⟨nm,tb⟩,.slice p26 (k + 1) c26,xs26,H2),⟨vl_bind (n := n) hnm.1 (vl_bind (n := n) (x := ()) vl_unit (vl_bind (n := n) htb (vl_bind (n := n) (x := ()) vl_unit vl_pure))),u2,hz26⟩,rfl,?_⟩
 rw [show up n gFg q = (up n (gNd [59]) (up n gTr (up n (gNd [61]) (up n gNm q)))) by unfold gFg;rw [up_bind Cz.nm hnm.1,up_bind (x := ()) (Cz.nd _) vl_unit,up_bind Cz.tr htb,up_bind (x := ()) (Cz.nd _) vl_unit,up_pure]]
 exact s.pickT (hd := [_,_,_]) (tl := bs) (hd' := [_,_]) [2,0] rfl rfl
set_option maxRecDepth 100000 in
theorem link_st {b n : Nat} {ts : List Tk} {tp : Option Addr} {tc : Nat} {t0 t1 t3 : Value} : ItemC 76 gLk dLk 105 3 (fun _ => t0) (fun _ => t1) (fun v => v) (fun _ => t3) b n ts tp tc := by
 intro H w0 W bs q v k xs K hq hk s
 refine Sx.enterS Tryz.func76 rfl Tryz.ntmps76 rfl s ?_
 refine .sr<|.al Fx.zero105 Z fun b2 => .ns<|.m Z Z<|.cs (X := Str) Fx.call74 Z (fun W s => name_st K hq  (s.pickT (hd := [_,_,_]) (tl := bs) (hd' := [_,_,_]) [2,0,1] Z Z)) Z fun mx hmx => .yv (.fieldAddr Z Fx.field105_0) Z<|.st (.tail<|.head) Z Z Fx.size9 Z (nb Z) Z<|.ns<|.m Z Z<|.cs (X := Unit) Fx.call73 Z (fun W s => expect_nd K (Suf.nm.up hq) [45,62] (by decide +kernel) (s.pickT (hd := [_,_,_]) (tl := bs) (hd' := [_,_,_]) [0,1,2] Z Z)) Z fun _ _ => .ns<|.m Z Z<|.cs (X := Str) Fx.call74 Z (fun W s => name_st K ((Suf.nd _).up (Suf.nm.up hq))  (s.pickT (hd := [_,_,_]) (tl := bs) (hd' := [_,_,_]) [0,1,2] Z Z)) Z fun my hmy => .yv (.fieldAddr Z Fx.field105_1) Z<|.st (.tail<|.head) Z Z Fx.size9 Z (nb Z) Z<|.ns<|.m Z Z<|.cs (X := Unit) Fx.call73 Z (fun W s => expect_nd K (Suf.nm.up ((Suf.nd _).up (Suf.nm.up hq))) [108,97,116,101,110,99,121] (by decide +kernel) (s.pickT (hd := [_,_,_]) (tl := bs) (hd' := [_,_,_]) [0,1,2] Z Z)) Z fun _ _ => .ns<|.m Z Z<|.cs (X := Int64) Fx.call120 Z (fun W s => number_st K ((Suf.nd _).up (Suf.nm.up ((Suf.nd _).up (Suf.nm.up hq))))  (s.pickT (hd := [_,_,_]) (tl := bs) (hd' := [_,_,_]) [0,1,2] Z Z)) Z fun nu hnu => .yv (.fieldAddr Z Fx.field105_2) Z<|.st (.tail<|.head) Z Z Fx.size3 Z (nb Z) Z<|.ns<|.m Z Z<|.cs (X := Unit) Fx.call73 Z (fun W s => expect_nd K (Suf.nu.up ((Suf.nd _).up (Suf.nm.up ((Suf.nd _).up (Suf.nm.up hq))))) [59] (by decide +kernel) (s.pickT (hd := [_,_,_]) (tl := bs) (hd' := [_,_,_]) [0,1,2] Z Z)) Z fun _ _ => .nt<|.fl (trip := [(_,_,_),(_,_,_),(_,_,_),(_,_,_),(_,_,_),(_,_,_),(_,_,_),(_,_,_),(_,_,_)]) 9 [(0,0),(1,0),(2,0),(3,0),(4,0),(5,0),(6,0),(7,1),(8,3)] (by kernel_rfl) (by kernel_rfl) Z<|.m Z Z<|.m Z Z<|.yv (.nilCheck Z) Z<|.yv (.fieldAddr Z Fx.field99_3) Z<|.yv (.fieldAddr Z Fx.field49_2) Z<|.yv (.load Z Fx.agg46 (.head _) Z) Z<|.yv (.loadW Z Fx.agg105 (.tail _<|.head _) Z) Z<|.blF Z (Fx.bsl46_1 _ _ _) Z fun b25 H2 u2 m2 => .apD Fx.row46 Z (fun _ _ => (.tail<|.tail<|.head)) Z (Rep.mk (n := 1) (c := 1) (ds := [dLk ⟨mx,my,nu⟩]) m2 (.single (lk_shut (x := ⟨mx,my,nu⟩) hmx.2 hmy.2) Z) Z (Nat.le_refl _) (by decide)) (by simp [maxLen];omega) (by omega) Z (fun _ _ => (.done (by kernel_rfl)<|.done (by kernel_rfl)<|.done (by kernel_rfl)<|.done (by kernel_rfl)<|.done (by kernel_rfl)<|.done (by kernel_rfl)<|.yv (.move Z)<|.nl)) fun xs26 p26 c26 hz26 => .fn (tl := [_,_,_,_]) Z<|.yv (.nilCheck Z) Z<|.yv (.fieldAddr Z Fx.field99_3) Z<|.yv (.fieldAddr Z Fx.field49_2) Z<|.st .head Z Z Fx.size46 Z (nb Z) Z<|.nl<|?_
 refine Sx.retN (.inr rfl) rfl .nil rfl fun W s => ⟨(⟨mx,my,nu⟩,.slice p26 (k + 1) c26,xs26,H2),⟨vl_bind (n := n) hmx.1 (vl_bind (n := n) (x := ()) vl_unit (vl_bind (n := n) hmy.1 (vl_bind (n := n) (x := ()) vl_unit (vl_bind (n := n) hnu (vl_bind (n := n) (x := ()) vl_unit vl_pure))))),u2,hz26⟩,rfl,?_⟩
 rw [show up n gLk q = (up n (gNd [59]) (up n gNu (up n (gNd [108,97,116,101,110,99,121]) (up n gNm (up n (gNd [45,62]) (up n gNm q)))))) by unfold gLk;rw [up_bind Cz.nm hmx.1,up_bind (x := ()) (Cz.nd _) vl_unit,up_bind Cz.nm hmy.1,up_bind (x := ()) (Cz.nd _) vl_unit,up_bind Cz.nu hnu,up_bind (x := ()) (Cz.nd _) vl_unit,up_pure]]
 exact s.pickT (hd := [_,_,_]) (tl := bs) (hd' := [_,_]) [2,0] rfl rfl
structure MnI {α : Type} (n : Nat) (w : Str) (g : Pz α) (q : Sg) (l : List α) (q1 : Sg) : Prop where
 eq : up n (gMany w g) q1 = up n (gMany w g) q
 val : ∀ l',vl (gMany w g) q1 l' → vl (gMany w g) q (l ++ l')
 len : l.length + q1.mu ≤ q.mu
 er : q1.e = 0 → q.e = 0
theorem MnI.start {α : Type} {n : Nat} {w : Str} {g : Pz α} {q : Sg} : MnI n w g q [] q := ⟨rfl,fun _ h => h,by simp,id⟩
theorem MnI.step {α : Type} {n : Nat} {w : Str} {g : Pz α} {q q1 : Sg} {l : List α} {a : α} (h : MnI n w g q l q1) (hs : Shr g) (hz : Cz g) (hac : ac w q1 = true) (hv : vl g q1.tl a) : MnI n w g q (l ++ [a]) (up n g q1.tl) ∧ (up n g q1.tl).mu < q1.mu := by
 have h1 := mu_up (n := n) (s := q1.tl) hs hz
 have h2 := mu_tl hac
 refine ⟨⟨?_,fun l' hl' => ?_,by have := h.len;simp;omega,fun _ => h.er (ac_e hac).1⟩,by omega⟩
 ·rw [← h.eq,many_T (n := n) hs hz hac hv]
 ·rw [List.append_assoc]
  exact h.val _ (many_Tv (n := n) hs hac hv hl')
theorem MnI.stop {α : Type} {n : Nat} {w : Str} {g : Pz α} {q q1 : Sg} {l : List α} (h : MnI n w g q l q1) (hs : Shr g) (hac : ac w q1 = false) : up n (gMany w g) q = q1 ∧ vl (gMany w g) q l := by
 refine ⟨by rw [← h.eq,many_F hs hac],?_⟩
 have := h.val [] (many_Fv hs hac)
 rwa [List.append_nil] at this
set_option maxRecDepth 100000 in
theorem many_st {α : Type} {H : Hp} {w0 W : World} {bs : List Res} {b n : Nat} {ts : List Tk} {tp : Option Addr} {tc : Nat} {q : Sg} {c0 c1 c2 c3 : Value → Value} (K : Tkm H ts tp tc) (hq : q.r <:+ ts) (hmu : q.mu ≤ 1000000)
 (f : FuncId) (hcall : callN Tryz.prog f = true) (w : Str) (hw : w ∈ words ∨ w ∈ symbols) (g : Pz α) (d : α → D) (T : TypeId) (size : Nat) (hsh : Shr g) (hcz : Cz g) (hsu : Suf g) (hit : q.e = 0 → ItemC f g d T size c0 c1 c2 c3 b n ts tp tc) (bm : Nat) (hm : MemAt H bm 0 [.pointer (some ⟨b,0,none⟩)]) (v : Value)
 (s : St H w0 (.row T size v 0 [] :: .box b [.slice tp ts.length tc,.int .i64 (posN ts q : Nat),.int .i64 (n : Nat),c0 v,c1 v,c2 v,c3 v,.int .i64 (q.o : Nat),.int .i64 (q.e : Nat)] 99 :: bs) W) :
 Calls Tryz.prog 71 #[strV w,.func (.func f) #[.pointer (some ⟨b,0,none⟩)] #[],.pointer (some ⟨bm,0,none⟩)] W fun e W' => ∃ z : List α × Value × List Value × Hp,(vl (gMany w g) q z.1 ∧ HUp w0 H z.2.2.2 ∧ RepZ z.2.2.2 size (z.1.map d) z.2.2.1 ∧ z.1.length ≤ q.mu) ∧ e = .returned (.tuple #[]) ∧ St z.2.2.2 w0 (.row T size z.2.1 z.1.length z.2.2.1 :: .box b [.slice tp ts.length tc,.int .i64 (posN ts (up n (gMany w g) q) : Nat),.int .i64 (n : Nat),c0 z.2.1,c1 z.2.1,c2 z.2.1,c3 z.2.1,.int .i64 ((up n (gMany w g) q).o : Nat),.int .i64 ((up n (gMany w g) q).e : Nat)] 99 :: bs) W' := by
 refine Sx.enterS Tryz.func71 rfl Tryz.ntmps71 rfl s ?_
 refine .bk<|.lp (X := List α × Value × List Value × Hp × Sg) [(0,_),(1,_),(2,_)] ⟨rfl,rfl,rfl,trivial⟩ (bs) (fun z => []) (fun z => z.2.2.2.1) (fun z => [.row T size z.2.1 z.1.length z.2.2.1,.box b [.slice tp ts.length tc,.int .i64 (posN ts z.2.2.2.2 : Nat),.int .i64 (n : Nat),c0 z.2.1,c1 z.2.1,c2 z.2.1,c3 z.2.1,.int .i64 (z.2.2.2.2.o : Nat),.int .i64 (z.2.2.2.2.e : Nat)] 99]) (fun z => MnI n w g q z.1 z.2.2.2.2 ∧ HUp w0 H z.2.2.2.1 ∧ RepZ z.2.2.2.1 size (z.1.map d) z.2.2.1 ∧ z.2.2.2.2.r <:+ ts) (fun z => z.2.2.2.2.mu) ([],v,[],H,q) (fun _ s => s) trivial ⟨MnI.start,.refl,RepZ.nil,hq⟩ fun z hC => ?_
 obtain ⟨l,v1,xs1,H1,q1⟩ := z
 obtain ⟨hI,u1,hz1,hq1⟩ := hC
 dsimp only at hI u1 hz1 hq1 ⊢
 have K1 := K.up u1.up
 have hk1 : l.length ≤ 1000000 := by have := hI.len;omega
 refine .sq<|.sr<|.yv (.loadM Z Fx.agg65 (hm.up u1.up) (k := 0) Z Z) Z<|.m Z Z<|.cs (X := Unit) Fx.call72 Z (fun W s => accept_ac K1 hq1 w hw (s.pickT (hd := [_,_]) (tl := bs) (hd' := [_,_]) [1,0] Z Z)) Z fun _ _ => .nt<|.cd Z (fun h7 => ?_) (fun h7 => ?_)
 ·rw [acS_T h7]
  refine .sk<|.tN<|.bk<|.rg<|.m Z Z<|.sv (X := α × Value × List Value × Hp) (fi := [.pointer (some ⟨b,0,none⟩)]) (ca := []) Z hcall Z (fun W s => hit (hI.er (ac_e h7).1) K1 (Suf.tl hq1) hk1 (s.pickT (hd := [_,_]) (tl := bs) (hd' := [_,_]) [1,0] Z Z)) Z fun z2 hz2 => ?_
  obtain ⟨a2,v2,xs2,H2⟩ := z2
  obtain ⟨hv2,u2,hz2⟩ := hz2
  dsimp only at hv2 u2 hz2 ⊢
  exact .nl<|.bN<|.tN<|.ag (x := (l,v1,xs1,H1,q1)) (l ++ [a2],v2,xs1 ++ xs2,H2,up n g q1.tl) trivial ⟨rfl,rfl,rfl,trivial⟩ (fun _ s => by have s2 := s;simpa using s2) ⟨(hI.step hsh hcz h7 hv2).1,u1.trans u2,by dsimp only;rw [List.map_append];exact (hz1.up u2.up).app hz2,hsu.up (Suf.tl hq1)⟩ (hI.step hsh hcz h7 hv2).2
 rw [acS_F h7]
 obtain ⟨e1,hv⟩ := hI.stop hsh h7
 rw [e1]
 refine .ex<|.tE<|.tE<|.bE<|?_
 refine Sx.retN (.inr rfl) rfl .nil rfl fun W s => ⟨(l,v1,xs1,H1),⟨hv,u1,hz1,Nat.le_trans (Nat.le_add_right _ _) hI.len⟩,rfl,?_⟩
 exact s.pickT (hd := [_,_]) (tl := bs) (hd' := [_,_]) [1,0] rfl rfl
set_option maxRecDepth 100000 in
theorem args_r {H : Hp} {w0 W : World} {bs : List Res} {b n : Nat} {t : Str} {ts : List Tk} {tp : Option Addr} {tc : Nat} {q : Sg} (K : Tkr H t n ts tp tc) (hq : q.r <:+ ts) (hmu : q.mu ≤ 700000) (s : St H w0 (.box b [strV t,.slice tp ts.length tc,.int .i64 (posN ts q : Nat),.int .i64 (q.o : Nat),.int .i64 (q.e : Nat)] 75 :: bs) W) :
 Calls Tryz.prog 183 #[.pointer (some ⟨b,0,none⟩)] W fun e W' => ∃ z : List Ex × Value × Hp,(vl (gList (gX 0)) q z.1 ∧ HUp w0 H z.2.2 ∧ Rep z.2.2 (.seq 4 (z.1.map (dEx .i64))) [z.2.1] ∧ z.1.length ≤ q.mu + 1) ∧ e = .returned (z.2.1) ∧ St z.2.2 w0 (.box b [strV t,.slice tp ts.length tc,.int .i64 (posN ts (up n (gList (gX 0)) q) : Nat),.int .i64 ((up n (gList (gX 0)) q).o : Nat),.int .i64 ((up n (gList (gX 0)) q).e : Nat)] 75 :: bs) W' := by
 refine Sx.enterS Tryz.func183 rfl Tryz.ntmps183 rfl s ?_
 refine .sr<|.a Z Z<|.ns<|.a Z Z<|?_
 refine Sx.row0 33 4 ?_
 refine .ns<|.m Z Z<|.cs (X := Unit) Fx.call96 Z (fun W s => need_r K hq [40] (s.pickT (hd := [_,_]) (tl := bs) (hd' := [_,_]) [1,0] Z Z)) Z fun _ _ => .nt<|.sq<|.sr<|.m Z Z<|.cs (X := Unit) Fx.call95 Z (fun W s => is_r K ((Suf.nd _).up hq) [41] (s.pickT (hd := [_,_]) (tl := bs) (hd' := [_,_]) [0,1] Z Z)) Z fun _ _ => .yv (.not Z) Z<|.nt<|.cd Z (fun h8 => ?_) (fun h8 => ?_)
 ·have hc : ac [41] (up n (gNd [40]) q) = false := by simpa using h8
  refine .sr<|.m Z Z<|.m Z Z<|.cs (X := Ex × List Value × Hp) Fx.call26 Z (fun W s => rexpr_all K ((Suf.nd _).up hq) (s.pickT (hd := [_,_]) (tl := bs) (hd' := [_,_]) [0,1] Z Z)) Z fun z11 hz11 => ?_
  obtain ⟨a11,c11,H11⟩ := z11
  obtain ⟨hv11,u11,r11⟩ := hz11
  dsimp only at hv11 u11 r11 ⊢
  obtain ⟨x1,x2,x3,x4,rfl⟩ := four (ex_len r11)
  have K11 := K.up u11.up
  refine .bl Z (Fx.bsl31_1 _ _ _ _) Z fun b12 => ?_
  refine Sx.freezeBox fun H12 u12 m12 => ?_
  refine .apD Fx.row31 Z (fun _ _ => (.tail<|.head)) Z (Rep.mk (n := 1) (c := 1) (ds := [dEx .i64 a11]) m12 (.single (r11.up u12.up) Z) Z (Nat.le_refl _) (by decide)) (by simp only [maxLen];omega) (by omega) Z fun xs13 r13 hz13 => .a Z Z<|.nt<|.bk<|.lp (X := List Ex × Value × List Value × Hp × Sg) [(0,_)] ⟨rfl,trivial⟩ bs (fun y => [(3,y.2.1)]) (fun y => y.2.2.2.1) (fun y => [.row 33 4 y.2.1 (y.1.length + 1) y.2.2.1,.box b [strV t,.slice tp ts.length tc,.int .i64 (posN ts y.2.2.2.2 : Nat),.int .i64 (y.2.2.2.2.o : Nat),.int .i64 (y.2.2.2.2.e : Nat)] 75]) (fun y => MnI n [44] (gX 0) (up n (gX 0) (up n (gNd [40]) q)) y.1 y.2.2.2.2 ∧ HUp w0 H y.2.2.2.1 ∧ RepZ y.2.2.2.1 4 ((a11 :: y.1).map (dEx .i64)) y.2.2.1 ∧ y.2.2.2.2.r <:+ ts) (fun y => y.2.2.2.2.mu) ([],r13,[] ++ xs13,H12,up n (gX 0) (up n (gNd [40]) q)) (fun _ s => (s.pickT (hd := [_,_]) (tl := bs) (hd' := [_,_]) [1,0] Z Z)) ⟨rfl,trivial⟩ ⟨MnI.start,u11.trans u12,hz13,(Suf.ex 0).up ((Suf.nd _).up hq)⟩ fun y hC => ?_
  obtain ⟨l,v,xs,H2,q2⟩ := y
  obtain ⟨hI,u2,hz2,hq2⟩ := hC
  dsimp only at hI u2 hz2 hq2 ⊢
  have K2 := K.up u2.up
  have hlen := hI.len
  have hm1 := mu_up (n := n) (s := (up n (gNd [40]) q)) (Shs.gx 0).le (Cz.ex 0)
  have hm2 := mu_up (n := n) (s := q) (Shs.nd [40]).le (Cz.nd [40])
  refine .sq<|.sr<|.m Z Z<|.cs (X := Unit) Fx.call54 Z (fun W s => take_r K2 hq2 [44] (s.pickT (hd := [_,_]) (tl := bs) (hd' := [_,_]) [1,0] Z Z)) Z fun _ _ => .nt<|.cd Z (fun h15 => ?_) (fun h15 => ?_)
  ·rw [acS_T h15]
   refine .sk<|.tN<|.bk<|.rg<|.m Z Z<|.m Z Z<|.cs (X := Ex × List Value × Hp) Fx.call26 Z (fun W s => rexpr_all K2 (Suf.tl hq2) (s.pickT (hd := [_,_]) (tl := bs) (hd' := [_,_]) [0,1] Z Z)) Z fun z18 hz18 => ?_
   obtain ⟨a18,c18,H18⟩ := z18
   obtain ⟨hv18,u18,r18⟩ := hz18
   dsimp only at hv18 u18 r18 ⊢
   obtain ⟨x1,x2,x3,x4,rfl⟩ := four (ex_len r18)
   have K18 := K2.up u18.up
   refine .bl Z (Fx.bsl31_1 _ _ _ _) Z fun b19 => ?_
   refine Sx.freezeBox fun H19 u19 m19 => ?_
   exact .apD Fx.row31 Z (fun _ _ => (.tail<|.head)) Z (Rep.mk (n := 1) (c := 1) (ds := [dEx .i64 a18]) m19 (.single (r18.up u19.up) Z) Z (Nat.le_refl _) (by decide)) (by simp only [maxLen];omega) (by omega) Z fun xs20 r20 hz20 => .a Z Z<|.nl<|.bN<|.tN<|.ag (x := (l,v,xs,H2,q2)) (l ++ [a18],r20,xs ++ xs20,H19,up n (gX 0) q2.tl) ⟨rfl,trivial⟩ ⟨rfl,trivial⟩ (fun _ s => by have s2 := (s.pickT (hd := [_,_]) (tl := bs) (hd' := [_,_]) [1,0] Z Z);simpa using s2) ⟨(hI.step (Shs.gx 0).le (Cz.ex 0) h15 hv18).1,u2.trans (u18.trans u19),by dsimp only;rw [← List.cons_append,List.map_append];exact (hz2.up (u18.trans u19).up).app hz20,(Suf.ex 0).up (Suf.tl hq2)⟩ (hI.step (Shs.gx 0).le (Cz.ex 0) h15 hv18).2
  rw [acS_F h15]
  obtain ⟨eS,hvS⟩ := hI.stop (Shs.gx 0).le h15
  refine .ex<|.tE<|.tE<|.bE<|.tN<|.sr<|.m Z Z<|.cs (X := Unit) Fx.call96 Z (fun W s => need_r K2 hq2 [41] (s.pickT (hd := [_,_]) (tl := bs) (hd' := [_,_]) [0,1] Z Z)) Z fun _ _ => .ns<|.m Z Z<|.a Z Z<|.nt<|.rt<|?_
  refine Sx.reSt (fun W s => s.pickT (hd := [_,_]) (tl := bs) (hd' := [_,_]) [1,0] rfl rfl) ?_
  refine Sx.freezeSeq (ds := (a11 :: l).map (dEx .i64)) (by simp) hz2 fun H4 p4 c4 u4 e4 h4 => ?_
  exact Sx.ret1 (.inl rfl) rfl (.tmp rfl) fun W s => ⟨(a11 :: l,v,H4),⟨(by unfold gList;exact vl_bind (n := n) (x := ()) vl_unit (vl_altF hc (vl_bind (n := n) hv11 (vl_bind (n := n) hvS (vl_bind (n := n) (x := ()) vl_unit vl_pure))))),u2.trans u4,h4,(by show l.length + 1 ≤ _;omega)⟩,rfl,by rw [show up n (gList (gX 0)) q = up n (gNd [41]) q2 by unfold gList;rw [up_bind (x := ()) (Cz.nd _) vl_unit,up_altF hc,up_bind (Cz.ex _) hv11,up_bind (.many (Cz.ex _)) hvS,eS,up_bind (x := ()) (Cz.nd _) vl_unit,up_pure]];exact s⟩
 have hc : ac [41] (up n (gNd [40]) q) = true := by simpa using h8
 refine .sk<|.tN<|.sr<|.m Z Z<|.cs (X := Unit) Fx.call96 Z (fun W s => need_r K ((Suf.nd _).up hq) [41] (s.pickT (hd := [_,_]) (tl := bs) (hd' := [_,_]) [0,1] Z Z)) Z fun _ _ => .ns<|.m Z Z<|.a Z Z<|.nt<|.rt<|?_
 refine Sx.reSt (fun W s => s.pickT (hd := [_,_]) (tl := bs) (hd' := [_,_]) [1,0] rfl rfl) ?_
 refine Sx.freezeSeq (ds := []) rfl RepZ.nil fun H4 p4 c4 u4 e4 h4 => ?_
 exact Sx.ret1 (.inl rfl) rfl (.tmp rfl) fun W s => ⟨([],_,H4),⟨(by unfold gList;exact vl_bind (n := n) (x := ()) vl_unit (vl_altT hc vl_pure)),u4,h4,(by show (0 : Nat) ≤ _;omega)⟩,rfl,by rw [show up n (gList (gX 0)) q = up n (gNd [41]) (up n (gNd [40]) q) by unfold gList;rw [up_bind (x := ()) (Cz.nd _) vl_unit,up_altT hc,up_pure,up_ndT hc]];exact s⟩
end Go.Proofs.YthhoebdlfjffkaaGreatDoor
namespace Go.Sx
open Go.RowKit Go.Par
theorem St.put1 {H : Hp} {w0 W : World} {bs bs' : List Res} {x y : Res} (h : St H w0 bs W) (u : Upd bs x y bs') (hy : y.ok w0.heap.size W) (hb : ∀ b,y.blk = some b → x.blk = some b) : St H w0 bs' W :=
 h.upd u h.ext (Nat.le_refl _) (fun _ _ _ => rfl) hy (fun b e => .inl (hb b e))
/-! ### A drawn region without an operation that waits for all others: each order of the heavy ones -/
structure FitE (ops : Array Oper) (n : Nat) : Prop where
 all : n = ops.size
 sel : ∀ (j : Nat) (o : Oper) (cs : Array SelectCase) (b : Bool),ops[j]? = some o → o.op ≠ .select cs b
 back : ∀ i o,ops[i]? = some o → ∀ e ∈ o.after,Region.binds .any e = true → e.on < i
 apart : ∀ j k,j < n → k < n → j ≠ k → ∀ d,dstOf ops j = some d → dstOf ops k ≠ some d
 look : ∀ i o,i < n → ops[i]? = some o → ∀ t ∈ o.looksAt ops,∀ j,j < n → dstOf ops j = some t → Region.waitsFor .any ops i j = true
def parE (ops : Array Oper) (n : Nat) : Bool :=
 Region.noSelect ops && decide (n = ops.size) &&
 (List.range ops.size).all (fun i => ((ops[i]?).map fun o => o.after.all fun e => !Region.binds .any e || decide (e.on < i)).getD true) &&
 (List.range n).all (fun i => (List.range n).all fun j => decide (i = j) || (dstOf ops i).isNone || dstOf ops i != dstOf ops j) &&
 (List.range n).all (fun i => ((ops[i]?).map fun o => (o.looksAt ops).all fun t => (List.range n).all fun j => dstOf ops j != some t || Region.waitsFor .any ops i j).getD true)
theorem FitE.of {ops : Array Oper} {n : Nat} (h : parE ops n = true) : FitE ops n := by
 simp only [parE,Bool.and_eq_true,decide_eq_true_eq] at h
 obtain ⟨⟨⟨⟨h1,h2⟩,h5⟩,h6⟩,h7⟩ := h
 refine ⟨h2,Region.noSelect_spec h1,?_,?_,?_⟩
 ·intro i o ho e he hb
  have hi : i < ops.size := (Array.getElem?_eq_some_iff.1 ho).1
  have := List.all_eq_true.1 h5 i (List.mem_range.2 hi)
  simp only [ho,Option.map_some,Option.getD_some,Array.all_eq_true_iff_forall_mem] at this
  have := this e he
  simpa [hb] using this
 ·intro j k hj hk hne d hd
  have := List.all_eq_true.1 (List.all_eq_true.1 h6 j (List.mem_range.2 hj)) k (List.mem_range.2 hk)
  simp only [hd,hne,decide_false,Bool.false_or,Option.isNone_some,bne_iff_ne] at this
  exact fun e => this e.symm
 ·intro i o hi ho t ht j hj hd
  have := List.all_eq_true.1 h7 i (List.mem_range.2 hi)
  simp only [ho,Option.map_some,Option.getD_some] at this
  have := List.all_eq_true.1 (List.all_eq_true.1 this t ht) j (List.mem_range.2 hj)
  simpa [hd] using this
section
variable {dfs : List Deferred} {P : Program} {ops : Array Oper} {w0 : World} {n N : Nat}
variable {l : List Oper} {a0 : Act} {E : Sl → Hp → List Res → Prop} {Q : Exit → Act → World → Prop} {listed : Array Bool} {a : Act} {W : World} {val : Nat → Value} {dec : Nat → Bool} {D A : List Nat} {L : Sl} {H : Hp} {bs : List Res} {pa : List (Nat × Oper × Value)}
theorem eval_sameE (F : FitE ops n) {a0 : Act} {v1 v2 : Nat → Value} {S1 S2 : Nat → Bool} {i : Nat} {o : Oper} (hi : i < n) (ho : ops[i]? = some o)
 (h : ∀ j,j < n → Region.waitsFor .any ops i j = true → S1 j = true ∧ S2 j = true ∧ v1 j = v2 j) (t : Tmp) (ht : t ∈ o.looksAt ops) :
 (frm ops v1 S1 n a0).eval (.tmp t) = (frm ops v2 S2 n a0).eval (.tmp t) := by
 by_cases hw : ∃ j,j < n ∧ dstOf ops j = some t
 ·obtain ⟨j,hj,hd⟩ := hw
  obtain ⟨h1,h2,h3⟩ := h j hj (F.look i o hi ho t ht j hj hd)
  rw [frm_in _ S1 a0 t j h1 hd n hj (fun k hk hne e => F.apart k j hk hj hne t e hd),frm_in _ S2 a0 t j h2 hd n hj (fun k hk hne e => F.apart k j hk hj hne t e hd),h3]
 ·rw [frm_out _ S1 a0 t n (fun k hk _ hd => hw ⟨k,hk,hd⟩),frm_out _ S2 a0 t n (fun k hk _ hd => hw ⟨k,hk,hd⟩)]
theorem frm_putE (F : FitE ops n) {i : Nat} {o : Oper} {v : Value} (hi : i < n) (ho : ops[i]? = some o) (hd : dec i = false) :
 frm ops (upd val i v) (upd dec i true) n a0 = (frm ops val dec n a0).put o.dst v := by
 have e1 : dstOf ops i = o.dst := by simp [dstOf,ho]
 rw [frm_more (upd val i v) dec (upd dec i true) a0 i (upd_same _ _ _) hd (fun k hk => upd_ne _ _ hk) n hi F.apart,upd_same,e1]
 congr 1
 refine frm_congr _ _ _ _ a0 n fun k _ => ⟨rfl,fun hk => upd_ne _ _ fun e => ?_⟩
 subst e;rw [hd] at hk;cases hk
theorem GT.decideE (F : FitE ops n) {i : Nat} {o : Oper} (I : GT dfs P ops l w0 n N a0 E listed a W val dec D L H bs pa) (hi : i < n) (ho : ops[i]? = some o) (hiD : D.contains i = false) (hwt : ((List.range n).all fun j => !Region.waitsFor .any ops i j || D.contains j) = true)
 {v : Value} (hy : ∀ a W,Fr dfs N L a → St H w0 bs W → Yq P ops o v a W) (hN : ∀ t,o.dst = some t → t < N) :
 GT dfs P ops l w0 n N a0 E listed a W (upd val i v) (upd dec i true) (i :: D) (putL o.dst v L) H bs ((i,o,v) :: pa) := by
 have hdi : dec i = false := (I.set i).trans hiD
 have hdeps : ∀ j,j < n → Region.waitsFor .any ops i j = true → dec j = true := fun j hj hw => (I.set j).trans (waits_ok hwt hj hw)
 have hii : ∀ j,j < n → Region.waitsFor .any ops i j = true → j ≠ i := fun j hj hw e => by
  have := hdeps j hj hw
  rw [e,hdi] at this;cases this
 have hli : st listed i = false := by
  cases h : st listed i with
  | false => rfl
  | true => have := I.sub i hi h;rw [hdi] at this;cases this
 have hput := frm_putE (a0 := a0) (val := val) (v := v) F hi ho hdi
 refine ⟨I.head,?_,?_,?_,I.world,?_,?_,upd_set I.set,?_⟩
 ·rw [I.frame]
  refine frm_congr _ _ _ _ a0 n fun k _ => ⟨rfl,fun hk => (upd_ne _ _ fun e => ?_).symm⟩
  subst e;rw [hli] at hk;cases hk
 ·rw [hput];exact I.full.putL v hN
 ·intro j hj hs
  by_cases e : j = i
  ·subst e;exact upd_same _ _ _
  ·rw [upd_ne _ _ e];exact I.sub j hj hs
 ·intro j oj hj hoj hd hs W hW
  by_cases e : j = i
  ·subst e
   obtain rfl : oj = o := Option.some.inj (hoj.symm.trans ho)
   rw [upd_same]
   refine Yq.same (fun cs b => F.sel j oj cs b ho) (fun t ht => ?_) (hy _ W I.full hW)
   refine eval_sameE F hj ho (fun k hk hw => ?_) t ht
   have hkd := hdeps k hk hw
   have hki := hii k hk hw
   exact ⟨by rw [upd_ne _ _ hki];exact hkd,hkd,upd_ne _ _ hki⟩
  ·rw [upd_ne _ _ e] at hd ⊢
   refine Yq.same (fun cs b => F.sel j oj cs b hoj) (fun t ht => ?_) (I.light j oj hj hoj hd hs W hW)
   refine eval_sameE F hj hoj (fun k hk hw => ?_) t ht
   have hkd := I.deps j k hj hk hd hw
   have hki : k ≠ i := fun e => by subst e;rw [hdi] at hkd;cases hkd
   exact ⟨by rw [upd_ne _ _ hki];exact hkd,hkd,upd_ne _ _ hki⟩
 ·intro j oj hj hoj hd hs
  by_cases e : j = i
  ·subst e
   obtain rfl : oj = o := Option.some.inj (hoj.symm.trans ho)
   rw [upd_same];exact .head _
  ·rw [upd_ne _ _ e] at hd ⊢
   exact .tail _ (I.past j oj hj hoj hd hs)
 ·intro j k hj hk hd hw
  by_cases e : j = i
  ·subst e
   rw [upd_ne _ _ (hii k hk hw)];exact hdeps k hk hw
  ·rw [upd_ne _ _ e] at hd
   have := I.deps j k hj hk hd hw
   by_cases e2 : k = i
   ·subst e2;exact upd_same _ _ _
   ·rw [upd_ne _ _ e2];exact this
theorem GT.stepE (F : FitE ops n) {i : Nat} {o : Oper} {W' : World} (I : GT dfs P ops l w0 n N a0 E listed a W val dec D L H bs pa) (hi : i < n) (ho : ops[i]? = some o) (hr : i ∈ Region.ready .any ops listed) (hd : dec i = true) (hx : Ext W W') :
 GT dfs P ops l w0 n N a0 E (listed.setIfInBounds i true) (a.put o.dst (val i)) W' val dec D L H bs pa := by
 have hun : st listed i = false := (mem_ready.1 hr).1
 have e1 : dstOf ops i = o.dst := by simp [dstOf,ho]
 refine ⟨I.head.set hr hi,?_,I.full,?_,I.world.more hx,?_,?_,I.set,I.deps⟩
 ·rw [I.frame,frm_more val (st listed) (st (listed.setIfInBounds i true)) a0 i st_set_same hun (fun k hk => st_set hk) n hi F.apart,e1]
 ·intro j hj hs
  by_cases e : j = i
  ·subst e;exact hd
  ·rw [st_set e] at hs;exact I.sub j hj hs
 ·intro j oj hj hoj hdj hs
  have e : j ≠ i := fun e => by subst e;rw [st_set_same] at hs;cases hs
  rw [st_set e] at hs
  exact I.light j oj hj hoj hdj hs
 ·intro j oj hj hoj hdj hs
  have e : j ≠ i := fun e => by subst e;rw [st_set_same] at hs;cases hs
  rw [st_set e] at hs
  exact I.past j oj hj hoj hdj hs
theorem GT.heavyE (F : FitE ops n) {i k : Nat} {o : Oper} {v : Value} {W' : World} {H' : Hp} {bs' : List Res} (I : GT dfs P ops l w0 n N a0 E listed a W val dec D L H bs pa) (hi : i < n) (ho : ops[i]? = some o) (hiD : D.contains i = false) (hwt : ((List.range n).all fun j => !Region.waitsFor .any ops i j || D.contains j) = true) (hk1 : (!(k == 1) || D.all fun j => reach ops n i j) = true) (hN : ∀ t,o.dst = some t → t < N) (hr : i ∈ Region.ready .any ops listed)
 (hs : St H' w0 bs' W') (hws : k = 1 ∨ (∀ W,St H' w0 bs' W → St H w0 bs W) ∨ RedoP dfs P ops n w0 N L H' bs' i pa) :
 GT dfs P ops l w0 n N a0 E (listed.setIfInBounds i true) (a.put o.dst v) W' (upd val i v) (upd dec i true) (i :: D) (putL o.dst v L) H' bs' pa := by
 have hdi : dec i = false := (I.set i).trans hiD
 have hdeps : ∀ j,j < n → Region.waitsFor .any ops i j = true → dec j = true := fun j hj hw => (I.set j).trans (waits_ok hwt hj hw)
 have hii : ∀ j,j < n → Region.waitsFor .any ops i j = true → j ≠ i := fun j hj hw e => by
  have := hdeps j hj hw
  rw [e,hdi] at this;cases this
 have hun : st listed i = false := (mem_ready.1 hr).1
 have e1 : dstOf ops i = o.dst := by simp [dstOf,ho]
 have hput := frm_putE (a0 := a0) (val := val) (v := v) F hi ho hdi
 refine ⟨I.head.set hr hi,?_,?_,?_,hs,?_,?_,upd_set I.set,?_⟩
 ·rw [I.frame,frm_more (upd val i v) (st listed) (st (listed.setIfInBounds i true)) a0 i st_set_same hun (fun k hk => st_set hk) n hi F.apart,e1,upd_same]
  congr 1
  refine frm_congr _ _ _ _ a0 n fun k _ => ⟨rfl,fun hk => (upd_ne _ _ fun e => ?_).symm⟩
  subst e;rw [hun] at hk;cases hk
 ·rw [hput];exact I.full.putL v hN
 ·intro j hj hs
  by_cases e : j = i
  ·subst e;exact upd_same _ _ _
  ·rw [upd_ne _ _ e];rw [st_set e] at hs;exact I.sub j hj hs
 ·intro j oj hj hoj hd hs W hW
  have e : j ≠ i := fun e => by subst e;rw [st_set_same] at hs;cases hs
  rw [st_set e] at hs
  rw [upd_ne _ _ e] at hd ⊢
  have hdone : reach ops n i j = true → False := fun h1 => by
   obtain ⟨_,oi,hoi,hall⟩ := mem_ready.1 hr
   have h2 := reach_listed I.head n i j h1 (fun ok hok x hx hb => by
    obtain rfl : ok = oi := Option.some.inj (hok.symm.trans hoi)
    exact hall x hx hb)
   rw [getD_both hs] at h2
   cases h2
  have hy : Yq P ops oj (val j) (frm ops val dec n a0) W := by
   rcases hws with hk | hw | hw
   ·subst hk
    have hjD : j ∈ D := by have := (I.set j).symm.trans hd;simpa using this
    simp only [beq_self_eq_true,Bool.not_true,Bool.false_or] at hk1
    exact (hdone (List.all_eq_true.1 hk1 j hjD)).elim
   ·exact I.light j oj hj hoj hd hs W (hw W hW)
   ·rcases hw.at (I.past j oj hj hoj hd hs) with h1 | h1
    ·exact (hdone h1).elim
    ·exact h1 _ W I.full hW
  refine Yq.same (fun cs b => F.sel j oj cs b hoj) (fun t ht => ?_) hy
  refine eval_sameE F hj hoj (fun k hk hw => ?_) t ht
  have hkd := I.deps j k hj hk hd hw
  have hki : k ≠ i := fun e => by subst e;rw [hdi] at hkd;cases hkd
  exact ⟨by rw [upd_ne _ _ hki];exact hkd,hkd,upd_ne _ _ hki⟩
 ·intro j oj hj hoj hd hs
  have e : j ≠ i := fun e => by subst e;rw [st_set_same] at hs;cases hs
  rw [st_set e] at hs
  rw [upd_ne _ _ e] at hd ⊢
  exact I.past j oj hj hoj hd hs
 ·intro j k hj hk hd hw
  by_cases e : j = i
  ·subst e
   rw [upd_ne _ _ (hii k hk hw)];exact hdeps k hk hw
  ·rw [upd_ne _ _ e] at hd
   have := I.deps j k hj hk hd hw
   by_cases e2 : k = i
   ·subst e2;exact upd_same _ _ _
   ·rw [upd_ne _ _ e2];exact this
theorem flowT_gameE (hl : ops = l.toArray) (F : FitE ops n) (hend : ∀ L H bs,E L H bs → At dfs N L H w0 bs (Q .normal)) :
 ∀ (m : Nat) (p : Pi0) (listed : Array Bool) (a : Act) (W : World) (val : Nat → Value) (dec : Nat → Bool) (D : List Nat) (L : Sl) (H : Hp) (bs : List Res) (pa : List (Nat × Oper × Value)),cnt (st listed) n = m → okT ops n D [] p = true →
  FlowT dfs P ops n w0 N E (fillT l p) pa L H bs → GT dfs P ops l w0 n N a0 E listed a W val dec D L H bs pa → wpAny P .any ops Q (m + (ops.size - n)) listed a W := by
 have hop : ∀ i,i < n → ops[i]? = some l[i]! := fun i hi => by
  have h1 : i < ops.size := by have := F.all;omega
  subst hl
  have h2 : i < l.length := by simpa using h1
  simp [h2]
 intro m
 induction m with
 | zero =>
  intro p
  induction p with
  | done =>
   intro listed a W val dec D L H bs pa hm hok hF I
   have hall := cnt_zero _ n hm
   have hsz : ops.size - n = 0 := by have := F.all;omega
   rw [hsz]
   have hrd : Region.ready .any ops listed = [] := List.eq_nil_iff_forall_not_mem.2 fun k hk => by
    obtain ⟨h1,o,h2,_⟩ := mem_ready.1 hk
    have h3 : k < ops.size := (Array.getElem?_eq_some_iff.1 h2).1
    have h4 := hall k (by have := F.all;omega)
    have h5 : k < listed.size := by rw [I.head.size];exact h3
    simp [st,h5] at h1 h4
    rw [h4] at h1
    cases h1
   have hfr : a = frm ops val dec n a0 := by
    rw [I.frame]
    exact frm_congr _ _ _ _ a0 n (fun k hk => ⟨by rw [hall k hk,I.sub k hk (hall k hk)],fun _ => rfl⟩)
   rw [hfr]
   exact At.ae (n := N) (L := L) hrd (hend L H bs hF) _ W I.full I.world
  | no =>
   intro listed a W val dec D L H bs pa hm hok hF I
   simp [okT] at hok
  | light i r ih =>
   intro listed a W val dec D L H bs pa hm hok hF I
   have hall := cnt_zero _ n hm
   simp only [okT,Bool.and_eq_true,decide_eq_true_eq,Bool.not_eq_true'] at hok
   have := I.sub i hok.1.1.1.2 (hall i hok.1.1.1.2)
   rw [I.set i,hok.1.1.2] at this;cases this
  | alt i k r q ih1 ih2 =>
   intro listed a W val dec D L H bs pa hm hok hF I
   have hall := cnt_zero _ n hm
   simp only [okT,Bool.and_eq_true,decide_eq_true_eq,Bool.not_eq_true'] at hok
   have := I.sub i hok.1.1.1.1.1 (hall i hok.1.1.1.1.1)
   rw [I.set i,hok.1.1.1.1.2] at this;cases this
 | succ m ih =>
  have one_step : ∀ (p : Pi0) (listed : Array Bool) (a : Act) (W : World) (val : Nat → Value) (dec : Nat → Bool) (D : List Nat) (L : Sl) (H : Hp) (bs : List Res) (pa : List (Nat × Oper × Value)),cnt (st listed) n = m + 1 → okT ops n D [] p = true →
   FlowT dfs P ops n w0 N E (fillT l p) pa L H bs → GT dfs P ops l w0 n N a0 E listed a W val dec D L H bs pa → (p = .done ∨ p = .no ∨ ∃ i k r q,p = .alt i k r q) → wpAny P .any ops Q (m + 1 + (ops.size - n)) listed a W := by
   intro p listed a W val dec D L H bs pa hm hok hF I hp
   obtain ⟨k0,hk0,hun0,hbelow⟩ := cnt_pos (st listed) n (by omega)
   have hk0s : k0 < ops.size := by have := F.all;omega
   have hready0 : k0 ∈ Region.ready .any ops listed := by
    refine mem_ready.2 ⟨hun0,ops[k0],Array.getElem?_eq_getElem hk0s,fun e he hb => ?_⟩
    have hlt := F.back k0 _ (Array.getElem?_eq_getElem hk0s) e he hb
    have := hbelow e.on hlt
    have hsz : e.on < listed.size := by rw [I.head.size];omega
    simpa [st,hsz] using this
   rw [show m + 1 + (ops.size - n) = (m + (ops.size - n)) + 1 by omega]
   refine ⟨fun h0 => (by rw [h0] at hready0;cases hready0),fun j hj => ?_⟩
   have hjn : j < n := by
    rcases Nat.lt_or_ge j n with h | h
    ·exact h
    ·exfalso
     obtain ⟨_,oj,hoj,_⟩ := mem_ready.1 hj
     have h3 : j < ops.size := (Array.getElem?_eq_some_iff.1 hoj).1
     have := F.all
     omega
   obtain ⟨hun,oj,hoj,hall⟩ := mem_ready.1 hj
   have hcnt : cnt (st (listed.setIfInBounds j true)) n = m := by
    have := cnt_more (st listed) (st (listed.setIfInBounds j true)) j st_set_same hun (fun k hk => st_set hk) n hjn
    omega
   have hS : ∀ k,k < n → Region.waitsFor .any ops j k = true → st listed k = true := by
    intro k hk hw
    obtain ⟨oi,hoi,e,he,hb,hon⟩ := Region.waitsFor_spec hw
    obtain rfl : oi = oj := Option.some.inj (hoi.symm.trans hoj)
    have h1 := hall e he hb
    rw [hon] at h1
    have hsz : k < listed.size := by rw [I.head.size];have := F.all;omega
    simp [hsz] at h1
    simp [st,hsz,h1]
   have hev : ∀ t ∈ oj.looksAt ops,a.eval (.tmp t) = (frm ops val dec n a0).eval (.tmp t) := fun t ht => by
    rw [I.frame]
    exact eval_sameE F hjn hoj (fun k hk hw => ⟨hS k hk hw,I.sub k hk (hS k hk hw),rfl⟩) t ht
   cases hd : dec j with
   | true =>
    have hy : Yq P ops oj (val j) a W := Yq.same (fun cs b => F.sel j oj cs b hoj) hev (I.light j oj hjn hoj hd hun W I.world)
    exact hy.wpOp hoj fun W' hx => ih p _ _ _ _ _ _ _ _ _ _ hcnt hok hF (I.stepE F hjn hoj hj hd hx)
   | false =>
    have hjD : D.contains j = false := (I.set j).symm.trans hd
    have hch : p = .no ∨ ∃ i k r q',p = .alt i k r q' := by
     rcases hp with rfl | rfl | h
     ·exfalso
      simp only [okT,Bool.and_eq_true] at hok
      have := List.all_eq_true.1 hok.2 j (List.mem_range.2 hjn)
      rw [hjD] at this;cases this
     ·exact .inl Z
     ·exact .inr h
    obtain ⟨k,r,h1,h2,h3,h4,h5⟩ := chain_find hl hjn hjD (fun i hi hin => by
     cases hre : reach ops n j i with
     | false => rfl
     | true =>
      have h2 := reach_listed I.head n j i hre (fun ok hok e he hb => by
       obtain rfl : ok = oj := Option.some.inj (hok.symm.trans hoj)
       exact hall e he hb)
      have h3 : st listed i = false := by
       cases h : st listed i with
       | false => rfl
       | true => have := I.sub i hin h;rw [I.set i,hi] at this;cases this
      rw [getD_both h3] at h2;cases h2) p [] hch hok (fun i hi => by cases hi) hF
    have hoj2 := hop j hjn
    obtain rfl : oj = l[j]! := Option.some.inj (hoj.symm.trans hoj2)
    refine one_same hoj (fun cs b => F.sel j _ cs b hoj) hev (fun b W' ⟨v,H',bs',hf,_⟩ => hf.defers) I.full.defers ?_ (h5 _ W I.full I.world)
    rintro v W' ⟨v',H',bs',hf,hs,hw,hp'⟩
    have hvv : putL (l[j]!).dst v' L = putL (l[j]!).dst v L := by
     cases hdst : (l[j]!).dst with
     | none => rfl
     | some t =>
      rw [hdst] at hf
      have h1 := hf.slot t v' (by unfold putL look;rw [Nat.beq_refl,cond_true])
      have h2 : t < N := h4 t hdst
      have h3 := (I.full.put (by simpa [Nat.blt_eq] using h2) v).slot t v (by unfold look;rw [Nat.beq_refl,cond_true])
      rw [h3] at h1
      rw [h1]
    rw [hvv] at hp'
    exact ih r _ _ _ _ _ _ _ _ _ _ hcnt h3 hp' (I.heavyE F hjn hoj hjD h1 h2 h4 hj hs hw)
  intro p
  induction p with
  | done => exact fun listed a W val dec D L H bs pa hm hok hF I => one_step _ listed a W val dec D L H bs pa hm hok hF I (.inl rfl)
  | no => exact fun listed a W val dec D L H bs pa hm hok hF I => one_step _ listed a W val dec D L H bs pa hm hok hF I (.inr (.inl rfl))
  | alt i k r q _ _ => exact fun listed a W val dec D L H bs pa hm hok hF I => one_step _ listed a W val dec D L H bs pa hm hok hF I (.inr (.inr ⟨_,_,_,_,rfl⟩))
  | light i r ihr =>
   intro listed a W val dec D L H bs pa hm hok hF I
   simp only [okT,Bool.and_eq_true,decide_eq_true_eq,Bool.not_eq_true'] at hok
   obtain ⟨⟨⟨⟨_,hi⟩,hiD⟩,hwt⟩,hok'⟩ := hok
   unfold fillT FlowT at hF
   obtain ⟨v,hy,hN,hF'⟩ := hF
   exact ihr listed a W _ _ _ _ H bs _ hm hok' hF' (I.decideE F hi (hop i hi) hiD hwt hy hN)
theorem flowTE {id : Nat} {l : List Oper} {p : PlT} {Q : Exit → Act → World → Prop} {L : Sl} {H : Hp} {bs : List Res} (n : Nat) (p0 : Pi0) (hm : P.follows .mixedOrders = true) (hB : (parE l.toArray n && okT l.toArray n [] [] p0) = true) (ht : fillT l p0 = p)
 (h : FlowT dfs P l.toArray n w0 N (fun L H bs => At dfs N L H w0 bs (Q .normal)) p [] L H bs) : At dfs N L H w0 bs ((Code.region id l.toArray true).wp P Q) := by
 simp only [Bool.and_eq_true] at hB
 obtain ⟨h1,h2⟩ := hB
 have F := FitE.of h1
 have hlt : n = l.length := by simpa using F.all
 subst ht
 intro a W f s
 refine wp_region_any hm ?_
 have hsz : l.toArray.size = l.length := by simp
 have hc0 : ∀ m,m ≤ n → cnt (st (Array.replicate l.toArray.size false)) m = m := by
  intro m
  induction m with
  | zero => intro _;rfl
  | succ m ih =>
   intro hm
   unfold cnt
   rw [ih (by omega)]
   have : st (Array.replicate l.toArray.size false) m = false := by
    have : m < l.length := by omega
    simp [st,this]
   rw [this];simp
 have hfrm : ∀ (val : Nat → Value) (m : Nat),frm l.toArray val (fun _ => false) m a = a := fun val m => by
  induction m with
  | zero => rfl
  | succ m ih => unfold frm;simp [ih]
 have hall : ∀ m,m ≤ n → ∀ k,k < m → st (Array.replicate l.toArray.size false) k = false := fun m hm k hk => by
  have : k < l.length := by omega
  simp [st,this]
 have hh : HeadInv .any l.toArray n (Array.replicate l.toArray.size false) := by
  refine ⟨by simp,fun j oj hj hl => ?_,fun t ht ht' => ?_⟩
  ·exfalso
   rcases Nat.lt_or_ge j l.length with h | h
   ·simp [h] at hl
   ·simp [h] at hl
  ·have : t < l.length := by simpa using ht'
   simp [this]
 have key := flowT_gameE (Q := Q) (a0 := a) (l := l) rfl F (fun L H bs h => h) n p0 (Array.replicate l.toArray.size false) a _ (fun _ => undef) (fun _ => false) [] L H bs [] (hc0 n (Nat.le_refl _)) h2 h
  ⟨hh,?_,by rw [hfrm];exact f,?_,s.more ((Ext.refl W).drew),fun _ _ _ _ h => (by cases h),fun _ _ _ _ h => (by cases h),fun _ => rfl,fun _ _ _ _ h => (by cases h)⟩
 ·have : n + (l.toArray.size - n) = l.toArray.size := by rw [hsz];omega
  rw [this] at key
  exact key
 ·rw [frm_congr (fun _ => undef) (fun _ => undef) _ (fun _ => false) a n (fun k hk => ⟨hall n (Nat.le_refl _) k hk,fun _ => rfl⟩),hfrm]
 ·intro i hi hs;rw [hall n (Nat.le_refl _) i hi] at hs;cases hs
end
section
variable {dfs : List Deferred} {P : Program} {n : Nat} {L : Sl} {H : Hp} {w0 : World} {bs : List Res} {Q : Exit → Act → World → Prop} {ops : Array Oper} {rest : List Oper} {K : Act → World → Prop}
variable {d : Option Tmp} {ty : TypeId} {pos : String} {aft : Array Edge} {v : Value} {t : Tmp} {x y : Operand} {T : TypeId}
theorem storeR {g off k c size : Nat} {e : TypeId} {xs vs : List Value} {bs' : List Res} (hp : ev L x = some (.pointer (some ⟨g,off,none⟩))) (hv : ev L y = some (.agg vs.toArray)) (hT : sizeN P T = some vs.length) (h1 : ∀ u ∈ vs,u.oneCell' = true)
 (hm : Upd bs (.row e size (.slice (some ⟨g,0,none⟩) k c) k xs) (.row e size (.slice (some ⟨g,0,none⟩) k c) k (setsL xs off vs)) bs') (ho : off + vs.length ≤ xs.length) (h : At dfs n L H w0 bs' K) :
 At dfs n L H w0 bs (one P ops Q ⟨none,.store T x y,ty,pos,aft,none⟩ K) := by
 intro a W f s
 have ho1 : W.ownsRow w0.heap.size e size (.slice (some ⟨g,0,none⟩) k c) k xs := (s.own _ hm.mem).1
 rcases ho1.2 with ⟨hr,_⟩ | ⟨g',cap,cur,hr,hbg,hgc,hnc,hcm,hcs,htake⟩
 ·cases hr
 ·injection hr with e1 _ e3
  injection e1 with e1
  injection e1 with e1
  subst e1 e3
  obtain ⟨more,hmo⟩ : ∃ more,more = cur.toList.drop (k * size) := ⟨_,rfl⟩
  have hcur : cur.toList = xs ++ more := by rw [hmo,← htake,List.take_append_drop]
  have hcur2 : cur = (xs ++ more).toArray := by rw [← hcur]
  obtain ⟨b1,u1,u2⟩ := hm.mid (.box g (xs ++ more) e)
  obtain ⟨b2,u3,u4⟩ := u2.mid (.box g (setsL (xs ++ more) off vs) e)
  have s1 : St H w0 b1 W := s.put1 u1 ⟨hbg,by rw [hgc,← hcur2]⟩ (fun b e => e)
  refine stores hp hv hT rfl h1 u3 (by rw [List.length_append];omega) ?_ a W f s1
  intro a W f s2
  have ob := (s2.own _ u4.mem).1
  have e4 : setsL (xs ++ more) off vs = setsL xs off vs ++ more := setsL_app vs xs more off ho
  have hz : xs.length = k * size := ho1.1
  refine h a W f (s2.put1 u4 ⟨by rw [setsL_len];exact hz,.inr ⟨g,c,(setsL (xs ++ more) off vs).toArray,rfl,ob.1,ob.2,hnc,hcm,?_,?_⟩⟩ (fun b e => e))
  ·rw [List.size_toArray,setsL_len,← hcur]
   simpa using hcs
  ·rw [e4]
   show List.take (k * size) (setsL xs off vs ++ more) = setsL xs off vs
   rw [List.take_append_of_le_length (by rw [setsL_len];omega),List.take_of_length_le (by rw [setsL_len];omega)]
variable {N hn i kk : Nat} {pa : List (Nat × Oper × Value)} {E : Sl → Hp → List Res → Prop} {q : PlT} {bs' : List Res}
theorem AltT.sR {g off k c size : Nat} {e : TypeId} {xs vs : List Value} (hp : ev L x = some (.pointer (some ⟨g,off,none⟩))) (hv : ev L y = some (.agg vs.toArray)) (hT : sizeN P T = some vs.length) (h1 : ∀ u ∈ vs,u.oneCell' = true)
 (hm : Upd bs (.row e size (.slice (some ⟨g,0,none⟩) k c) k xs) (.row e size (.slice (some ⟨g,0,none⟩) k c) k (setsL xs off vs)) bs') (ho : off + vs.length ≤ xs.length)
 (hr : RedoP dfs P ops hn w0 N L H bs' i pa) (h : FlowT dfs P ops hn w0 N E q pa L H bs') : AltT dfs P ops hn w0 N E i kk ⟨none,.store T x y,ty,pos,aft,none⟩ q pa L H bs :=
 ⟨fun _ e => (by cases e),storeR hp hv hT h1 hm ho (AltT.into0 hr h)⟩
theorem AltT.st {b off : Nat} {l l' : List Value} {t' : TypeId} (hm : Upd bs (.box b l t') (.box b l' t') bs') (hp : ev L x = some (.pointer (some ⟨b,off,none⟩))) (hv : ev L y = some v) (hT : sizeN P T = some 1) (h1 : v.oneCell' = true) (ho : off < l.length) (hl : l.set off v = l')
 (hr : RedoP dfs P ops hn w0 N L H bs' i pa) (h : FlowT dfs P ops hn w0 N E q pa L H bs') : AltT dfs P ops hn w0 N E i kk ⟨none,.store T x y,ty,pos,aft,none⟩ q pa L H bs :=
 ⟨fun _ e => (by cases e),store hp hv hT h1 hm ho hl (AltT.into0 hr h)⟩
theorem AltT.apE {e : TypeId} {size bytes m c k : Nat} {p : Option Addr} {r : Value} {xs : List Value} {ds : List D} {bs' : List Value → Value → List Res} (hT : rowN P T = some (e,size,bytes)) (hx : ev L x = some r)
 (hm : ∀ news r',Upd bs (.row e size r k xs) (.row e size r' (k + m) (xs ++ news)) (bs' news r')) (hy : ev L y = some (.slice p m c)) (hr : Rep H (.seq size ds) [.slice p m c]) (hpos : 0 < k + m)
 (h63 : k + m ≤ maxLen) (hb : (k + m) * bytes ≤ 140737488355328) (ht : Nat.blt t N = true)
 (hr2 : ∀ news r',RedoP dfs P ops hn w0 N L H (bs' news r') i pa) (h : ∀ news g c,RepZ H size ds news → FlowT dfs P ops hn w0 N E q pa ((t,.slice (some ⟨g,0,none⟩) (k + m) c) :: L) H (bs' news (.slice (some ⟨g,0,none⟩) (k + m) c))) :
 AltT dfs P ops hn w0 N E i 2 ⟨some t,.call ⟨.builtin .append,#[x,y],#[T,T]⟩,ty,pos,aft,none⟩ q pa L H bs :=
 ⟨blt_of ht,appendD hT hx hm hy hr h63 hb ht fun news r' hz => At.rs (hm news r').new hpos fun g c e => by subst e;exact AltT.into (.inr<|.inr<|hr2 _ _) (h news g c hz)⟩
theorem FlowT.fe {Q : Exit → Act → World → Prop} (h : At dfs N L H w0 bs (Q .normal)) : FlowT dfs P ops hn w0 N (fun L H bs => At dfs N L H w0 bs (Q .normal)) .done pa L H bs := h
theorem At.fx {id : Nat} {l : List Oper} {p : PlT} (nn : Nat) (p0 : Pi0) (hm : P.follows .mixedOrders = true) (hB : (parE l.toArray nn && okT l.toArray nn [] [] p0) = true) (ht : fillT l p0 = p)
 (h : FlowT dfs P l.toArray nn w0 n (fun L H bs => At dfs n L H w0 bs (Q .normal)) p [] L H bs) : At dfs n L H w0 bs ((Code.region id l.toArray true).wp P Q) := flowTE nn p0 hm hB ht h
end
end Go.Sx
namespace Go.Proofs.YthhoebdlfjffkaaGreatDoor
theorem nar0 {op : UInt8} {nm : Str} {n : Int64} : Ex.all narrow (.mk op nm n []) = true := by rw [all_mk,narrow_mk];rfl
theorem nar1 {op : UInt8} {nm : Str} {n : Int64} {a : Ex} (h : Ex.all narrow a = true) : Ex.all narrow (.mk op nm n [a]) = true := by rw [all_mk,narrow_mk];simp [Ex.alls,h]
theorem nar2 {op : UInt8} {nm : Str} {n : Int64} {a b : Ex} (h : Ex.all narrow a = true) (k : Ex.all narrow b = true) : Ex.all narrow (.mk op nm n [a,b]) = true := by rw [all_mk,narrow_mk];simp [Ex.alls,h,k]
theorem primE_nar {rec : List Tk → Rs Ex} (hr : ∀ q a r',rec q = .ok a r' → Ex.all narrow a = true) {r : List Tk} {a : Ex} {r' : List Tk} (h : primE rec r = .ok a r') : Ex.all narrow a = true := by
 unfold primE at h
 cases r with
 | nil => cases h
 | cons t q =>
  simp only at h
  have fin : ∀ {b : Ex} {l : List Tk},(Rs.ok b l : Rs Ex) = .ok a r' → Ex.all narrow b = true → Ex.all narrow a = true := by
   intro b l e hl
   injection e with e1 e2
   subst e1
   exact hl
  split at h
  ·split at h
   ·exact fin h nar0
   ·cases h
  split at h
  ·exact fin h nar0
  split at h
  ·exact fin h nar0
  split at h
  ·exact fin h nar0
  split at h
  ·obtain ⟨t2,r2,rfl,_,h⟩ := nameT_ok h
   exact fin h nar0
  split at h
  ·obtain ⟨x,r2,h1,h⟩ := Rs.bind_ok h
   obtain ⟨h2,h⟩ := needT_ok h
   exact fin h (hr _ _ _ h1)
  split at h
  ·obtain ⟨t2,r2,rfl,_,h⟩ := nameT_ok h
   obtain ⟨h2,h⟩ := needT_ok h
   obtain ⟨x,r4,h1,h⟩ := Rs.bind_ok h
   obtain ⟨h3,h⟩ := needT_ok h
   exact fin h (nar1 (hr _ _ _ h1))
  split at h
  ·split at h
   ·obtain ⟨x,r4,h1,h⟩ := Rs.bind_ok h
    obtain ⟨h3,h⟩ := needT_ok h
    exact fin h (nar1 (hr _ _ _ h1))
   ·exact fin h nar0
  ·cases h
theorem pE_nar : ∀ f,(∀ lv r a r',pE f (.ex lv) r = .ok a r' → Ex.all narrow a = true) ∧ (∀ lv x r a r',pE f (.lp lv x) r = .ok a r' → Ex.all narrow x = true → Ex.all narrow a = true)
 | 0 => ⟨fun lv r a r' e => (by unfold pE at e;cases e),fun lv x r a r' e => (by unfold pE at e;cases e)⟩
 | f + 1 => by
  obtain ⟨ih1,ih2⟩ := pE_nar f
  refine ⟨fun lv r a r' h => ?_,fun lv x r a r' h hK => ?_⟩
  ·rw [pE_ex] at h
   split at h
   ·obtain ⟨b,q,h1,h2⟩ := Rs.bind_ok h
    exact ih2 _ _ _ _ _ h2 (ih1 _ _ _ _ h1)
   split at h
   ·obtain ⟨b,q,h1,h2⟩ := Rs.bind_ok h
    injection h2 with e1 e2;subst e1;exact nar1 (ih1 _ _ _ _ h1)
   split at h
   ·obtain ⟨b,q,h1,h2⟩ := Rs.bind_ok h
    injection h2 with e1 e2;subst e1;exact nar1 (ih1 _ _ _ _ h1)
   ·exact primE_nar (fun q b r2 e => ih1 _ _ _ _ e) h
  ·rw [pE_lp] at h
   split at h
   ·injection h with e1 e2;subst e1;exact hK
   ·rename_i op e
    obtain ⟨b,q,h1,h2⟩ := Rs.bind_ok h
    have h4 : Ex.all narrow (opE op [x,b]) = true := nar2 hK (ih1 _ _ _ _ h1)
    split at h2
    ·injection h2 with e1 e2;subst e1;exact h4
    ·exact ih2 _ _ _ _ _ h2 h4
theorem gX_nar {lv : Nat} {r r' : List Tk} {a : Ex} (h : gX lv r = .ok a r') : Ex.all narrow a = true := (pE_nar _).1 _ _ _ _ h
theorem sgZ_zero {α : Type} {g : Pz α} {t : Str} (hz : Cz g) (h : (sgZ g t).e = 0) : (∃ a,g (sg0 t).r = .ok a []) ∧ (sgZ g t).o = 0 := by
 have h0 : sg0 t = ⟨(sg0 t).r,0,0⟩ := by
  by_cases k : 20000 < t.length
  ·exfalso
   have e0 : sg0 t = ⟨[],3,0⟩ := by unfold sg0;rw [if_pos k]
   unfold sgZ at h
   rw [e0,up_er (by decide)] at h
   unfold Sg.cl at h
   rw [if_pos rfl] at h
   exact absurd (show (3 : Nat) = 0 from h) (by decide)
  ·unfold sg0;rw [if_neg k]
 cases hg : g (sg0 t).r with
 | er r c =>
  have hu : up t.length g (sg0 t) = ⟨r,c,offT t.length r⟩ := by
   rw [h0]
   unfold up
   rw [if_pos rfl]
   show (match g (sg0 t).r with | .ok _ r => _ | .er r c => _) = _
   rw [hg]
  unfold sgZ at h
  rw [hu] at h
  have hc := hz _ _ _ hg
  unfold Sg.cl at h
  split at h
  ·exact absurd h hc
  ·unfold Sg.fail at h
   rw [if_neg hc] at h
   exact absurd h hc
 | ok a r =>
  have hu : up t.length g (sg0 t) = ⟨r,0,0⟩ := by
   rw [h0]
   unfold up
   rw [if_pos rfl]
   show (match g (sg0 t).r with | .ok _ r => _ | .er r c => _) = _
   rw [hg]
  unfold sgZ at h ⊢
  rw [hu] at h ⊢
  by_cases hr : r = []
  ·subst hr
   exact ⟨⟨a,rfl⟩,rfl⟩
  ·exfalso
   unfold Sg.cl at h
   rw [if_neg hr] at h
   exact absurd h (by unfold Sg.fail;simp)
end Go.Proofs.YthhoebdlfjffkaaGreatDoor
namespace Go.Proofs.YthhoebdlfjffkaaGreatDoor
open Go.RowKit Go.Par Go.Sx
theorem zx_rep (H : Hp) : Rep H (dEx .u8 (opE 0 [])) [.int .u8 0,.string ⟨#[]⟩,.int .i64 0,.slice none 0 0] := ex_shut (op := 0) (nm := []) (n := 0) (args := []) (by decide) (Rep.empty (p := none) (c := 0) (by decide))
theorem row_put {H : Hp} {z k : Nat} {ds : List D} {d0 d : D} {xs news vs : List Value} (hz : RepZ H z ds xs) (hn : RepZ H z [d0] news) (hd : Rep H d vs) (hl : vs.length = z) (hk : ds.length = k) : RepZ H z (ds ++ [d]) (setsL (xs ++ news) (k * z) vs) := by
 subst hk
 have h := RepZ.put hd hl (hz.app hn) (i := ds.length) (by simp)
 rwa [List.set_append_right _ _ (Nat.le_refl _),Nat.sub_self,List.set_cons_zero] at h
inductive AddR (n : Nat) (q : Sg) : List Str → Sg → List Ex → Prop
 | one {e : Ex} : vl (gX 0) q e → AddR n q [] (up n (gX 0) q) [e]
 | more {L : List Str} {q1 : Sg} {l : List Ex} {w : Str} {e : Ex} : AddR n q L q1 l → vl (gX 0) (up n (gNd w) q1) e → AddR n q (L ++ [w]) (up n (gX 0) (up n (gNd w) q1)) (l ++ [e])
theorem AddR.len {n : Nat} {q q1 : Sg} {L : List Str} {l : List Ex} (h : AddR n q L q1 l) : l.length = L.length + 1 := by
 induction h with
 | one _ => rfl
 | more _ _ ih => simp [ih]
theorem AddR.step {n : Nat} {q q1 : Sg} {L : List Str} {l : List Ex} {i : Nat} {e : Ex} (hi : i < L.length) (h : AddR n q (L.take i) q1 l) (he : vl (gX 0) (up n (gNd L[i]) q1) e) : AddR n q (L.take (i + 1)) (up n (gX 0) (up n (gNd L[i]) q1)) (l ++ [e]) := by
 rw [take_snoc hi]
 exact .more h he
set_option maxRecDepth 100000 in
theorem add_st {H : Hp} {w0 W : World} {bs : List Res} {b n : Nat} {ts : List Tk} {tp : Option Addr} {tc : Nat} {t0 t1 t2 t3 : Value} {q : Sg} (K : Tkm H ts tp tc) (hq : q.r <:+ ts) (bS bP : Nat) (c0 c1 c2 c4 c5 : Value) (es : List Ex) (vp : Option Addr) (vc : Nat) (xs : List Value) (L : List Str) (hL : ∀ w ∈ L,w ∈ words ∨ w ∈ symbols) (sp : Option Addr) (sc : Nat) (hs : Rep H (.seq 1 (L.map dStrL)) [.slice sp L.length sc]) (hz : RepZ H 4 (es.map (dEx .u8)) xs) (hk : es.length + L.length ≤ 1000000)
 (s : St H w0 (.row 27 4 (.slice vp es.length vc) es.length xs :: .box b [.slice tp ts.length tc,.int .i64 (posN ts q : Nat),.int .i64 (n : Nat),t0,t1,t2,t3,.int .i64 (q.o : Nat),.int .i64 (q.e : Nat)] 99 :: .box bS [c0,c1,c2,.slice vp es.length vc,c4,c5] 208 :: .box bP [.pointer (some ⟨b,0,none⟩)] 65 :: bs) W) :
 Calls Tryz.prog 174 #[.slice sp L.length sc,.pointer (some ⟨bS,0,none⟩),.pointer (some ⟨bP,0,none⟩)] W fun e W' => ∃ z : List Ex × Nat × Option Addr × Nat × List Value × Hp × Sg,(AddR n q L z.2.2.2.2.2.2 z.1 ∧ z.2.1 = es.length + z.1.length ∧ HUp w0 H z.2.2.2.2.2.1 ∧ RepZ z.2.2.2.2.2.1 4 ((es ++ z.1).map (dEx .u8)) z.2.2.2.2.1 ∧ z.2.2.2.2.2.2.r <:+ ts) ∧ e = .returned (.tuple #[]) ∧
  St z.2.2.2.2.2.1 w0 (.row 27 4 (.slice z.2.2.1 z.2.1 z.2.2.2.1) z.2.1 z.2.2.2.2.1 :: .box b [.slice tp ts.length tc,.int .i64 (posN ts z.2.2.2.2.2.2 : Nat),.int .i64 (n : Nat),t0,t1,t2,t3,.int .i64 (z.2.2.2.2.2.2.o : Nat),.int .i64 (z.2.2.2.2.2.2.e : Nat)] 99 :: .box bS [c0,c1,c2,.slice z.2.2.1 z.2.1 z.2.2.2.1,c4,c5] 208 :: .box bP [.pointer (some ⟨b,0,none⟩)] 65 :: bs) W' := by
 have hx0 := hz.len
 rw [List.length_map] at hx0
 have hscap := hs.cap
 refine Sx.enterS Tryz.func174 rfl Tryz.ntmps174 rfl s ?_
 refine .cu (X := List Ex × Nat × Option Addr × Nat × List Value × Hp × Sg) [(0,_),(1,_),(2,_)] ⟨rfl,rfl,rfl,trivial⟩ (fun z => []) (fun z => z.2.2.2.2.2.1) (fun z => (.row 27 4 (.slice z.2.2.1 z.2.1 z.2.2.2.1) z.2.1 z.2.2.2.2.1 :: .box b [.slice tp ts.length tc,.int .i64 (posN ts z.2.2.2.2.2.2 : Nat),.int .i64 (n : Nat),t0,t1,t2,t3,.int .i64 (z.2.2.2.2.2.2.o : Nat),.int .i64 (z.2.2.2.2.2.2.e : Nat)] 99 :: .box bS [c0,c1,c2,.slice z.2.2.1 z.2.1 z.2.2.2.1,c4,c5] 208 :: .box bP [.pointer (some ⟨b,0,none⟩)] 65 :: bs)) (fun z => AddR n q (L.take (0)) z.2.2.2.2.2.2 z.1 ∧ z.2.1 = es.length + z.1.length ∧ HUp w0 H z.2.2.2.2.2.1 ∧ RepZ z.2.2.2.2.2.1 4 ((es ++ z.1).map (dEx .u8)) z.2.2.2.2.1 ∧ z.2.2.2.2.2.2.r <:+ ts) ?_ fun z hC => ?_
 ·
  refine .fx (p := .light _ _ (.light _ _ (.light _ _ (.light _ _ (.alt _ _ _ (.alt _ _ _ (.alt _ _ _ (.light _ _ (.light _ _ (.alt _ _ _ (.alt _ _ _ (.done) (.no)) (.alt _ _ _ (.alt _ _ _ (.done) (.no)) (.no))))) (.no)) (.no)) (.alt _ _ _ (.alt _ _ _ (.alt _ _ _ (.light _ _ (.light _ _ (.alt _ _ _ (.alt _ _ _ (.done) (.no)) (.alt _ _ _ (.alt _ _ _ (.done) (.no)) (.no))))) (.no)) (.no)) (.no))))))) 11 (.light 0 (.light 1 (.light 2 (.light 4 (.alt 3 2 (.alt 5 0 (.alt 6 2 (.light 7 (.light 9 (.alt 8 2 (.alt 10 2 (.done) (.no)) (.alt 10 2 (.alt 8 2 (.done) (.no)) (.no))))) (.no)) (.no)) (.alt 5 0 (.alt 3 2 (.alt 6 2 (.light 7 (.light 9 (.alt 8 2 (.alt 10 2 (.done) (.no)) (.alt 10 2 (.alt 8 2 (.done) (.no)) (.no))))) (.no)) (.no)) (.no))))))) (by kernel_rfl) (by kernel_rfl) Z<|.yv (.fieldAddr Z Fx.field208_3) Z<|.yv (.load Z Fx.agg25 (.tail _<|.tail _<|.head _) Z) Z<|.yv (.load Z Fx.agg65 (.tail _<|.tail _<|.tail _<|.head _) Z) Z<|.yv (.lenSl Fx.sl25 Z) Z<|.h ?_ (.h ?_ .nn)
  ·
   refine .c3 (X := Ex × List Value × Hp) Fx.call23 Z (fun W s => expr_all K hq (s.pickT (hd := [_,_,_,_]) (tl := bs) (hd' := [_,_,_,_]) [1,0,2,3] Z Z)) Z (fun _ _ => (.yv (.lenSl Fx.sl25 Z)<|.done (by kernel_rfl)<|.yv (.load Z Fx.agg25 (.tail _<|.tail _<|.head _) Z)<|.yv (.fieldAddr Z Fx.field208_3)<|.nl)) fun z1 hz1 => ?_
   obtain ⟨a1,c1,H1⟩ := z1
   obtain ⟨hv1,u1,r1⟩ := hz1
   dsimp only at hv1 u1 r1 ⊢
   obtain ⟨x1,x2,x3,x4,rfl⟩ := four (ex_len r1)
   refine .h1<|.blF Z (Fx.bsl25_1 _ _ _ _) Z fun b11 H3 u3 m3 => .h1<|.apE Fx.row25 Z (fun _ _ => (.tail<|.head)) Z (Rep.mk (n := 1) (c := 1) (ds := [dEx .u8 (opE 0 [])]) m3 (.single (zx_rep _) Z) Z (Nat.le_refl _) (by decide)) (by omega) (by simp only [maxLen];omega) (by omega) Z (fun _ _ => (.done (by kernel_rfl)<|.done (by kernel_rfl)<|.done (by kernel_rfl)<|.done (by kernel_rfl)<|.nl)) fun news g12 cc12 hn => .yv (.indexSl Fx.sl25 Z Z (i := es.length) Z (by omega) (q := es.length * 4) (by omega)) Z<|.yv (.fieldAddr Z Fx.field208_3) Z<|.h ?_ (.h ?_ .nn)
   ·
    exact .sR Z Z Fx.size27 (Rep.one r1) (.tail<|.head) (by have := hn.len;simp only [List.length_append,List.length_cons,List.length_nil] at * <;> omega) (.yv (.fieldAddr Z Fx.field208_3)<|.done (by kernel_rfl)<|.done (by kernel_rfl)<|.done (by kernel_rfl)<|.done (by kernel_rfl)<|.done (by kernel_rfl)<|.nl) <|.h1<|.st (.tail<|.tail<|.head) Z Z Fx.size25 Z (nb Z) Z ((.done (by kernel_rfl)<|.yv (.indexSl Fx.sl25 Z Z (i := es.length) Z (by omega) (q := es.length * 4) (by omega))<|.done (by kernel_rfl)<|.done (by kernel_rfl)<|.done (by kernel_rfl)<|.done (by kernel_rfl)<|.nl))<|.fe<|.tN<|.me ([a1],es.length + 1,some ⟨g12,0,none⟩,cc12,setsL (xs ++ news) (es.length * 4) [x1,x2,x3,x4],H3,up n (gX 0) q) trivial ⟨rfl,rfl,rfl,trivial⟩ (fun _ s => (s.pickT (hd := [_,_,_,_]) (tl := bs) (hd' := [_,_,_,_]) [1,0,2,3] Z Z)) ⟨.one hv1,rfl,u1.trans u3,(by rw [List.map_append];exact row_put (hz.up (u1.trans u3).up) hn (r1.up u3.up) Z (by simp)),(Suf.ex 0).up hq⟩
   exact .st (.tail<|.tail<|.head) Z Z Fx.size25 Z (nb Z) Z ((.done (by kernel_rfl)<|.yv (.indexSl Fx.sl25 Z Z (i := es.length) Z (by omega) (q := es.length * 4) (by omega))<|.done (by kernel_rfl)<|.done (by kernel_rfl)<|.done (by kernel_rfl)<|.done (by kernel_rfl)<|.nl))<|.h1<|.sR Z Z Fx.size27 (Rep.one r1) (.tail<|.head) (by have := hn.len;simp only [List.length_append,List.length_cons,List.length_nil] at * <;> omega) (.yv (.fieldAddr Z Fx.field208_3)<|.done (by kernel_rfl)<|.done (by kernel_rfl)<|.done (by kernel_rfl)<|.done (by kernel_rfl)<|.done (by kernel_rfl)<|.nl) <|.fe<|.tN<|.me ([a1],es.length + 1,some ⟨g12,0,none⟩,cc12,setsL (xs ++ news) (es.length * 4) [x1,x2,x3,x4],H3,up n (gX 0) q) trivial ⟨rfl,rfl,rfl,trivial⟩ (fun _ s => (s.pickT (hd := [_,_,_,_]) (tl := bs) (hd' := [_,_,_,_]) [1,0,2,3] Z Z)) ⟨.one hv1,rfl,u1.trans u3,(by rw [List.map_append];exact row_put (hz.up (u1.trans u3).up) hn (r1.up u3.up) Z (by simp)),(Suf.ex 0).up hq⟩
  refine .blF Z (Fx.bsl25_1 _ _ _ _) Z fun b11 H3 u3 m3 => .h1<|.c3 (X := Ex × List Value × Hp) Fx.call23 Z (fun W s => expr_all (K.up u3.up) hq (s.pickT (hd := [_,_,_,_]) (tl := bs) (hd' := [_,_,_,_]) [1,0,2,3] Z Z)) Z (fun _ _ => (.yv (.lenSl Fx.sl25 Z)<|.done (by kernel_rfl)<|.yv (.load Z Fx.agg25 (.tail _<|.tail _<|.head _) Z)<|.yv (.fieldAddr Z Fx.field208_3)<|.nl)) fun z1 hz1 => ?_
  obtain ⟨a1,c1,H1⟩ := z1
  obtain ⟨hv1,u1,r1⟩ := hz1
  dsimp only at hv1 u1 r1 ⊢
  obtain ⟨x1,x2,x3,x4,rfl⟩ := four (ex_len r1)
  refine .h1<|.apE Fx.row25 Z (fun _ _ => (.tail<|.head)) Z (Rep.mk (n := 1) (c := 1) (ds := [dEx .u8 (opE 0 [])]) (m3.up u1.up) (.single (zx_rep _) Z) Z (Nat.le_refl _) (by decide)) (by omega) (by simp only [maxLen];omega) (by omega) Z (fun _ _ => (.done (by kernel_rfl)<|.done (by kernel_rfl)<|.done (by kernel_rfl)<|.done (by kernel_rfl)<|.nl)) fun news g12 cc12 hn => .yv (.indexSl Fx.sl25 Z Z (i := es.length) Z (by omega) (q := es.length * 4) (by omega)) Z<|.yv (.fieldAddr Z Fx.field208_3) Z<|.h ?_ (.h ?_ .nn)
  ·
   exact .sR Z Z Fx.size27 (Rep.one r1) (.tail<|.head) (by have := hn.len;simp only [List.length_append,List.length_cons,List.length_nil] at * <;> omega) (.yv (.fieldAddr Z Fx.field208_3)<|.done (by kernel_rfl)<|.done (by kernel_rfl)<|.done (by kernel_rfl)<|.done (by kernel_rfl)<|.done (by kernel_rfl)<|.nl) <|.h1<|.st (.tail<|.tail<|.head) Z Z Fx.size25 Z (nb Z) Z ((.done (by kernel_rfl)<|.yv (.indexSl Fx.sl25 Z Z (i := es.length) Z (by omega) (q := es.length * 4) (by omega))<|.done (by kernel_rfl)<|.done (by kernel_rfl)<|.done (by kernel_rfl)<|.done (by kernel_rfl)<|.nl))<|.fe<|.tN<|.me ([a1],es.length + 1,some ⟨g12,0,none⟩,cc12,setsL (xs ++ news) (es.length * 4) [x1,x2,x3,x4],H1,up n (gX 0) q) trivial ⟨rfl,rfl,rfl,trivial⟩ (fun _ s => (s.pickT (hd := [_,_,_,_]) (tl := bs) (hd' := [_,_,_,_]) [1,0,2,3] Z Z)) ⟨.one hv1,rfl,u3.trans u1,(by rw [List.map_append];exact row_put (hz.up (u3.trans u1).up) hn (r1) Z (by simp)),(Suf.ex 0).up hq⟩
  exact .st (.tail<|.tail<|.head) Z Z Fx.size25 Z (nb Z) Z ((.done (by kernel_rfl)<|.yv (.indexSl Fx.sl25 Z Z (i := es.length) Z (by omega) (q := es.length * 4) (by omega))<|.done (by kernel_rfl)<|.done (by kernel_rfl)<|.done (by kernel_rfl)<|.done (by kernel_rfl)<|.nl))<|.h1<|.sR Z Z Fx.size27 (Rep.one r1) (.tail<|.head) (by have := hn.len;simp only [List.length_append,List.length_cons,List.length_nil] at * <;> omega) (.yv (.fieldAddr Z Fx.field208_3)<|.done (by kernel_rfl)<|.done (by kernel_rfl)<|.done (by kernel_rfl)<|.done (by kernel_rfl)<|.done (by kernel_rfl)<|.nl) <|.fe<|.tN<|.me ([a1],es.length + 1,some ⟨g12,0,none⟩,cc12,setsL (xs ++ news) (es.length * 4) [x1,x2,x3,x4],H1,up n (gX 0) q) trivial ⟨rfl,rfl,rfl,trivial⟩ (fun _ s => (s.pickT (hd := [_,_,_,_]) (tl := bs) (hd' := [_,_,_,_]) [1,0,2,3] Z Z)) ⟨.one hv1,rfl,u3.trans u1,(by rw [List.map_append];exact row_put (hz.up (u3.trans u1).up) hn (r1) Z (by simp)),(Suf.ex 0).up hq⟩
 obtain ⟨l,k,p,c,xs,H4,q1⟩ := z
 obtain ⟨hR,hkk,u4,hz4,hq1⟩ := hC
 dsimp only at hR hkk u4 hz4 hq1 ⊢
 have K4 := K.up u4.up
 clear hz
 refine .sr<|.m Z Z<|.yv (.lenSl Fx.sl52 Z) Z<|.m Z Z<|.nt<|.bk<|.lp (X := Nat × List Ex × Nat × Option Addr × Nat × List Value × Hp × Sg) [(1,_),(2,_),(15,_),(16,_)] ⟨rfl,rfl,rfl,rfl,trivial⟩ (bs) (fun y => [(17,.int .i64 (y.1 : Nat))]) (fun y => y.2.2.2.2.2.2.1) (fun y => [.row 27 4 (.slice y.2.2.2.1 y.2.2.1 y.2.2.2.2.1) y.2.2.1 y.2.2.2.2.2.1,.box b [.slice tp ts.length tc,.int .i64 (posN ts y.2.2.2.2.2.2.2 : Nat),.int .i64 (n : Nat),t0,t1,t2,t3,.int .i64 (y.2.2.2.2.2.2.2.o : Nat),.int .i64 (y.2.2.2.2.2.2.2.e : Nat)] 99,.box bS [c0,c1,c2,.slice y.2.2.2.1 y.2.2.1 y.2.2.2.2.1,c4,c5] 208,.box bP [.pointer (some ⟨b,0,none⟩)] 65]) (fun y => y.1 ≤ L.length ∧ AddR n q (L.take (y.1)) y.2.2.2.2.2.2.2 y.2.1 ∧ y.2.2.1 = es.length + y.2.1.length ∧ HUp w0 H y.2.2.2.2.2.2.1 ∧ RepZ y.2.2.2.2.2.2.1 4 ((es ++ y.2.1).map (dEx .u8)) y.2.2.2.2.2.1 ∧ y.2.2.2.2.2.2.2.r <:+ ts) (fun y => L.length - y.1) (0,l,k,p,c,xs,H4,q1) (fun _ s => s) ⟨rfl,trivial⟩ ⟨Nat.zero_le _,hR,hkk,u4,hz4,hq1⟩ fun y hC => ?_
 obtain ⟨i,l,k,p,c,xs,H6,q6⟩ := y
 obtain ⟨hi0,hR6,hk6,u6,hz6,hq6⟩ := hC
 dsimp only at hi0 hR6 hk6 u6 hz6 hq6 ⊢
 have K6 := K.up u6.up
 have hl6 := hR6.len
 rw [List.length_take] at hl6
 have hx6 := hz6.len
 rw [List.length_map,List.length_append] at hx6
 refine .sr<|.yv (.lss Z Z) Z<|.nt<|.sq<|.cd Z (fun h18 => ?_) (fun h18 => ?_)
 ·try simp only [dt] at h18
  have hi : i < L.length := by omega
  obtain ⟨bE,oE,cE,hpE,rE,lE,mE⟩ := (hs.up u6.up).elem (map_at (f := dStrL) hi)
  cases hpE
  obtain rfl := strL_open rE
  refine .sk<|.tN<|.sq<|.bk<|.sr<|.yv (.indexSl Fx.sl52 Z Z Z (by omega) (q := oE + i * 1) Z) Z<|.yv (.loadM Z Fx.agg9 mE (k := 0) Z Z) Z<|.a Z Z<|.ns<|.yv (.load Z Fx.agg65 (.tail _<|.tail _<|.tail _<|.head _) Z) Z<|.m Z Z<|.cs (X := Unit) Fx.call73 Z (fun W s => expect_nd K6 hq6 L[i] (hL _ (List.getElem_mem hi)) (s.pickT (hd := [_,_,_,_]) (tl := bs) (hd' := [_,_,_,_]) [1,0,2,3] Z Z)) Z fun _ _ => .nt<|.fx (p := .light _ _ (.light _ _ (.light _ _ (.light _ _ (.alt _ _ _ (.alt _ _ _ (.alt _ _ _ (.light _ _ (.light _ _ (.alt _ _ _ (.alt _ _ _ (.done) (.no)) (.alt _ _ _ (.alt _ _ _ (.done) (.no)) (.no))))) (.no)) (.no)) (.alt _ _ _ (.alt _ _ _ (.alt _ _ _ (.light _ _ (.light _ _ (.alt _ _ _ (.alt _ _ _ (.done) (.no)) (.alt _ _ _ (.alt _ _ _ (.done) (.no)) (.no))))) (.no)) (.no)) (.no))))))) 11 (.light 0 (.light 1 (.light 2 (.light 4 (.alt 3 2 (.alt 5 0 (.alt 6 2 (.light 7 (.light 9 (.alt 8 2 (.alt 10 2 (.done) (.no)) (.alt 10 2 (.alt 8 2 (.done) (.no)) (.no))))) (.no)) (.no)) (.alt 5 0 (.alt 3 2 (.alt 6 2 (.light 7 (.light 9 (.alt 8 2 (.alt 10 2 (.done) (.no)) (.alt 10 2 (.alt 8 2 (.done) (.no)) (.no))))) (.no)) (.no)) (.no))))))) (by kernel_rfl) (by kernel_rfl) Z<|.yv (.fieldAddr Z Fx.field208_3) Z<|.yv (.load Z Fx.agg25 (.tail _<|.tail _<|.head _) Z) Z<|.yv (.load Z Fx.agg65 (.tail _<|.tail _<|.tail _<|.head _) Z) Z<|.yv (.lenSl Fx.sl25 Z) Z<|.h ?_ (.h ?_ .nn)
  ·
   refine .c3 (X := Ex × List Value × Hp) Fx.call23 Z (fun W s => expr_all K6 ((Suf.nd _).up hq6) (s.pickT (hd := [_,_,_,_]) (tl := bs) (hd' := [_,_,_,_]) [0,1,2,3] Z Z)) Z (fun _ _ => (.yv (.lenSl Fx.sl25 Z)<|.done (by kernel_rfl)<|.yv (.load Z Fx.agg25 (.tail _<|.tail _<|.head _) Z)<|.yv (.fieldAddr Z Fx.field208_3)<|.nl)) fun z1 hz1 => ?_
   obtain ⟨a15,c1,H15⟩ := z1
   obtain ⟨hv15,u15,r15⟩ := hz1
   dsimp only at hv15 u15 r15 ⊢
   obtain ⟨x15,x25,x35,x45,rfl⟩ := four (ex_len r15)
   refine .h1<|.blF Z (Fx.bsl25_1 _ _ _ _) Z fun b29 H35 u35 m35 => .h1<|.apE Fx.row25 Z (fun _ _ => (.tail<|.head)) Z (Rep.mk (n := 1) (c := 1) (ds := [dEx .u8 (opE 0 [])]) m35 (.single (zx_rep _) Z) Z (Nat.le_refl _) (by decide)) (by omega) (by simp only [maxLen];omega) (by omega) Z (fun _ _ => (.done (by kernel_rfl)<|.done (by kernel_rfl)<|.done (by kernel_rfl)<|.done (by kernel_rfl)<|.nl)) fun news5 g30 cc30 hn5 => .yv (.indexSl Fx.sl25 Z Z (i := k) Z (by omega) (q := k * 4) (by omega)) Z<|.yv (.fieldAddr Z Fx.field208_3) Z<|.h ?_ (.h ?_ .nn)
   ·
    exact .sR Z Z Fx.size27 (Rep.one r15) (.tail<|.head) (by have := hn5.len;simp only [List.length_append,List.length_cons,List.length_nil] at * <;> omega) (.yv (.fieldAddr Z Fx.field208_3)<|.done (by kernel_rfl)<|.done (by kernel_rfl)<|.done (by kernel_rfl)<|.done (by kernel_rfl)<|.done (by kernel_rfl)<|.nl) <|.h1<|.st (.tail<|.tail<|.head) Z Z Fx.size25 Z (nb Z) Z ((.done (by kernel_rfl)<|.yv (.indexSl Fx.sl25 Z Z (i := k) Z (by omega) (q := k * 4) (by omega))<|.done (by kernel_rfl)<|.done (by kernel_rfl)<|.done (by kernel_rfl)<|.done (by kernel_rfl)<|.nl))<|.fe<|.bN<|.tN<|.rg<|.yv (.add Z Z (w6 (by omega))) Z<|.m Z Z<|.nt<|.ag (x := (i,l,k,p,c,xs,H6,q6)) (i + 1,l ++ [a15],k + 1,some ⟨g30,0,none⟩,cc30,setsL (xs ++ news5) (k * 4) [x15,x25,x35,x45],H35,up n (gX 0) (up n (gNd L[i]) q6)) ⟨rfl,trivial⟩ ⟨rfl,rfl,rfl,rfl,trivial⟩ (fun _ s => (s.pickT (hd := [_,_,_,_]) (tl := bs) (hd' := [_,_,_,_]) [1,0,2,3] Z Z)) ⟨by show i + 1 ≤ _;omega,hR6.step hi hv15,(by dsimp only;rw [List.length_append];simp only [List.length_cons,List.length_nil];omega),u6.trans (u15.trans u35),(by dsimp only;rw [← List.append_assoc,List.map_append];exact row_put (hz6.up (u15.trans u35).up) hn5 (r15.up u35.up) Z (by simp;omega)),(Suf.ex 0).up ((Suf.nd _).up hq6)⟩ (by show L.length - (i + 1) < L.length - i;omega)
   exact .st (.tail<|.tail<|.head) Z Z Fx.size25 Z (nb Z) Z ((.done (by kernel_rfl)<|.yv (.indexSl Fx.sl25 Z Z (i := k) Z (by omega) (q := k * 4) (by omega))<|.done (by kernel_rfl)<|.done (by kernel_rfl)<|.done (by kernel_rfl)<|.done (by kernel_rfl)<|.nl))<|.h1<|.sR Z Z Fx.size27 (Rep.one r15) (.tail<|.head) (by have := hn5.len;simp only [List.length_append,List.length_cons,List.length_nil] at * <;> omega) (.yv (.fieldAddr Z Fx.field208_3)<|.done (by kernel_rfl)<|.done (by kernel_rfl)<|.done (by kernel_rfl)<|.done (by kernel_rfl)<|.done (by kernel_rfl)<|.nl) <|.fe<|.bN<|.tN<|.rg<|.yv (.add Z Z (w6 (by omega))) Z<|.m Z Z<|.nt<|.ag (x := (i,l,k,p,c,xs,H6,q6)) (i + 1,l ++ [a15],k + 1,some ⟨g30,0,none⟩,cc30,setsL (xs ++ news5) (k * 4) [x15,x25,x35,x45],H35,up n (gX 0) (up n (gNd L[i]) q6)) ⟨rfl,trivial⟩ ⟨rfl,rfl,rfl,rfl,trivial⟩ (fun _ s => (s.pickT (hd := [_,_,_,_]) (tl := bs) (hd' := [_,_,_,_]) [1,0,2,3] Z Z)) ⟨by show i + 1 ≤ _;omega,hR6.step hi hv15,(by dsimp only;rw [List.length_append];simp only [List.length_cons,List.length_nil];omega),u6.trans (u15.trans u35),(by dsimp only;rw [← List.append_assoc,List.map_append];exact row_put (hz6.up (u15.trans u35).up) hn5 (r15.up u35.up) Z (by simp;omega)),(Suf.ex 0).up ((Suf.nd _).up hq6)⟩ (by show L.length - (i + 1) < L.length - i;omega)
  refine .blF Z (Fx.bsl25_1 _ _ _ _) Z fun b29 H35 u35 m35 => .h1<|.c3 (X := Ex × List Value × Hp) Fx.call23 Z (fun W s => expr_all (K6.up u35.up) ((Suf.nd _).up hq6) (s.pickT (hd := [_,_,_,_]) (tl := bs) (hd' := [_,_,_,_]) [0,1,2,3] Z Z)) Z (fun _ _ => (.yv (.lenSl Fx.sl25 Z)<|.done (by kernel_rfl)<|.yv (.load Z Fx.agg25 (.tail _<|.tail _<|.head _) Z)<|.yv (.fieldAddr Z Fx.field208_3)<|.nl)) fun z1 hz1 => ?_
  obtain ⟨a15,c1,H15⟩ := z1
  obtain ⟨hv15,u15,r15⟩ := hz1
  dsimp only at hv15 u15 r15 ⊢
  obtain ⟨x15,x25,x35,x45,rfl⟩ := four (ex_len r15)
  refine .h1<|.apE Fx.row25 Z (fun _ _ => (.tail<|.head)) Z (Rep.mk (n := 1) (c := 1) (ds := [dEx .u8 (opE 0 [])]) (m35.up u15.up) (.single (zx_rep _) Z) Z (Nat.le_refl _) (by decide)) (by omega) (by simp only [maxLen];omega) (by omega) Z (fun _ _ => (.done (by kernel_rfl)<|.done (by kernel_rfl)<|.done (by kernel_rfl)<|.done (by kernel_rfl)<|.nl)) fun news5 g30 cc30 hn5 => .yv (.indexSl Fx.sl25 Z Z (i := k) Z (by omega) (q := k * 4) (by omega)) Z<|.yv (.fieldAddr Z Fx.field208_3) Z<|.h ?_ (.h ?_ .nn)
  ·
   exact .sR Z Z Fx.size27 (Rep.one r15) (.tail<|.head) (by have := hn5.len;simp only [List.length_append,List.length_cons,List.length_nil] at * <;> omega) (.yv (.fieldAddr Z Fx.field208_3)<|.done (by kernel_rfl)<|.done (by kernel_rfl)<|.done (by kernel_rfl)<|.done (by kernel_rfl)<|.done (by kernel_rfl)<|.nl) <|.h1<|.st (.tail<|.tail<|.head) Z Z Fx.size25 Z (nb Z) Z ((.done (by kernel_rfl)<|.yv (.indexSl Fx.sl25 Z Z (i := k) Z (by omega) (q := k * 4) (by omega))<|.done (by kernel_rfl)<|.done (by kernel_rfl)<|.done (by kernel_rfl)<|.done (by kernel_rfl)<|.nl))<|.fe<|.bN<|.tN<|.rg<|.yv (.add Z Z (w6 (by omega))) Z<|.m Z Z<|.nt<|.ag (x := (i,l,k,p,c,xs,H6,q6)) (i + 1,l ++ [a15],k + 1,some ⟨g30,0,none⟩,cc30,setsL (xs ++ news5) (k * 4) [x15,x25,x35,x45],H15,up n (gX 0) (up n (gNd L[i]) q6)) ⟨rfl,trivial⟩ ⟨rfl,rfl,rfl,rfl,trivial⟩ (fun _ s => (s.pickT (hd := [_,_,_,_]) (tl := bs) (hd' := [_,_,_,_]) [1,0,2,3] Z Z)) ⟨by show i + 1 ≤ _;omega,hR6.step hi hv15,(by dsimp only;rw [List.length_append];simp only [List.length_cons,List.length_nil];omega),u6.trans (u35.trans u15),(by dsimp only;rw [← List.append_assoc,List.map_append];exact row_put (hz6.up (u35.trans u15).up) hn5 (r15) Z (by simp;omega)),(Suf.ex 0).up ((Suf.nd _).up hq6)⟩ (by show L.length - (i + 1) < L.length - i;omega)
  exact .st (.tail<|.tail<|.head) Z Z Fx.size25 Z (nb Z) Z ((.done (by kernel_rfl)<|.yv (.indexSl Fx.sl25 Z Z (i := k) Z (by omega) (q := k * 4) (by omega))<|.done (by kernel_rfl)<|.done (by kernel_rfl)<|.done (by kernel_rfl)<|.done (by kernel_rfl)<|.nl))<|.h1<|.sR Z Z Fx.size27 (Rep.one r15) (.tail<|.head) (by have := hn5.len;simp only [List.length_append,List.length_cons,List.length_nil] at * <;> omega) (.yv (.fieldAddr Z Fx.field208_3)<|.done (by kernel_rfl)<|.done (by kernel_rfl)<|.done (by kernel_rfl)<|.done (by kernel_rfl)<|.done (by kernel_rfl)<|.nl) <|.fe<|.bN<|.tN<|.rg<|.yv (.add Z Z (w6 (by omega))) Z<|.m Z Z<|.nt<|.ag (x := (i,l,k,p,c,xs,H6,q6)) (i + 1,l ++ [a15],k + 1,some ⟨g30,0,none⟩,cc30,setsL (xs ++ news5) (k * 4) [x15,x25,x35,x45],H15,up n (gX 0) (up n (gNd L[i]) q6)) ⟨rfl,trivial⟩ ⟨rfl,rfl,rfl,rfl,trivial⟩ (fun _ s => (s.pickT (hd := [_,_,_,_]) (tl := bs) (hd' := [_,_,_,_]) [1,0,2,3] Z Z)) ⟨by show i + 1 ≤ _;omega,hR6.step hi hv15,(by dsimp only;rw [List.length_append];simp only [List.length_cons,List.length_nil];omega),u6.trans (u35.trans u15),(by dsimp only;rw [← List.append_assoc,List.map_append];exact row_put (hz6.up (u35.trans u15).up) hn5 (r15) Z (by simp;omega)),(Suf.ex 0).up ((Suf.nd _).up hq6)⟩ (by show L.length - (i + 1) < L.length - i;omega)
 try simp only [df] at h18
 obtain rfl : i = L.length := by omega
 rw [List.take_length] at hR6
 refine .ex<|.tE<|.tE<|.bE<|?_
 refine Sx.retN (.inr rfl) rfl .nil rfl fun W s => ⟨(l,k,p,c,xs,H6,q6),⟨hR6,hk6,u6,hz6,hq6⟩,rfl,?_⟩
 exact s.pickT (hd := [_,_,_,_]) (tl := bs) (hd' := [_,_,_,_]) [0,1,2,3] rfl rfl
theorem Fx.agg118 : aggN Tryz.prog 118 = Option.some Option.none := by kernel_rfl
theorem Fx.call174 : callN Tryz.prog 174 = Bool.true := by kernel_rfl
theorem Fx.call175 : callN Tryz.prog 175 = Bool.true := by kernel_rfl
theorem AddR.nil {n : Nat} {q q1 : Sg} {l : List Ex} (h : AddR n q [] q1 l) : q1 = up n (gX 0) q ∧ ∃ e,l = [e] ∧ vl (gX 0) q e := by
 generalize hL : ([] : List Str) = L at h
 cases h with
 | one hv => exact ⟨rfl,_,rfl,hv⟩
 | more _ _ => simp at hL
set_option maxRecDepth 100000 in
theorem nxt_st {H : Hp} {w0 W : World} {bs : List Res} {b n : Nat} {ts : List Tk} {tp : Option Addr} {tc : Nat} {t0 t1 t2 t3 : Value} {q : Sg} (K : Tkm H ts tp tc) (hq : q.r <:+ ts) (bS bP bF : Nat) (c0 c1 c2 c4 c5 : Value) (es : List Ex) (k0 : Nat) (hk0 : k0 = es.length) (vp : Option Addr) (vc : Nat) (xs0 : List Value) (hz : RepZ H 4 (es.map (dEx .u8)) xs0) (hk : k0 ≤ 1000000) (s : St H w0 (.row 27 4 (.slice vp k0 vc) k0 xs0 :: .box b [.slice tp ts.length tc,.int .i64 (posN ts q : Nat),.int .i64 (n : Nat),t0,t1,t2,t3,.int .i64 (q.o : Nat),.int .i64 (q.e : Nat)] 99 :: .box bS [c0,c1,c2,.slice vp k0 vc,c4,c5] 208 :: .box bP [.pointer (some ⟨b,0,none⟩)] 65 :: .box bF [.func (.func 174) #[] #[.pointer (some ⟨bS,0,none⟩),.pointer (some ⟨bP,0,none⟩)]] 118 :: bs) W) :
 Calls Tryz.prog 175 #[.pointer (some ⟨bF,0,none⟩)] W fun e W' => ∃ z : Ex × Nat × Option Addr × Nat × List Value × Hp,(vl (gX 0) q z.1 ∧ z.2.1 = es.length + 1 ∧ HUp w0 H z.2.2.2.2.2 ∧ RepZ z.2.2.2.2.2 4 ((es ++ [z.1]).map (dEx .u8)) z.2.2.2.2.1) ∧ e = .returned (.tuple #[]) ∧ St z.2.2.2.2.2 w0 (.row 27 4 (.slice z.2.2.1 z.2.1 z.2.2.2.1) z.2.1 z.2.2.2.2.1 :: .box b [.slice tp ts.length tc,.int .i64 (posN ts (up n (gX 0) q) : Nat),.int .i64 (n : Nat),t0,t1,t2,t3,.int .i64 ((up n (gX 0) q).o : Nat),.int .i64 ((up n (gX 0) q).e : Nat)] 99 :: .box bS [c0,c1,c2,.slice z.2.2.1 z.2.1 z.2.2.2.1,c4,c5] 208 :: .box bP [.pointer (some ⟨b,0,none⟩)] 65 :: .box bF [.func (.func 174) #[] #[.pointer (some ⟨bS,0,none⟩),.pointer (some ⟨bP,0,none⟩)]] 118 :: bs) W' := by
 subst hk0
 refine Sx.enterS Tryz.func175 rfl Tryz.ntmps175 rfl s ?_
 refine .rg<|.yv (.load Z Fx.agg118 (.tail _<|.tail _<|.tail _<|.tail _<|.head _) Z) Z<|.sv (X := List Ex × Nat × Option Addr × Nat × List Value × Hp × Sg) (fi := []) (ca := [.pointer (some ⟨bS,0,none⟩),.pointer (some ⟨bP,0,none⟩)]) Z Fx.call174 Z (fun W s => add_st K hq bS bP c0 c1 c2 c4 c5 es vp vc xs0 [] (fun w h => by cases h) none 0 (Rep.empty (p := none) (c := 0) (by decide)) hz (by simp only [List.length_nil];omega) (s.pickT (hd := [_,_,_,_,_]) (tl := bs) (hd' := [_,_,_,_,_]) [0,1,2,3,4] Z Z)) Z fun z2 hz2 => ?_
 obtain ⟨l2,k2,p2,c2',xs2,H2,q2⟩ := z2
 obtain ⟨hR,hk2,u2,hz2,hq2⟩ := hz2
 dsimp only at hR hk2 u2 hz2 hq2 ⊢
 obtain ⟨rfl,e2,rfl,hv2⟩ := AddR.nil hR
 refine .nl<|?_
 refine Sx.retN (.inr rfl) rfl .nil rfl fun W s => ⟨(e2,k2,p2,c2',xs2,H2),⟨hv2,hk2,u2,hz2⟩,rfl,?_⟩
 exact s.pickT (hd := [_,_,_,_,_]) (tl := bs) (hd' := [_,_,_,_,_]) [0,1,2,3,4] rfl rfl
set_option maxRecDepth 100000 in
theorem list_st {H : Hp} {w0 W : World} {bs : List Res} {b n : Nat} {ts : List Tk} {tp : Option Addr} {tc : Nat} {t0 t1 t2 t3 : Value} {q : Sg} (K : Tkm H ts tp tc) (hq : q.r <:+ ts) (bS bP bF : Nat) (c0 c1 c2 c4 c5 : Value) (es : List Ex) (k0 : Nat) (hk0 : k0 = es.length) (vp : Option Addr) (vc : Nat) (xs0 : List Value) (hz : RepZ H 4 (es.map (dEx .u8)) xs0) (hk : k0 + q.mu ≤ 900000) (s : St H w0 (.row 27 4 (.slice vp k0 vc) k0 xs0 :: .box b [.slice tp ts.length tc,.int .i64 (posN ts q : Nat),.int .i64 (n : Nat),t0,t1,t2,t3,.int .i64 (q.o : Nat),.int .i64 (q.e : Nat)] 99 :: .box bS [c0,c1,c2,.slice vp k0 vc,c4,c5] 208 :: .box bP [.pointer (some ⟨b,0,none⟩)] 65 :: .box bF [.func (.func 174) #[] #[.pointer (some ⟨bS,0,none⟩),.pointer (some ⟨bP,0,none⟩)]] 118 :: bs) W) :
 Calls Tryz.prog 147 #[.pointer (some ⟨b,0,none⟩),.func (.func 175) #[] #[.pointer (some ⟨bF,0,none⟩)]] W fun e W' => ∃ z : List Ex × Nat × Option Addr × Nat × List Value × Hp,(vl (gList (gX 0)) q z.1 ∧ z.2.1 = es.length + z.1.length ∧ HUp w0 H z.2.2.2.2.2 ∧ RepZ z.2.2.2.2.2 4 ((es ++ z.1).map (dEx .u8)) z.2.2.2.2.1) ∧ e = .returned (.tuple #[]) ∧ St z.2.2.2.2.2 w0 (.row 27 4 (.slice z.2.2.1 z.2.1 z.2.2.2.1) z.2.1 z.2.2.2.2.1 :: .box b [.slice tp ts.length tc,.int .i64 (posN ts (up n (gList (gX 0)) q) : Nat),.int .i64 (n : Nat),t0,t1,t2,t3,.int .i64 ((up n (gList (gX 0)) q).o : Nat),.int .i64 ((up n (gList (gX 0)) q).e : Nat)] 99 :: .box bS [c0,c1,c2,.slice z.2.2.1 z.2.1 z.2.2.2.1,c4,c5] 208 :: .box bP [.pointer (some ⟨b,0,none⟩)] 65 :: .box bF [.func (.func 174) #[] #[.pointer (some ⟨bS,0,none⟩),.pointer (some ⟨bP,0,none⟩)]] 118 :: bs) W' := by
 refine Sx.enterS Tryz.func147 rfl Tryz.ntmps147 rfl s ?_
 refine .sr<|.m Z Z<|.cs (X := Unit) Fx.call73 Z (fun W s => expect_nd K hq [40] (by decide +kernel) (s.pickT (hd := [_,_,_,_,_]) (tl := bs) (hd' := [_,_,_,_,_]) [1,0,2,3,4] Z Z)) Z fun _ _ => .nt<|.sq<|.sr<|.m Z Z<|.cs (X := Unit) Fx.call72 Z (fun W s => accept_ac K ((Suf.nd _).up hq) [41] (by decide +kernel) (s.pickT (hd := [_,_,_,_,_]) (tl := bs) (hd' := [_,_,_,_,_]) [0,1,2,3,4] Z Z)) Z fun _ _ => .nt<|.cd Z (fun h7 => ?_) (fun h7 => ?_)
 ·rw [acS_T h7]
  refine .rt<|.tR<|?_
  refine Sx.retN (.inl rfl) rfl .nil rfl fun W s => ⟨([],k0,vp,vc,xs0,H),⟨(by unfold gList;exact vl_bind (n := n) (x := ()) vl_unit (vl_altT h7 vl_pure)),hk0,.refl,(by rw [List.append_nil];exact hz)⟩,rfl,?_⟩
  rw [show up n (gList (gX 0)) q = (up n (gNd [40]) q).tl by unfold gList;rw [up_bind (x := ()) (Cz.nd _) vl_unit,up_altT h7,up_pure]]
  exact s.pickT (hd := [_,_,_,_,_]) (tl := bs) (hd' := [_,_,_,_,_]) [1,0,2,3,4] rfl rfl
 rw [acS_F h7]
 refine .sk<|.tN<|.sr<|.m Z Z<|.sv (X := Ex × Nat × Option Addr × Nat × List Value × Hp) (fi := []) (ca := [.pointer (some ⟨bF,0,none⟩)]) Z Fx.call175 Z (fun W s => nxt_st K ((Suf.nd _).up hq) bS bP bF c0 c1 c2 c4 c5 es k0 hk0 vp vc xs0 hz (by omega) (s.pickT (hd := [_,_,_,_,_]) (tl := bs) (hd' := [_,_,_,_,_]) [1,0,2,3,4] Z Z)) Z fun z1 hz1 => ?_
 obtain ⟨e1,k1,p1,c1',xs1,H1⟩ := z1
 obtain ⟨hv1,hk1,u1,hz1⟩ := hz1
 dsimp only at hv1 hk1 u1 hz1 ⊢
 have K1 := K.up u1.up
 refine .nt<|.sq<|.bk<|.lp (X := List Ex × Nat × Option Addr × Nat × List Value × Hp × Sg) [(0,_),(1,_)] ⟨rfl,rfl,trivial⟩ (_ :: _ :: bs) (fun y => []) (fun y => y.2.2.2.2.2.1) (fun y => [.row 27 4 (.slice y.2.2.1 y.2.1 y.2.2.2.1) y.2.1 y.2.2.2.2.1,.box b [.slice tp ts.length tc,.int .i64 (posN ts y.2.2.2.2.2.2 : Nat),.int .i64 (n : Nat),t0,t1,t2,t3,.int .i64 (y.2.2.2.2.2.2.o : Nat),.int .i64 (y.2.2.2.2.2.2.e : Nat)] 99,.box bS [c0,c1,c2,.slice y.2.2.1 y.2.1 y.2.2.2.1,c4,c5] 208]) (fun y => ∃ l,y.1 = e1 :: l ∧ MnI n [44] (gX 0) (up n (gX 0) (up n (gNd [40]) q)) l y.2.2.2.2.2.2 ∧ y.2.1 = es.length + y.1.length ∧ HUp w0 H y.2.2.2.2.2.1 ∧ RepZ y.2.2.2.2.2.1 4 ((es ++ y.1).map (dEx .u8)) y.2.2.2.2.1 ∧ y.2.2.2.2.2.2.r <:+ ts) (fun y => y.2.2.2.2.2.2.mu) ([e1],k1,p1,c1',xs1,H1,up n (gX 0) (up n (gNd [40]) q)) (fun _ s => s) trivial ⟨[],rfl,MnI.start,hk1,u1,hz1,(Suf.ex 0).up ((Suf.nd _).up hq)⟩ fun y hC => ?_
 obtain ⟨l0,k,p,c,xs,H2,q2⟩ := y
 obtain ⟨l,hl0,hI,hkl,u2,hzl,hq2⟩ := hC
 dsimp only at hl0 hI hkl u2 hzl hq2 ⊢
 subst hl0
 have K2 := K.up u2.up
 have hlen := hI.len
 have hmu2 := mu_up (n := n) (s := (up n (gNd [40]) q)) (Shs.gx 0).le (Cz.ex 0)
 have hmu1 := mu_up (n := n) (s := q) (Shs.nd [40]).le (Cz.nd [40])
 rw [List.length_cons] at hkl
 refine .sq<|.sr<|.m Z Z<|.cs (X := Unit) Fx.call72 Z (fun W s => accept_ac K2 hq2 [44] (by decide +kernel) (s.pickT (hd := [_,_,_,_,_]) (tl := bs) (hd' := [_,_,_,_,_]) [1,0,2,3,4] Z Z)) Z fun _ _ => .nt<|.cd Z (fun h11 => ?_) (fun h11 => ?_)
 ·rw [acS_T h11]
  refine .sk<|.tN<|.bk<|.rg<|.m Z Z<|.sv (X := Ex × Nat × Option Addr × Nat × List Value × Hp) (fi := []) (ca := [.pointer (some ⟨bF,0,none⟩)]) Z Fx.call175 Z (fun W s => nxt_st K2 (Suf.tl hq2) bS bP bF c0 c1 c2 c4 c5 (es ++ (e1 :: l)) k (by rw [List.length_append,List.length_cons];exact hkl) p c xs hzl (by omega) (s.pickT (hd := [_,_,_,_,_]) (tl := bs) (hd' := [_,_,_,_,_]) [1,0,2,3,4] Z Z)) Z fun z3 hz3 => ?_
  obtain ⟨e3,k3,p3,c3,xs3,H3⟩ := z3
  obtain ⟨hv3,hk3,u3,hz3⟩ := hz3
  dsimp only at hv3 hk3 u3 hz3 ⊢
  exact .nl<|.bN<|.tN<|.ag (x := (e1 :: l,k,p,c,xs,H2,q2)) ((e1 :: l) ++ [e3],k3,p3,c3,xs3,H3,up n (gX 0) q2.tl) trivial ⟨rfl,rfl,trivial⟩ (fun _ s => s) ⟨l ++ [e3],rfl,(hI.step (Shs.gx 0).le (Cz.ex 0) h11 hv3).1,(by dsimp only;rw [List.length_append] at hk3;simp only [List.length_append,List.length_cons,List.length_nil] at *;omega),u2.trans u3,(by dsimp only;rw [← List.append_assoc];exact hz3),(Suf.ex 0).up (Suf.tl hq2)⟩ (hI.step (Shs.gx 0).le (Cz.ex 0) h11 hv3).2
 rw [acS_F h11]
 obtain ⟨eS,hvS⟩ := hI.stop (Shs.gx 0).le h11
 refine .ex<|.tE<|.tE<|.bE<|.tN<|.rg<|.m Z Z<|.cs (X := Unit) Fx.call73 Z (fun W s => expect_nd K2 hq2 [41] (by decide +kernel) (s.pickT (hd := [_,_,_,_,_]) (tl := bs) (hd' := [_,_,_,_,_]) [0,1,2,3,4] Z Z)) Z fun _ _ => .nl<|?_
 refine Sx.retN (.inr rfl) rfl .nil rfl fun W s => ⟨(e1 :: l,k,p,c,xs,H2),⟨(by unfold gList;exact vl_bind (n := n) (x := ()) vl_unit (vl_altF h7 (vl_bind (n := n) hv1 (vl_bind (n := n) hvS (vl_bind (n := n) (x := ()) vl_unit vl_pure))))),(by dsimp only;rw [List.length_cons];exact hkl),u2,hzl⟩,rfl,?_⟩
 rw [show up n (gList (gX 0)) q = up n (gNd [41]) q2 by unfold gList;rw [up_bind (x := ()) (Cz.nd _) vl_unit,up_altF h7,up_bind (Cz.ex _) hv1,up_bind (.many (Cz.ex _)) hvS,eS,up_bind (x := ()) (Cz.nd _) vl_unit,up_pure]]
 exact s.pickT (hd := [_,_,_,_,_]) (tl := bs) (hd' := [_,_,_,_,_]) [1,0,2,3,4] rfl rfl
theorem Fx.size206 : sizeN Tryz.prog 206 = Option.some 1 := by kernel_rfl
end Go.Proofs.YthhoebdlfjffkaaGreatDoor
