/- Texts of the proof, one behind the other. -/
import Derived.Test.YthhoebdlfjffkaaGreatDoorMe
set_option linter.all false
namespace Go.Proofs.YthhoebdlfjffkaaGreatDoor
open Go.RowKit Go.Par Go.Sx
def gChg : Pz Sm := gAlt [100,101,108,101,116,101] (gBind gNm fun n => gBind (gNd [91]) fun _ => gBind (gX 0) fun e => gBind (gNd [93]) fun _ => gPure (.mk 3 n [] [e] [] []))<|gBind gNm fun n => gAlt [91] (gBind (gX 0) fun e => gBind (gNd [93]) fun _ => gBind (gNd [61]) fun _ => gBind (gX 0) fun e2 => gPure (.mk 2 n [] [e,e2] [] []))
 (gBind (gNd [61]) fun _ => gBind (gX 0) fun e => gPure (.mk 1 n [] [e] [] []))
theorem expect_T {H : Hp} {w0 W : World} {bs : List Res} {b n : Nat} {ts : List Tk} {tp : Option Addr} {tc : Nat} {t0 t1 t2 t3 : Value} {q : Sg} (K : Tkm H ts tp tc) (hq : q.r <:+ ts) (w : Str) (hw : w ∈ words ∨ w ∈ symbols) (h : ac w q = true) (s : St H w0 (.box b [.slice tp ts.length tc,.int .i64 (posN ts q : Nat),.int .i64 (n : Nat),t0,t1,t2,t3,.int .i64 (q.o : Nat),.int .i64 (q.e : Nat)] 99 :: bs) W) : Calls Tryz.prog 73 #[.pointer (some ⟨b,0,none⟩),strV w] W fun e W' => ∃ _ : Unit,(True) ∧ e = .returned (.tuple #[]) ∧ St H w0 (.box b [.slice tp ts.length tc,.int .i64 (posN ts q.tl : Nat),.int .i64 (n : Nat),t0,t1,t2,t3,.int .i64 (q.tl.o : Nat),.int .i64 (q.tl.e : Nat)] 99 :: bs) W' := by
 have h1 := expect_nd K hq w hw s
 rw [up_ndT h] at h1
 exact h1
set_option maxRecDepth 100000 in
theorem change_st {H : Hp} {w0 W : World} {bs : List Res} {b n : Nat} {ts : List Tk} {tp : Option Addr} {tc : Nat} {t0 t1 t2 t3 : Value} {q : Sg} (K : Tkm H ts tp tc) (hq : q.r <:+ ts) (bS : Nat) (c0 c1 c2 c4 c5 : Value) (vp : Option Addr) (vc : Nat) (s : St H w0 (.row 27 4 (.slice vp 0 vc) 0 [] :: .box b [.slice tp ts.length tc,.int .i64 (posN ts q : Nat),.int .i64 (n : Nat),t0,t1,t2,t3,.int .i64 (q.o : Nat),.int .i64 (q.e : Nat)] 99 :: .box bS [c0,c1,c2,.slice vp 0 vc,c4,c5] 208 :: bs) W) :
 Calls Tryz.prog 177 #[.pointer (some ⟨b,0,none⟩),.pointer (some ⟨bS,0,none⟩)] W fun e W' => ∃ z : UInt8 × Str × List Ex × Nat × Option Addr × Nat × List Value × Hp,(vl gChg q (.mk z.1 z.2.1 [] z.2.2.1 [] []) ∧ z.2.1.length ≤ 1000000 ∧ z.2.2.2.1 = z.2.2.1.length ∧ HUp w0 H z.2.2.2.2.2.2.2 ∧ RepZ z.2.2.2.2.2.2.2 4 (z.2.2.1.map (dEx .u8)) z.2.2.2.2.2.2.1) ∧ e = .returned (.tuple #[]) ∧
  St z.2.2.2.2.2.2.2 w0 (.row 27 4 (.slice z.2.2.2.2.1 z.2.2.2.1 z.2.2.2.2.2.1) z.2.2.2.1 z.2.2.2.2.2.2.1 :: .box b [.slice tp ts.length tc,.int .i64 (posN ts (up n gChg q) : Nat),.int .i64 (n : Nat),t0,t1,t2,t3,.int .i64 ((up n gChg q).o : Nat),.int .i64 ((up n gChg q).e : Nat)] 99 :: .box bS [.int .u8 z.1.toNat,strV z.2.1,c2,.slice z.2.2.2.2.1 z.2.2.2.1 z.2.2.2.2.2.1,c4,c5] 208 :: bs) W' := by
 refine Sx.enterS Tryz.func177 rfl Tryz.ntmps177 rfl s ?_
 refine .sr<|.m Z Z<|.yv (.nilCheck Z) Z<|.yv (.fieldAddr Z Fx.field208_0) Z<|.st (.tail<|.tail<|.head) Z Z Fx.size206 Z (nb Z) Z<|.ns<|.m Z Z<|.cs (X := Unit) Fx.call72 Z (fun W s => accept_ac K hq [100,101,108,101,116,101] (by decide +kernel) (s.pickT (hd := [_,_,_]) (tl := bs) (hd' := [_,_,_]) [1,0,2] Z Z)) Z fun _ _ => .a Z Z<|.ns<|.m Z Z<|.m Z Z<|.cs (X := Str) Fx.call74 Z (fun W s => name_st K (acS_suf hq)  (s.pickT (hd := [_,_,_]) (tl := bs) (hd' := [_,_,_]) [0,1,2] Z Z)) Z fun nm hnm => .yv (.nilCheck Z) Z<|.yv (.fieldAddr Z Fx.field208_1) Z<|.st (.tail<|.tail<|.head) Z Z Fx.size9 Z (nb Z) Z<|.nt<|.sq<|.sr<|.m Z Z<|.m Z Z<|.b2 (fun h16 => ?_) (fun h16 => ?_)
 ·rw [acS_T h16] at hnm ⊢
  refine .gF Z Z Z Z<|.gF Z Z Z Z<|.yv (.pickT Z Z) Z<|.nt<|.cT Z<|.sr<|.m Z Z<|.yv (.nilCheck Z) Z<|.yv (.fieldAddr Z Fx.field208_0) Z<|.st (.tail<|.tail<|.head) Z Z Fx.size206 Z (nb Z) Z<|.ns<|.m Z Z<|.cs (X := Unit) Fx.call73 Z (fun W s => expect_nd K (Suf.nm.up (Suf.tl hq)) [91] (by decide +kernel) (s.pickT (hd := [_,_,_]) (tl := bs) (hd' := [_,_,_]) [0,1,2] Z Z)) Z fun _ _ => .nt<|.cu (X := Ex × Option Addr × Nat × List Value × Hp) [(0,_),(1,_),(4,_)] ⟨rfl,rfl,rfl,trivial⟩ (fun z => []) (fun z => z.2.2.2.2) (fun z => (.row 27 4 (.slice z.2.1 1 z.2.2.1) 1 z.2.2.2.1 :: .box b [.slice tp ts.length tc,.int .i64 (posN ts (up n (gX 0) (up n (gNd [91]) (up n gNm q.tl))) : Nat),.int .i64 (n : Nat),t0,t1,t2,t3,.int .i64 ((up n (gX 0) (up n (gNd [91]) (up n gNm q.tl))).o : Nat),.int .i64 ((up n (gX 0) (up n (gNd [91]) (up n gNm q.tl))).e : Nat)] 99 :: .box bS [.int .u8 2,strV nm,c2,.slice z.2.1 1 z.2.2.1,c4,c5] 208 :: bs)) (fun z => vl (gX 0) (up n (gNd [91]) (up n gNm q.tl)) z.1 ∧ HUp w0 H z.2.2.2.2 ∧ RepZ z.2.2.2.2 4 [dEx .u8 z.1] z.2.2.2.1) ?_ fun z hC => ?_
  ·
   refine .fx (p := .light _ _ (.light _ _ (.light _ _ (.light _ _ (.light _ _ (.light _ _ (.alt _ _ _ (.alt _ _ _ (.alt _ _ _ (.light _ _ (.light _ _ (.light _ _ (.alt _ _ _ (.alt _ _ _ (.done) (.no)) (.alt _ _ _ (.alt _ _ _ (.done) (.no)) (.no)))))) (.no)) (.no)) (.alt _ _ _ (.alt _ _ _ (.alt _ _ _ (.light _ _ (.light _ _ (.light _ _ (.alt _ _ _ (.alt _ _ _ (.done) (.no)) (.alt _ _ _ (.alt _ _ _ (.done) (.no)) (.no)))))) (.no)) (.no)) (.no))))))))) 14 (.light 0 (.light 1 (.light 2 (.light 3 (.light 4 (.light 6 (.alt 5 2 (.alt 7 0 (.alt 8 2 (.light 9 (.light 11 (.light 12 (.alt 10 2 (.alt 13 2 (.done) (.no)) (.alt 13 2 (.alt 10 2 (.done) (.no)) (.no)))))) (.no)) (.no)) (.alt 7 0 (.alt 5 2 (.alt 8 2 (.light 9 (.light 11 (.light 12 (.alt 10 2 (.alt 13 2 (.done) (.no)) (.alt 13 2 (.alt 10 2 (.done) (.no)) (.no)))))) (.no)) (.no)) (.no))))))))) (by kernel_rfl) (by kernel_rfl) Z<|.m Z Z<|.yv (.nilCheck Z) Z<|.yv (.fieldAddr Z Fx.field208_3) Z<|.yv (.load Z Fx.agg25 (.tail _<|.tail _<|.head _) Z) Z<|.m Z Z<|.yv (.lenSl Fx.sl25 Z) Z<|.h ?_ (.h ?_ .nn)
   ·
    refine .c3 (X := Ex × List Value × Hp) Fx.call23 Z (fun W s => expr_all K ((Suf.nd _).up (Suf.nm.up (Suf.tl hq))) (s.pickT (hd := [_,_,_]) (tl := bs) (hd' := [_,_,_]) [0,1,2] Z Z)) Z (fun _ _ => (.yv (.lenSl Fx.sl25 Z)<|.done (by kernel_rfl)<|.yv (.load Z Fx.agg25 (.tail _<|.tail _<|.head _) Z)<|.yv (.fieldAddr Z Fx.field208_3)<|.yv (.nilCheck Z)<|.yv (.move Z)<|.nl)) fun z1 hz1 => ?_
    obtain ⟨a1,c1,H1⟩ := z1
    obtain ⟨hv1,u1,r1⟩ := hz1
    dsimp only at hv1 u1 r1 ⊢
    obtain ⟨x1,x2,x3,x4,rfl⟩ := four (ex_len r1)
    refine .h1<|.blF Z (Fx.bsl25_1 _ _ _ _) Z fun b32 H3 u3 m3 => .h1<|.apE Fx.row25 Z (fun _ _ => (.tail<|.head)) Z (Rep.mk (n := 1) (c := 1) (ds := [dEx .u8 (opE 0 [])]) m3 (.single (zx_rep _) Z) Z (Nat.le_refl _) (by decide)) (by omega) (by simp only [maxLen];omega) (by omega) Z (fun _ _ => (.done (by kernel_rfl)<|.done (by kernel_rfl)<|.done (by kernel_rfl)<|.done (by kernel_rfl)<|.done (by kernel_rfl)<|.done (by kernel_rfl)<|.nl)) fun news g33 cc33 hn => .yv (.indexSl Fx.sl25 Z Z (i := 0) Z (by omega) (q := 0 * 4) (by omega)) Z<|.yv (.nilCheck Z) Z<|.yv (.fieldAddr Z Fx.field208_3) Z<|.h ?_ (.h ?_ .nn)
    ·
     exact .sR Z Z Fx.size27 (Rep.one r1) (.tail<|.head) (by have := hn.len;simp only [List.length_append,List.length_cons,List.length_nil] at * <;> omega) (.yv (.fieldAddr Z Fx.field208_3)<|.yv (.nilCheck Z)<|.done (by kernel_rfl)<|.done (by kernel_rfl)<|.done (by kernel_rfl)<|.done (by kernel_rfl)<|.done (by kernel_rfl)<|.done (by kernel_rfl)<|.done (by kernel_rfl)<|.nl) <|.h1<|.st (.tail<|.tail<|.head) Z Z Fx.size25 Z (nb Z) Z ((.done (by kernel_rfl)<|.done (by kernel_rfl)<|.yv (.indexSl Fx.sl25 Z Z (i := 0) Z (by omega) (q := 0 * 4) (by omega))<|.done (by kernel_rfl)<|.done (by kernel_rfl)<|.done (by kernel_rfl)<|.done (by kernel_rfl)<|.done (by kernel_rfl)<|.done (by kernel_rfl)<|.nl))<|.fe<|.tN<|.me (a1,some ⟨g33,0,none⟩,cc33,setsL ([] ++ news) (0 * 4) [x1,x2,x3,x4],H3) trivial ⟨rfl,rfl,rfl,trivial⟩ (fun _ s => (s.pickT (hd := [_,_,_]) (tl := bs) (hd' := [_,_,_]) [1,0,2] Z Z)) ⟨hv1,(u1.trans u3),row_put (ds := []) RepZ.nil hn (r1.up u3.up) Z Z⟩
    exact .st (.tail<|.tail<|.head) Z Z Fx.size25 Z (nb Z) Z ((.done (by kernel_rfl)<|.done (by kernel_rfl)<|.yv (.indexSl Fx.sl25 Z Z (i := 0) Z (by omega) (q := 0 * 4) (by omega))<|.done (by kernel_rfl)<|.done (by kernel_rfl)<|.done (by kernel_rfl)<|.done (by kernel_rfl)<|.done (by kernel_rfl)<|.done (by kernel_rfl)<|.nl))<|.h1<|.sR Z Z Fx.size27 (Rep.one r1) (.tail<|.head) (by have := hn.len;simp only [List.length_append,List.length_cons,List.length_nil] at * <;> omega) (.yv (.fieldAddr Z Fx.field208_3)<|.yv (.nilCheck Z)<|.done (by kernel_rfl)<|.done (by kernel_rfl)<|.done (by kernel_rfl)<|.done (by kernel_rfl)<|.done (by kernel_rfl)<|.done (by kernel_rfl)<|.done (by kernel_rfl)<|.nl) <|.fe<|.tN<|.me (a1,some ⟨g33,0,none⟩,cc33,setsL ([] ++ news) (0 * 4) [x1,x2,x3,x4],H3) trivial ⟨rfl,rfl,rfl,trivial⟩ (fun _ s => (s.pickT (hd := [_,_,_]) (tl := bs) (hd' := [_,_,_]) [1,0,2] Z Z)) ⟨hv1,(u1.trans u3),row_put (ds := []) RepZ.nil hn (r1.up u3.up) Z Z⟩
   refine .blF Z (Fx.bsl25_1 _ _ _ _) Z fun b32 H3 u3 m3 => .h1<|.c3 (X := Ex × List Value × Hp) Fx.call23 Z (fun W s => expr_all (K.up u3.up) ((Suf.nd _).up (Suf.nm.up (Suf.tl hq))) (s.pickT (hd := [_,_,_]) (tl := bs) (hd' := [_,_,_]) [0,1,2] Z Z)) Z (fun _ _ => (.yv (.lenSl Fx.sl25 Z)<|.done (by kernel_rfl)<|.yv (.load Z Fx.agg25 (.tail _<|.tail _<|.head _) Z)<|.yv (.fieldAddr Z Fx.field208_3)<|.yv (.nilCheck Z)<|.yv (.move Z)<|.nl)) fun z1 hz1 => ?_
   obtain ⟨a1,c1,H1⟩ := z1
   obtain ⟨hv1,u1,r1⟩ := hz1
   dsimp only at hv1 u1 r1 ⊢
   obtain ⟨x1,x2,x3,x4,rfl⟩ := four (ex_len r1)
   refine .h1<|.apE Fx.row25 Z (fun _ _ => (.tail<|.head)) Z (Rep.mk (n := 1) (c := 1) (ds := [dEx .u8 (opE 0 [])]) (m3.up u1.up) (.single (zx_rep _) Z) Z (Nat.le_refl _) (by decide)) (by omega) (by simp only [maxLen];omega) (by omega) Z (fun _ _ => (.done (by kernel_rfl)<|.done (by kernel_rfl)<|.done (by kernel_rfl)<|.done (by kernel_rfl)<|.done (by kernel_rfl)<|.done (by kernel_rfl)<|.nl)) fun news g33 cc33 hn => .yv (.indexSl Fx.sl25 Z Z (i := 0) Z (by omega) (q := 0 * 4) (by omega)) Z<|.yv (.nilCheck Z) Z<|.yv (.fieldAddr Z Fx.field208_3) Z<|.h ?_ (.h ?_ .nn)
   ·
    exact .sR Z Z Fx.size27 (Rep.one r1) (.tail<|.head) (by have := hn.len;simp only [List.length_append,List.length_cons,List.length_nil] at * <;> omega) (.yv (.fieldAddr Z Fx.field208_3)<|.yv (.nilCheck Z)<|.done (by kernel_rfl)<|.done (by kernel_rfl)<|.done (by kernel_rfl)<|.done (by kernel_rfl)<|.done (by kernel_rfl)<|.done (by kernel_rfl)<|.done (by kernel_rfl)<|.nl) <|.h1<|.st (.tail<|.tail<|.head) Z Z Fx.size25 Z (nb Z) Z ((.done (by kernel_rfl)<|.done (by kernel_rfl)<|.yv (.indexSl Fx.sl25 Z Z (i := 0) Z (by omega) (q := 0 * 4) (by omega))<|.done (by kernel_rfl)<|.done (by kernel_rfl)<|.done (by kernel_rfl)<|.done (by kernel_rfl)<|.done (by kernel_rfl)<|.done (by kernel_rfl)<|.nl))<|.fe<|.tN<|.me (a1,some ⟨g33,0,none⟩,cc33,setsL ([] ++ news) (0 * 4) [x1,x2,x3,x4],H1) trivial ⟨rfl,rfl,rfl,trivial⟩ (fun _ s => (s.pickT (hd := [_,_,_]) (tl := bs) (hd' := [_,_,_]) [1,0,2] Z Z)) ⟨hv1,(u3.trans u1),row_put (ds := []) RepZ.nil hn r1 Z Z⟩
   exact .st (.tail<|.tail<|.head) Z Z Fx.size25 Z (nb Z) Z ((.done (by kernel_rfl)<|.done (by kernel_rfl)<|.yv (.indexSl Fx.sl25 Z Z (i := 0) Z (by omega) (q := 0 * 4) (by omega))<|.done (by kernel_rfl)<|.done (by kernel_rfl)<|.done (by kernel_rfl)<|.done (by kernel_rfl)<|.done (by kernel_rfl)<|.done (by kernel_rfl)<|.nl))<|.h1<|.sR Z Z Fx.size27 (Rep.one r1) (.tail<|.head) (by have := hn.len;simp only [List.length_append,List.length_cons,List.length_nil] at * <;> omega) (.yv (.fieldAddr Z Fx.field208_3)<|.yv (.nilCheck Z)<|.done (by kernel_rfl)<|.done (by kernel_rfl)<|.done (by kernel_rfl)<|.done (by kernel_rfl)<|.done (by kernel_rfl)<|.done (by kernel_rfl)<|.done (by kernel_rfl)<|.nl) <|.fe<|.tN<|.me (a1,some ⟨g33,0,none⟩,cc33,setsL ([] ++ news) (0 * 4) [x1,x2,x3,x4],H1) trivial ⟨rfl,rfl,rfl,trivial⟩ (fun _ s => (s.pickT (hd := [_,_,_]) (tl := bs) (hd' := [_,_,_]) [1,0,2] Z Z)) ⟨hv1,(u3.trans u1),row_put (ds := []) RepZ.nil hn r1 Z Z⟩
  obtain ⟨e6,p6,c6,xs6,H6⟩ := z
  obtain ⟨hv6,u6,hz6⟩ := hC
  dsimp only at hv6 u6 hz6 ⊢
  have K6 := K.up u6.up
  have hx6 := hz6.len
  refine .rg<|.m Z Z<|.cs (X := Unit) Fx.call73 Z (fun W s => expect_nd K6 ((Suf.ex 0).up ((Suf.nd _).up (Suf.nm.up (Suf.tl hq)))) [93] (by decide +kernel) (s.pickT (hd := [_,_,_]) (tl := bs) (hd' := [_,_,_]) [1,0,2] Z Z)) Z fun _ _ => .nt<|.sq<|.sr<|.m Z Z<|.nt<|.cd Z (fun h39 => ?_) (fun h39 => ?_)
  ·skip
   refine .sr<|.m Z Z<|.yv (.nilCheck Z) Z<|.yv (.fieldAddr Z Fx.field208_0) Z<|.st (.tail<|.tail<|.head) Z Z Fx.size206 Z (nb Z) Z<|.nt<|.rt<|.tR<|?_
   refine Sx.retN (.inl rfl) rfl .nil rfl fun W s => ⟨(3,nm,[e6],1,p6,c6,xs6,H6),⟨by unfold gChg;exact vl_altT h16 (vl_bind (n := n) hnm.1 (vl_bind (n := n) (x := ()) vl_unit (vl_bind (n := n) hv6 (vl_bind (n := n) (x := ()) vl_unit vl_pure)))),hnm.2,rfl,u6,hz6⟩,rfl,?_⟩
   rw [show up n gChg q = up n (gNd [93]) (up n (gX 0) (up n (gNd [91]) (up n gNm q.tl))) by unfold gChg;rw [up_altT h16,up_bind Cz.nm hnm.1,up_bind (x := ()) (Cz.nd _) vl_unit,up_bind (Cz.ex _) hv6,up_bind (x := ()) (Cz.nd _) vl_unit,up_pure]]
   exact s.pickT (hd := [_,_,_]) (tl := bs) (hd' := [_,_,_]) [1,0,2] rfl rfl
  exact absurd (h39.symm.trans h16) (by decide)
 rw [acS_F h16] at hnm ⊢
 refine .gd Z Z<|.yv (.move Z) Z<|.gd Z Z<|.cs (X := Unit) Fx.call118 Z (fun W s => is_ac K (Suf.nm.up hq) [91] (by decide +kernel) (s.pickT (hd := [_,_,_]) (tl := bs) (hd' := [_,_,_]) [0,1,2] Z Z)) Z fun _ _ => .yv (.pickF Z Z) Z<|.nt<|.cd Z (fun h19 => ?_) (fun h19 => ?_)
 ·skip
  refine .sr<|.m Z Z<|.yv (.nilCheck Z) Z<|.yv (.fieldAddr Z Fx.field208_0) Z<|.st (.tail<|.tail<|.head) Z Z Fx.size206 Z (nb Z) Z<|.ns<|.m Z Z<|.cs (X := Unit) Fx.call73 Z (fun W s => expect_T K (Suf.nm.up hq) [91] (by decide +kernel) h19 (s.pickT (hd := [_,_,_]) (tl := bs) (hd' := [_,_,_]) [0,1,2] Z Z)) Z fun _ _ => .nt<|.cu (X := Ex × Option Addr × Nat × List Value × Hp) [(0,_),(1,_),(4,_)] ⟨rfl,rfl,rfl,trivial⟩ (fun z => []) (fun z => z.2.2.2.2) (fun z => (.row 27 4 (.slice z.2.1 1 z.2.2.1) 1 z.2.2.2.1 :: .box b [.slice tp ts.length tc,.int .i64 (posN ts (up n (gX 0) (up n gNm q).tl) : Nat),.int .i64 (n : Nat),t0,t1,t2,t3,.int .i64 ((up n (gX 0) (up n gNm q).tl).o : Nat),.int .i64 ((up n (gX 0) (up n gNm q).tl).e : Nat)] 99 :: .box bS [.int .u8 2,strV nm,c2,.slice z.2.1 1 z.2.2.1,c4,c5] 208 :: bs)) (fun z => vl (gX 0) (up n gNm q).tl z.1 ∧ HUp w0 H z.2.2.2.2 ∧ RepZ z.2.2.2.2 4 [dEx .u8 z.1] z.2.2.2.1) ?_ fun z hC => ?_
  ·
   refine .fx (p := .light _ _ (.light _ _ (.light _ _ (.light _ _ (.light _ _ (.light _ _ (.alt _ _ _ (.alt _ _ _ (.alt _ _ _ (.light _ _ (.light _ _ (.light _ _ (.alt _ _ _ (.alt _ _ _ (.done) (.no)) (.alt _ _ _ (.alt _ _ _ (.done) (.no)) (.no)))))) (.no)) (.no)) (.alt _ _ _ (.alt _ _ _ (.alt _ _ _ (.light _ _ (.light _ _ (.light _ _ (.alt _ _ _ (.alt _ _ _ (.done) (.no)) (.alt _ _ _ (.alt _ _ _ (.done) (.no)) (.no)))))) (.no)) (.no)) (.no))))))))) 14 (.light 0 (.light 1 (.light 2 (.light 3 (.light 4 (.light 6 (.alt 5 2 (.alt 7 0 (.alt 8 2 (.light 9 (.light 11 (.light 12 (.alt 10 2 (.alt 13 2 (.done) (.no)) (.alt 13 2 (.alt 10 2 (.done) (.no)) (.no)))))) (.no)) (.no)) (.alt 7 0 (.alt 5 2 (.alt 8 2 (.light 9 (.light 11 (.light 12 (.alt 10 2 (.alt 13 2 (.done) (.no)) (.alt 13 2 (.alt 10 2 (.done) (.no)) (.no)))))) (.no)) (.no)) (.no))))))))) (by kernel_rfl) (by kernel_rfl) Z<|.m Z Z<|.yv (.nilCheck Z) Z<|.yv (.fieldAddr Z Fx.field208_3) Z<|.yv (.load Z Fx.agg25 (.tail _<|.tail _<|.head _) Z) Z<|.m Z Z<|.yv (.lenSl Fx.sl25 Z) Z<|.h ?_ (.h ?_ .nn)
   ·
    refine .c3 (X := Ex × List Value × Hp) Fx.call23 Z (fun W s => expr_all K (Suf.tl (Suf.nm.up hq)) (s.pickT (hd := [_,_,_]) (tl := bs) (hd' := [_,_,_]) [0,1,2] Z Z)) Z (fun _ _ => (.yv (.lenSl Fx.sl25 Z)<|.done (by kernel_rfl)<|.yv (.load Z Fx.agg25 (.tail _<|.tail _<|.head _) Z)<|.yv (.fieldAddr Z Fx.field208_3)<|.yv (.nilCheck Z)<|.yv (.move Z)<|.nl)) fun z1 hz1 => ?_
    obtain ⟨a1,c1,H1⟩ := z1
    obtain ⟨hv1,u1,r1⟩ := hz1
    dsimp only at hv1 u1 r1 ⊢
    obtain ⟨x1,x2,x3,x4,rfl⟩ := four (ex_len r1)
    refine .h1<|.blF Z (Fx.bsl25_1 _ _ _ _) Z fun b32 H3 u3 m3 => .h1<|.apE Fx.row25 Z (fun _ _ => (.tail<|.head)) Z (Rep.mk (n := 1) (c := 1) (ds := [dEx .u8 (opE 0 [])]) m3 (.single (zx_rep _) Z) Z (Nat.le_refl _) (by decide)) (by omega) (by simp only [maxLen];omega) (by omega) Z (fun _ _ => (.done (by kernel_rfl)<|.done (by kernel_rfl)<|.done (by kernel_rfl)<|.done (by kernel_rfl)<|.done (by kernel_rfl)<|.done (by kernel_rfl)<|.nl)) fun news g33 cc33 hn => .yv (.indexSl Fx.sl25 Z Z (i := 0) Z (by omega) (q := 0 * 4) (by omega)) Z<|.yv (.nilCheck Z) Z<|.yv (.fieldAddr Z Fx.field208_3) Z<|.h ?_ (.h ?_ .nn)
    ·
     exact .sR Z Z Fx.size27 (Rep.one r1) (.tail<|.head) (by have := hn.len;simp only [List.length_append,List.length_cons,List.length_nil] at * <;> omega) (.yv (.fieldAddr Z Fx.field208_3)<|.yv (.nilCheck Z)<|.done (by kernel_rfl)<|.done (by kernel_rfl)<|.done (by kernel_rfl)<|.done (by kernel_rfl)<|.done (by kernel_rfl)<|.done (by kernel_rfl)<|.done (by kernel_rfl)<|.nl) <|.h1<|.st (.tail<|.tail<|.head) Z Z Fx.size25 Z (nb Z) Z ((.done (by kernel_rfl)<|.done (by kernel_rfl)<|.yv (.indexSl Fx.sl25 Z Z (i := 0) Z (by omega) (q := 0 * 4) (by omega))<|.done (by kernel_rfl)<|.done (by kernel_rfl)<|.done (by kernel_rfl)<|.done (by kernel_rfl)<|.done (by kernel_rfl)<|.done (by kernel_rfl)<|.nl))<|.fe<|.tN<|.me (a1,some ⟨g33,0,none⟩,cc33,setsL ([] ++ news) (0 * 4) [x1,x2,x3,x4],H3) trivial ⟨rfl,rfl,rfl,trivial⟩ (fun _ s => (s.pickT (hd := [_,_,_]) (tl := bs) (hd' := [_,_,_]) [1,0,2] Z Z)) ⟨hv1,(u1.trans u3),row_put (ds := []) RepZ.nil hn (r1.up u3.up) Z Z⟩
    exact .st (.tail<|.tail<|.head) Z Z Fx.size25 Z (nb Z) Z ((.done (by kernel_rfl)<|.done (by kernel_rfl)<|.yv (.indexSl Fx.sl25 Z Z (i := 0) Z (by omega) (q := 0 * 4) (by omega))<|.done (by kernel_rfl)<|.done (by kernel_rfl)<|.done (by kernel_rfl)<|.done (by kernel_rfl)<|.done (by kernel_rfl)<|.done (by kernel_rfl)<|.nl))<|.h1<|.sR Z Z Fx.size27 (Rep.one r1) (.tail<|.head) (by have := hn.len;simp only [List.length_append,List.length_cons,List.length_nil] at * <;> omega) (.yv (.fieldAddr Z Fx.field208_3)<|.yv (.nilCheck Z)<|.done (by kernel_rfl)<|.done (by kernel_rfl)<|.done (by kernel_rfl)<|.done (by kernel_rfl)<|.done (by kernel_rfl)<|.done (by kernel_rfl)<|.done (by kernel_rfl)<|.nl) <|.fe<|.tN<|.me (a1,some ⟨g33,0,none⟩,cc33,setsL ([] ++ news) (0 * 4) [x1,x2,x3,x4],H3) trivial ⟨rfl,rfl,rfl,trivial⟩ (fun _ s => (s.pickT (hd := [_,_,_]) (tl := bs) (hd' := [_,_,_]) [1,0,2] Z Z)) ⟨hv1,(u1.trans u3),row_put (ds := []) RepZ.nil hn (r1.up u3.up) Z Z⟩
   refine .blF Z (Fx.bsl25_1 _ _ _ _) Z fun b32 H3 u3 m3 => .h1<|.c3 (X := Ex × List Value × Hp) Fx.call23 Z (fun W s => expr_all (K.up u3.up) (Suf.tl (Suf.nm.up hq)) (s.pickT (hd := [_,_,_]) (tl := bs) (hd' := [_,_,_]) [0,1,2] Z Z)) Z (fun _ _ => (.yv (.lenSl Fx.sl25 Z)<|.done (by kernel_rfl)<|.yv (.load Z Fx.agg25 (.tail _<|.tail _<|.head _) Z)<|.yv (.fieldAddr Z Fx.field208_3)<|.yv (.nilCheck Z)<|.yv (.move Z)<|.nl)) fun z1 hz1 => ?_
   obtain ⟨a1,c1,H1⟩ := z1
   obtain ⟨hv1,u1,r1⟩ := hz1
   dsimp only at hv1 u1 r1 ⊢
   obtain ⟨x1,x2,x3,x4,rfl⟩ := four (ex_len r1)
   refine .h1<|.apE Fx.row25 Z (fun _ _ => (.tail<|.head)) Z (Rep.mk (n := 1) (c := 1) (ds := [dEx .u8 (opE 0 [])]) (m3.up u1.up) (.single (zx_rep _) Z) Z (Nat.le_refl _) (by decide)) (by omega) (by simp only [maxLen];omega) (by omega) Z (fun _ _ => (.done (by kernel_rfl)<|.done (by kernel_rfl)<|.done (by kernel_rfl)<|.done (by kernel_rfl)<|.done (by kernel_rfl)<|.done (by kernel_rfl)<|.nl)) fun news g33 cc33 hn => .yv (.indexSl Fx.sl25 Z Z (i := 0) Z (by omega) (q := 0 * 4) (by omega)) Z<|.yv (.nilCheck Z) Z<|.yv (.fieldAddr Z Fx.field208_3) Z<|.h ?_ (.h ?_ .nn)
   ·
    exact .sR Z Z Fx.size27 (Rep.one r1) (.tail<|.head) (by have := hn.len;simp only [List.length_append,List.length_cons,List.length_nil] at * <;> omega) (.yv (.fieldAddr Z Fx.field208_3)<|.yv (.nilCheck Z)<|.done (by kernel_rfl)<|.done (by kernel_rfl)<|.done (by kernel_rfl)<|.done (by kernel_rfl)<|.done (by kernel_rfl)<|.done (by kernel_rfl)<|.done (by kernel_rfl)<|.nl) <|.h1<|.st (.tail<|.tail<|.head) Z Z Fx.size25 Z (nb Z) Z ((.done (by kernel_rfl)<|.done (by kernel_rfl)<|.yv (.indexSl Fx.sl25 Z Z (i := 0) Z (by omega) (q := 0 * 4) (by omega))<|.done (by kernel_rfl)<|.done (by kernel_rfl)<|.done (by kernel_rfl)<|.done (by kernel_rfl)<|.done (by kernel_rfl)<|.done (by kernel_rfl)<|.nl))<|.fe<|.tN<|.me (a1,some ⟨g33,0,none⟩,cc33,setsL ([] ++ news) (0 * 4) [x1,x2,x3,x4],H1) trivial ⟨rfl,rfl,rfl,trivial⟩ (fun _ s => (s.pickT (hd := [_,_,_]) (tl := bs) (hd' := [_,_,_]) [1,0,2] Z Z)) ⟨hv1,(u3.trans u1),row_put (ds := []) RepZ.nil hn r1 Z Z⟩
   exact .st (.tail<|.tail<|.head) Z Z Fx.size25 Z (nb Z) Z ((.done (by kernel_rfl)<|.done (by kernel_rfl)<|.yv (.indexSl Fx.sl25 Z Z (i := 0) Z (by omega) (q := 0 * 4) (by omega))<|.done (by kernel_rfl)<|.done (by kernel_rfl)<|.done (by kernel_rfl)<|.done (by kernel_rfl)<|.done (by kernel_rfl)<|.done (by kernel_rfl)<|.nl))<|.h1<|.sR Z Z Fx.size27 (Rep.one r1) (.tail<|.head) (by have := hn.len;simp only [List.length_append,List.length_cons,List.length_nil] at * <;> omega) (.yv (.fieldAddr Z Fx.field208_3)<|.yv (.nilCheck Z)<|.done (by kernel_rfl)<|.done (by kernel_rfl)<|.done (by kernel_rfl)<|.done (by kernel_rfl)<|.done (by kernel_rfl)<|.done (by kernel_rfl)<|.done (by kernel_rfl)<|.nl) <|.fe<|.tN<|.me (a1,some ⟨g33,0,none⟩,cc33,setsL ([] ++ news) (0 * 4) [x1,x2,x3,x4],H1) trivial ⟨rfl,rfl,rfl,trivial⟩ (fun _ s => (s.pickT (hd := [_,_,_]) (tl := bs) (hd' := [_,_,_]) [1,0,2] Z Z)) ⟨hv1,(u3.trans u1),row_put (ds := []) RepZ.nil hn r1 Z Z⟩
  obtain ⟨e6,p6,c6,xs6,H6⟩ := z
  obtain ⟨hv6,u6,hz6⟩ := hC
  dsimp only at hv6 u6 hz6 ⊢
  have K6 := K.up u6.up
  have hx6 := hz6.len
  refine .rg<|.m Z Z<|.cs (X := Unit) Fx.call73 Z (fun W s => expect_nd K6 ((Suf.ex 0).up (Suf.tl (Suf.nm.up hq))) [93] (by decide +kernel) (s.pickT (hd := [_,_,_]) (tl := bs) (hd' := [_,_,_]) [1,0,2] Z Z)) Z fun _ _ => .nt<|.sq<|.sr<|.m Z Z<|.nt<|.cd Z (fun h39 => ?_) (fun h39 => ?_)
  ·exact absurd (h39.symm.trans h16) (by decide)
  skip
  refine .sk<|.tN<|.sr<|.m Z Z<|.cs (X := Unit) Fx.call73 Z (fun W s => expect_nd K6 ((Suf.nd _).up ((Suf.ex 0).up (Suf.tl (Suf.nm.up hq)))) [61] (by decide +kernel) (s.pickT (hd := [_,_,_]) (tl := bs) (hd' := [_,_,_]) [0,1,2] Z Z)) Z fun _ _ => .nt<|.fx (p := .light _ _ (.light _ _ (.light _ _ (.light _ _ (.light _ _ (.light _ _ (.alt _ _ _ (.alt _ _ _ (.alt _ _ _ (.light _ _ (.light _ _ (.light _ _ (.alt _ _ _ (.alt _ _ _ (.done) (.no)) (.alt _ _ _ (.alt _ _ _ (.done) (.no)) (.no)))))) (.no)) (.no)) (.alt _ _ _ (.alt _ _ _ (.alt _ _ _ (.light _ _ (.light _ _ (.light _ _ (.alt _ _ _ (.alt _ _ _ (.done) (.no)) (.alt _ _ _ (.alt _ _ _ (.done) (.no)) (.no)))))) (.no)) (.no)) (.no))))))))) 14 (.light 0 (.light 1 (.light 2 (.light 3 (.light 4 (.light 6 (.alt 5 2 (.alt 7 0 (.alt 8 2 (.light 9 (.light 11 (.light 12 (.alt 10 2 (.alt 13 2 (.done) (.no)) (.alt 13 2 (.alt 10 2 (.done) (.no)) (.no)))))) (.no)) (.no)) (.alt 7 0 (.alt 5 2 (.alt 8 2 (.light 9 (.light 11 (.light 12 (.alt 10 2 (.alt 13 2 (.done) (.no)) (.alt 13 2 (.alt 10 2 (.done) (.no)) (.no)))))) (.no)) (.no)) (.no))))))))) (by kernel_rfl) (by kernel_rfl) Z<|.m Z Z<|.yv (.nilCheck Z) Z<|.yv (.fieldAddr Z Fx.field208_3) Z<|.yv (.load Z Fx.agg25 (.tail _<|.tail _<|.head _) Z) Z<|.m Z Z<|.yv (.lenSl Fx.sl25 Z) Z<|.h ?_ (.h ?_ .nn)
  ·
   refine .c3 (X := Ex × List Value × Hp) Fx.call23 Z (fun W s => expr_all K6 ((Suf.nd _).up ((Suf.nd _).up ((Suf.ex 0).up (Suf.tl (Suf.nm.up hq))))) (s.pickT (hd := [_,_,_]) (tl := bs) (hd' := [_,_,_]) [0,1,2] Z Z)) Z (fun _ _ => (.yv (.lenSl Fx.sl25 Z)<|.done (by kernel_rfl)<|.yv (.load Z Fx.agg25 (.tail _<|.tail _<|.head _) Z)<|.yv (.fieldAddr Z Fx.field208_3)<|.yv (.nilCheck Z)<|.yv (.move Z)<|.nl)) fun z1 hz1 => ?_
   obtain ⟨a15,c1,H15⟩ := z1
   obtain ⟨hv15,u15,r15⟩ := hz1
   dsimp only at hv15 u15 r15 ⊢
   obtain ⟨x15,x25,x35,x45,rfl⟩ := four (ex_len r15)
   refine .h1<|.blF Z (Fx.bsl25_1 _ _ _ _) Z fun b52 H35 u35 m35 => .h1<|.apE Fx.row25 Z (fun _ _ => (.tail<|.head)) Z (Rep.mk (n := 1) (c := 1) (ds := [dEx .u8 (opE 0 [])]) m35 (.single (zx_rep _) Z) Z (Nat.le_refl _) (by decide)) (by omega) (by simp only [maxLen];omega) (by omega) Z (fun _ _ => (.done (by kernel_rfl)<|.done (by kernel_rfl)<|.done (by kernel_rfl)<|.done (by kernel_rfl)<|.done (by kernel_rfl)<|.done (by kernel_rfl)<|.nl)) fun news5 g53 cc53 hn5 => .yv (.indexSl Fx.sl25 Z Z (i := 1) Z (by omega) (q := 1 * 4) (by omega)) Z<|.yv (.nilCheck Z) Z<|.yv (.fieldAddr Z Fx.field208_3) Z<|.h ?_ (.h ?_ .nn)
   ·
    refine .sR Z Z Fx.size27 (Rep.one r15) (.tail<|.head) (by have := hn5.len;simp only [List.length_append,List.length_cons,List.length_nil] at * <;> omega) (.yv (.fieldAddr Z Fx.field208_3)<|.yv (.nilCheck Z)<|.done (by kernel_rfl)<|.done (by kernel_rfl)<|.done (by kernel_rfl)<|.done (by kernel_rfl)<|.done (by kernel_rfl)<|.done (by kernel_rfl)<|.done (by kernel_rfl)<|.nl) <|.h1<|.st (.tail<|.tail<|.head) Z Z Fx.size25 Z (nb Z) Z ((.done (by kernel_rfl)<|.done (by kernel_rfl)<|.yv (.indexSl Fx.sl25 Z Z (i := 1) Z (by omega) (q := 1 * 4) (by omega))<|.done (by kernel_rfl)<|.done (by kernel_rfl)<|.done (by kernel_rfl)<|.done (by kernel_rfl)<|.done (by kernel_rfl)<|.done (by kernel_rfl)<|.nl))<|.fe<|?_
    refine Sx.retN (.inr rfl) rfl .nil rfl fun W s => ⟨(2,nm,[e6,a15],2,some ⟨g53,0,none⟩,cc53,setsL (xs6 ++ news5) (1 * 4) [x15,x25,x35,x45],H35),⟨by unfold gChg;exact vl_altF h16 (vl_bind (n := n) hnm.1 (vl_altT h19 (vl_bind (n := n) hv6 (vl_bind (n := n) (x := ()) vl_unit (vl_bind (n := n) (x := ()) vl_unit (vl_bind (n := n) hv15 vl_pure)))))),hnm.2,rfl,u6.trans (u15.trans u35),row_put (ds := [dEx .u8 e6]) (hz6.up (u15.trans u35).up) hn5 (r15.up u35.up) rfl rfl⟩,rfl,?_⟩
    rw [show up n gChg q = up n (gX 0) (up n (gNd [61]) (up n (gNd [93]) (up n (gX 0) (up n gNm q).tl))) by unfold gChg;rw [up_altF h16,up_bind Cz.nm hnm.1,up_altT h19,up_bind (Cz.ex _) hv6,up_bind (x := ()) (Cz.nd _) vl_unit,up_bind (x := ()) (Cz.nd _) vl_unit,up_bind (Cz.ex _) hv15,up_pure]]
    exact s.pickT (hd := [_,_,_]) (tl := bs) (hd' := [_,_,_]) [1,0,2] rfl rfl
   refine .st (.tail<|.tail<|.head) Z Z Fx.size25 Z (nb Z) Z ((.done (by kernel_rfl)<|.done (by kernel_rfl)<|.yv (.indexSl Fx.sl25 Z Z (i := 1) Z (by omega) (q := 1 * 4) (by omega))<|.done (by kernel_rfl)<|.done (by kernel_rfl)<|.done (by kernel_rfl)<|.done (by kernel_rfl)<|.done (by kernel_rfl)<|.done (by kernel_rfl)<|.nl))<|.h1<|.sR Z Z Fx.size27 (Rep.one r15) (.tail<|.head) (by have := hn5.len;simp only [List.length_append,List.length_cons,List.length_nil] at * <;> omega) (.yv (.fieldAddr Z Fx.field208_3)<|.yv (.nilCheck Z)<|.done (by kernel_rfl)<|.done (by kernel_rfl)<|.done (by kernel_rfl)<|.done (by kernel_rfl)<|.done (by kernel_rfl)<|.done (by kernel_rfl)<|.done (by kernel_rfl)<|.nl) <|.fe<|?_
   refine Sx.retN (.inr rfl) rfl .nil rfl fun W s => ⟨(2,nm,[e6,a15],2,some ⟨g53,0,none⟩,cc53,setsL (xs6 ++ news5) (1 * 4) [x15,x25,x35,x45],H35),⟨by unfold gChg;exact vl_altF h16 (vl_bind (n := n) hnm.1 (vl_altT h19 (vl_bind (n := n) hv6 (vl_bind (n := n) (x := ()) vl_unit (vl_bind (n := n) (x := ()) vl_unit (vl_bind (n := n) hv15 vl_pure)))))),hnm.2,rfl,u6.trans (u15.trans u35),row_put (ds := [dEx .u8 e6]) (hz6.up (u15.trans u35).up) hn5 (r15.up u35.up) rfl rfl⟩,rfl,?_⟩
   rw [show up n gChg q = up n (gX 0) (up n (gNd [61]) (up n (gNd [93]) (up n (gX 0) (up n gNm q).tl))) by unfold gChg;rw [up_altF h16,up_bind Cz.nm hnm.1,up_altT h19,up_bind (Cz.ex _) hv6,up_bind (x := ()) (Cz.nd _) vl_unit,up_bind (x := ()) (Cz.nd _) vl_unit,up_bind (Cz.ex _) hv15,up_pure]]
   exact s.pickT (hd := [_,_,_]) (tl := bs) (hd' := [_,_,_]) [1,0,2] rfl rfl
  refine .blF Z (Fx.bsl25_1 _ _ _ _) Z fun b52 H35 u35 m35 => .h1<|.c3 (X := Ex × List Value × Hp) Fx.call23 Z (fun W s => expr_all (K6.up u35.up) ((Suf.nd _).up ((Suf.nd _).up ((Suf.ex 0).up (Suf.tl (Suf.nm.up hq))))) (s.pickT (hd := [_,_,_]) (tl := bs) (hd' := [_,_,_]) [0,1,2] Z Z)) Z (fun _ _ => (.yv (.lenSl Fx.sl25 Z)<|.done (by kernel_rfl)<|.yv (.load Z Fx.agg25 (.tail _<|.tail _<|.head _) Z)<|.yv (.fieldAddr Z Fx.field208_3)<|.yv (.nilCheck Z)<|.yv (.move Z)<|.nl)) fun z1 hz1 => ?_
  obtain ⟨a15,c1,H15⟩ := z1
  obtain ⟨hv15,u15,r15⟩ := hz1
  dsimp only at hv15 u15 r15 ⊢
  obtain ⟨x15,x25,x35,x45,rfl⟩ := four (ex_len r15)
  refine .h1<|.apE Fx.row25 Z (fun _ _ => (.tail<|.head)) Z (Rep.mk (n := 1) (c := 1) (ds := [dEx .u8 (opE 0 [])]) (m35.up u15.up) (.single (zx_rep _) Z) Z (Nat.le_refl _) (by decide)) (by omega) (by simp only [maxLen];omega) (by omega) Z (fun _ _ => (.done (by kernel_rfl)<|.done (by kernel_rfl)<|.done (by kernel_rfl)<|.done (by kernel_rfl)<|.done (by kernel_rfl)<|.done (by kernel_rfl)<|.nl)) fun news5 g53 cc53 hn5 => .yv (.indexSl Fx.sl25 Z Z (i := 1) Z (by omega) (q := 1 * 4) (by omega)) Z<|.yv (.nilCheck Z) Z<|.yv (.fieldAddr Z Fx.field208_3) Z<|.h ?_ (.h ?_ .nn)
  ·
   refine .sR Z Z Fx.size27 (Rep.one r15) (.tail<|.head) (by have := hn5.len;simp only [List.length_append,List.length_cons,List.length_nil] at * <;> omega) (.yv (.fieldAddr Z Fx.field208_3)<|.yv (.nilCheck Z)<|.done (by kernel_rfl)<|.done (by kernel_rfl)<|.done (by kernel_rfl)<|.done (by kernel_rfl)<|.done (by kernel_rfl)<|.done (by kernel_rfl)<|.done (by kernel_rfl)<|.nl) <|.h1<|.st (.tail<|.tail<|.head) Z Z Fx.size25 Z (nb Z) Z ((.done (by kernel_rfl)<|.done (by kernel_rfl)<|.yv (.indexSl Fx.sl25 Z Z (i := 1) Z (by omega) (q := 1 * 4) (by omega))<|.done (by kernel_rfl)<|.done (by kernel_rfl)<|.done (by kernel_rfl)<|.done (by kernel_rfl)<|.done (by kernel_rfl)<|.done (by kernel_rfl)<|.nl))<|.fe<|?_
   refine Sx.retN (.inr rfl) rfl .nil rfl fun W s => ⟨(2,nm,[e6,a15],2,some ⟨g53,0,none⟩,cc53,setsL (xs6 ++ news5) (1 * 4) [x15,x25,x35,x45],H15),⟨by unfold gChg;exact vl_altF h16 (vl_bind (n := n) hnm.1 (vl_altT h19 (vl_bind (n := n) hv6 (vl_bind (n := n) (x := ()) vl_unit (vl_bind (n := n) (x := ()) vl_unit (vl_bind (n := n) hv15 vl_pure)))))),hnm.2,rfl,u6.trans (u35.trans u15),row_put (ds := [dEx .u8 e6]) (hz6.up (u35.trans u15).up) hn5 r15 rfl rfl⟩,rfl,?_⟩
   rw [show up n gChg q = up n (gX 0) (up n (gNd [61]) (up n (gNd [93]) (up n (gX 0) (up n gNm q).tl))) by unfold gChg;rw [up_altF h16,up_bind Cz.nm hnm.1,up_altT h19,up_bind (Cz.ex _) hv6,up_bind (x := ()) (Cz.nd _) vl_unit,up_bind (x := ()) (Cz.nd _) vl_unit,up_bind (Cz.ex _) hv15,up_pure]]
   exact s.pickT (hd := [_,_,_]) (tl := bs) (hd' := [_,_,_]) [1,0,2] rfl rfl
  refine .st (.tail<|.tail<|.head) Z Z Fx.size25 Z (nb Z) Z ((.done (by kernel_rfl)<|.done (by kernel_rfl)<|.yv (.indexSl Fx.sl25 Z Z (i := 1) Z (by omega) (q := 1 * 4) (by omega))<|.done (by kernel_rfl)<|.done (by kernel_rfl)<|.done (by kernel_rfl)<|.done (by kernel_rfl)<|.done (by kernel_rfl)<|.done (by kernel_rfl)<|.nl))<|.h1<|.sR Z Z Fx.size27 (Rep.one r15) (.tail<|.head) (by have := hn5.len;simp only [List.length_append,List.length_cons,List.length_nil] at * <;> omega) (.yv (.fieldAddr Z Fx.field208_3)<|.yv (.nilCheck Z)<|.done (by kernel_rfl)<|.done (by kernel_rfl)<|.done (by kernel_rfl)<|.done (by kernel_rfl)<|.done (by kernel_rfl)<|.done (by kernel_rfl)<|.done (by kernel_rfl)<|.nl) <|.fe<|?_
  refine Sx.retN (.inr rfl) rfl .nil rfl fun W s => ⟨(2,nm,[e6,a15],2,some ⟨g53,0,none⟩,cc53,setsL (xs6 ++ news5) (1 * 4) [x15,x25,x35,x45],H15),⟨by unfold gChg;exact vl_altF h16 (vl_bind (n := n) hnm.1 (vl_altT h19 (vl_bind (n := n) hv6 (vl_bind (n := n) (x := ()) vl_unit (vl_bind (n := n) (x := ()) vl_unit (vl_bind (n := n) hv15 vl_pure)))))),hnm.2,rfl,u6.trans (u35.trans u15),row_put (ds := [dEx .u8 e6]) (hz6.up (u35.trans u15).up) hn5 r15 rfl rfl⟩,rfl,?_⟩
  rw [show up n gChg q = up n (gX 0) (up n (gNd [61]) (up n (gNd [93]) (up n (gX 0) (up n gNm q).tl))) by unfold gChg;rw [up_altF h16,up_bind Cz.nm hnm.1,up_altT h19,up_bind (Cz.ex _) hv6,up_bind (x := ()) (Cz.nd _) vl_unit,up_bind (x := ()) (Cz.nd _) vl_unit,up_bind (Cz.ex _) hv15,up_pure]]
  exact s.pickT (hd := [_,_,_]) (tl := bs) (hd' := [_,_,_]) [1,0,2] rfl rfl
 skip
 refine .sk<|.tN<|.sq<|.sr<|.m Z Z<|.nt<|.cd Z (fun h39 => ?_) (fun h39 => ?_)
 ·exact absurd (h39.symm.trans h16) (by decide)
 skip
 refine .sk<|.tN<|.sr<|.m Z Z<|.cs (X := Unit) Fx.call73 Z (fun W s => expect_nd K (Suf.nm.up hq) [61] (by decide +kernel) (s.pickT (hd := [_,_,_]) (tl := bs) (hd' := [_,_,_]) [0,1,2] Z Z)) Z fun _ _ => .nt<|.fx (p := .light _ _ (.light _ _ (.light _ _ (.light _ _ (.light _ _ (.light _ _ (.alt _ _ _ (.alt _ _ _ (.alt _ _ _ (.light _ _ (.light _ _ (.light _ _ (.alt _ _ _ (.alt _ _ _ (.done) (.no)) (.alt _ _ _ (.alt _ _ _ (.done) (.no)) (.no)))))) (.no)) (.no)) (.alt _ _ _ (.alt _ _ _ (.alt _ _ _ (.light _ _ (.light _ _ (.light _ _ (.alt _ _ _ (.alt _ _ _ (.done) (.no)) (.alt _ _ _ (.alt _ _ _ (.done) (.no)) (.no)))))) (.no)) (.no)) (.no))))))))) 14 (.light 0 (.light 1 (.light 2 (.light 3 (.light 4 (.light 6 (.alt 5 2 (.alt 7 0 (.alt 8 2 (.light 9 (.light 11 (.light 12 (.alt 10 2 (.alt 13 2 (.done) (.no)) (.alt 13 2 (.alt 10 2 (.done) (.no)) (.no)))))) (.no)) (.no)) (.alt 7 0 (.alt 5 2 (.alt 8 2 (.light 9 (.light 11 (.light 12 (.alt 10 2 (.alt 13 2 (.done) (.no)) (.alt 13 2 (.alt 10 2 (.done) (.no)) (.no)))))) (.no)) (.no)) (.no))))))))) (by kernel_rfl) (by kernel_rfl) Z<|.m Z Z<|.yv (.nilCheck Z) Z<|.yv (.fieldAddr Z Fx.field208_3) Z<|.yv (.load Z Fx.agg25 (.tail _<|.tail _<|.head _) Z) Z<|.m Z Z<|.yv (.lenSl Fx.sl25 Z) Z<|.h ?_ (.h ?_ .nn)
 ·
  refine .c3 (X := Ex × List Value × Hp) Fx.call23 Z (fun W s => expr_all K ((Suf.nd _).up (Suf.nm.up hq)) (s.pickT (hd := [_,_,_]) (tl := bs) (hd' := [_,_,_]) [0,1,2] Z Z)) Z (fun _ _ => (.yv (.lenSl Fx.sl25 Z)<|.done (by kernel_rfl)<|.yv (.load Z Fx.agg25 (.tail _<|.tail _<|.head _) Z)<|.yv (.fieldAddr Z Fx.field208_3)<|.yv (.nilCheck Z)<|.yv (.move Z)<|.nl)) fun z1 hz1 => ?_
  obtain ⟨a15,c1,H15⟩ := z1
  obtain ⟨hv15,u15,r15⟩ := hz1
  dsimp only at hv15 u15 r15 ⊢
  obtain ⟨x15,x25,x35,x45,rfl⟩ := four (ex_len r15)
  refine .h1<|.blF Z (Fx.bsl25_1 _ _ _ _) Z fun b52 H35 u35 m35 => .h1<|.apE Fx.row25 Z (fun _ _ => (.tail<|.head)) Z (Rep.mk (n := 1) (c := 1) (ds := [dEx .u8 (opE 0 [])]) m35 (.single (zx_rep _) Z) Z (Nat.le_refl _) (by decide)) (by omega) (by simp only [maxLen];omega) (by omega) Z (fun _ _ => (.done (by kernel_rfl)<|.done (by kernel_rfl)<|.done (by kernel_rfl)<|.done (by kernel_rfl)<|.done (by kernel_rfl)<|.done (by kernel_rfl)<|.nl)) fun news5 g53 cc53 hn5 => .yv (.indexSl Fx.sl25 Z Z (i := 0) Z (by omega) (q := 0 * 4) (by omega)) Z<|.yv (.nilCheck Z) Z<|.yv (.fieldAddr Z Fx.field208_3) Z<|.h ?_ (.h ?_ .nn)
  ·
   refine .sR Z Z Fx.size27 (Rep.one r15) (.tail<|.head) (by have := hn5.len;simp only [List.length_append,List.length_cons,List.length_nil] at * <;> omega) (.yv (.fieldAddr Z Fx.field208_3)<|.yv (.nilCheck Z)<|.done (by kernel_rfl)<|.done (by kernel_rfl)<|.done (by kernel_rfl)<|.done (by kernel_rfl)<|.done (by kernel_rfl)<|.done (by kernel_rfl)<|.done (by kernel_rfl)<|.nl) <|.h1<|.st (.tail<|.tail<|.head) Z Z Fx.size25 Z (nb Z) Z ((.done (by kernel_rfl)<|.done (by kernel_rfl)<|.yv (.indexSl Fx.sl25 Z Z (i := 0) Z (by omega) (q := 0 * 4) (by omega))<|.done (by kernel_rfl)<|.done (by kernel_rfl)<|.done (by kernel_rfl)<|.done (by kernel_rfl)<|.done (by kernel_rfl)<|.done (by kernel_rfl)<|.nl))<|.fe<|?_
   refine Sx.retN (.inr rfl) rfl .nil rfl fun W s => ⟨(1,nm,[a15],1,some ⟨g53,0,none⟩,cc53,setsL ([] ++ news5) (0 * 4) [x15,x25,x35,x45],H35),⟨by unfold gChg;exact vl_altF h16 (vl_bind (n := n) hnm.1 (vl_altF h19 (vl_bind (n := n) (x := ()) vl_unit (vl_bind (n := n) hv15 vl_pure)))),hnm.2,rfl,(u15.trans u35),row_put (ds := []) RepZ.nil hn5 (r15.up u35.up) rfl rfl⟩,rfl,?_⟩
   rw [show up n gChg q = up n (gX 0) (up n (gNd [61]) (up n gNm q)) by unfold gChg;rw [up_altF h16,up_bind Cz.nm hnm.1,up_altF h19,up_bind (x := ()) (Cz.nd _) vl_unit,up_bind (Cz.ex _) hv15,up_pure]]
   exact s.pickT (hd := [_,_,_]) (tl := bs) (hd' := [_,_,_]) [1,0,2] rfl rfl
  refine .st (.tail<|.tail<|.head) Z Z Fx.size25 Z (nb Z) Z ((.done (by kernel_rfl)<|.done (by kernel_rfl)<|.yv (.indexSl Fx.sl25 Z Z (i := 0) Z (by omega) (q := 0 * 4) (by omega))<|.done (by kernel_rfl)<|.done (by kernel_rfl)<|.done (by kernel_rfl)<|.done (by kernel_rfl)<|.done (by kernel_rfl)<|.done (by kernel_rfl)<|.nl))<|.h1<|.sR Z Z Fx.size27 (Rep.one r15) (.tail<|.head) (by have := hn5.len;simp only [List.length_append,List.length_cons,List.length_nil] at * <;> omega) (.yv (.fieldAddr Z Fx.field208_3)<|.yv (.nilCheck Z)<|.done (by kernel_rfl)<|.done (by kernel_rfl)<|.done (by kernel_rfl)<|.done (by kernel_rfl)<|.done (by kernel_rfl)<|.done (by kernel_rfl)<|.done (by kernel_rfl)<|.nl) <|.fe<|?_
  refine Sx.retN (.inr rfl) rfl .nil rfl fun W s => ⟨(1,nm,[a15],1,some ⟨g53,0,none⟩,cc53,setsL ([] ++ news5) (0 * 4) [x15,x25,x35,x45],H35),⟨by unfold gChg;exact vl_altF h16 (vl_bind (n := n) hnm.1 (vl_altF h19 (vl_bind (n := n) (x := ()) vl_unit (vl_bind (n := n) hv15 vl_pure)))),hnm.2,rfl,(u15.trans u35),row_put (ds := []) RepZ.nil hn5 (r15.up u35.up) rfl rfl⟩,rfl,?_⟩
  rw [show up n gChg q = up n (gX 0) (up n (gNd [61]) (up n gNm q)) by unfold gChg;rw [up_altF h16,up_bind Cz.nm hnm.1,up_altF h19,up_bind (x := ()) (Cz.nd _) vl_unit,up_bind (Cz.ex _) hv15,up_pure]]
  exact s.pickT (hd := [_,_,_]) (tl := bs) (hd' := [_,_,_]) [1,0,2] rfl rfl
 refine .blF Z (Fx.bsl25_1 _ _ _ _) Z fun b52 H35 u35 m35 => .h1<|.c3 (X := Ex × List Value × Hp) Fx.call23 Z (fun W s => expr_all (K.up u35.up) ((Suf.nd _).up (Suf.nm.up hq)) (s.pickT (hd := [_,_,_]) (tl := bs) (hd' := [_,_,_]) [0,1,2] Z Z)) Z (fun _ _ => (.yv (.lenSl Fx.sl25 Z)<|.done (by kernel_rfl)<|.yv (.load Z Fx.agg25 (.tail _<|.tail _<|.head _) Z)<|.yv (.fieldAddr Z Fx.field208_3)<|.yv (.nilCheck Z)<|.yv (.move Z)<|.nl)) fun z1 hz1 => ?_
 obtain ⟨a15,c1,H15⟩ := z1
 obtain ⟨hv15,u15,r15⟩ := hz1
 dsimp only at hv15 u15 r15 ⊢
 obtain ⟨x15,x25,x35,x45,rfl⟩ := four (ex_len r15)
 refine .h1<|.apE Fx.row25 Z (fun _ _ => (.tail<|.head)) Z (Rep.mk (n := 1) (c := 1) (ds := [dEx .u8 (opE 0 [])]) (m35.up u15.up) (.single (zx_rep _) Z) Z (Nat.le_refl _) (by decide)) (by omega) (by simp only [maxLen];omega) (by omega) Z (fun _ _ => (.done (by kernel_rfl)<|.done (by kernel_rfl)<|.done (by kernel_rfl)<|.done (by kernel_rfl)<|.done (by kernel_rfl)<|.done (by kernel_rfl)<|.nl)) fun news5 g53 cc53 hn5 => .yv (.indexSl Fx.sl25 Z Z (i := 0) Z (by omega) (q := 0 * 4) (by omega)) Z<|.yv (.nilCheck Z) Z<|.yv (.fieldAddr Z Fx.field208_3) Z<|.h ?_ (.h ?_ .nn)
 ·
  refine .sR Z Z Fx.size27 (Rep.one r15) (.tail<|.head) (by have := hn5.len;simp only [List.length_append,List.length_cons,List.length_nil] at * <;> omega) (.yv (.fieldAddr Z Fx.field208_3)<|.yv (.nilCheck Z)<|.done (by kernel_rfl)<|.done (by kernel_rfl)<|.done (by kernel_rfl)<|.done (by kernel_rfl)<|.done (by kernel_rfl)<|.done (by kernel_rfl)<|.done (by kernel_rfl)<|.nl) <|.h1<|.st (.tail<|.tail<|.head) Z Z Fx.size25 Z (nb Z) Z ((.done (by kernel_rfl)<|.done (by kernel_rfl)<|.yv (.indexSl Fx.sl25 Z Z (i := 0) Z (by omega) (q := 0 * 4) (by omega))<|.done (by kernel_rfl)<|.done (by kernel_rfl)<|.done (by kernel_rfl)<|.done (by kernel_rfl)<|.done (by kernel_rfl)<|.done (by kernel_rfl)<|.nl))<|.fe<|?_
  refine Sx.retN (.inr rfl) rfl .nil rfl fun W s => ⟨(1,nm,[a15],1,some ⟨g53,0,none⟩,cc53,setsL ([] ++ news5) (0 * 4) [x15,x25,x35,x45],H15),⟨by unfold gChg;exact vl_altF h16 (vl_bind (n := n) hnm.1 (vl_altF h19 (vl_bind (n := n) (x := ()) vl_unit (vl_bind (n := n) hv15 vl_pure)))),hnm.2,rfl,(u35.trans u15),row_put (ds := []) RepZ.nil hn5 r15 rfl rfl⟩,rfl,?_⟩
  rw [show up n gChg q = up n (gX 0) (up n (gNd [61]) (up n gNm q)) by unfold gChg;rw [up_altF h16,up_bind Cz.nm hnm.1,up_altF h19,up_bind (x := ()) (Cz.nd _) vl_unit,up_bind (Cz.ex _) hv15,up_pure]]
  exact s.pickT (hd := [_,_,_]) (tl := bs) (hd' := [_,_,_]) [1,0,2] rfl rfl
 refine .st (.tail<|.tail<|.head) Z Z Fx.size25 Z (nb Z) Z ((.done (by kernel_rfl)<|.done (by kernel_rfl)<|.yv (.indexSl Fx.sl25 Z Z (i := 0) Z (by omega) (q := 0 * 4) (by omega))<|.done (by kernel_rfl)<|.done (by kernel_rfl)<|.done (by kernel_rfl)<|.done (by kernel_rfl)<|.done (by kernel_rfl)<|.done (by kernel_rfl)<|.nl))<|.h1<|.sR Z Z Fx.size27 (Rep.one r15) (.tail<|.head) (by have := hn5.len;simp only [List.length_append,List.length_cons,List.length_nil] at * <;> omega) (.yv (.fieldAddr Z Fx.field208_3)<|.yv (.nilCheck Z)<|.done (by kernel_rfl)<|.done (by kernel_rfl)<|.done (by kernel_rfl)<|.done (by kernel_rfl)<|.done (by kernel_rfl)<|.done (by kernel_rfl)<|.done (by kernel_rfl)<|.nl) <|.fe<|?_
 refine Sx.retN (.inr rfl) rfl .nil rfl fun W s => ⟨(1,nm,[a15],1,some ⟨g53,0,none⟩,cc53,setsL ([] ++ news5) (0 * 4) [x15,x25,x35,x45],H15),⟨by unfold gChg;exact vl_altF h16 (vl_bind (n := n) hnm.1 (vl_altF h19 (vl_bind (n := n) (x := ()) vl_unit (vl_bind (n := n) hv15 vl_pure)))),hnm.2,rfl,(u35.trans u15),row_put (ds := []) RepZ.nil hn5 r15 rfl rfl⟩,rfl,?_⟩
 rw [show up n gChg q = up n (gX 0) (up n (gNd [61]) (up n gNm q)) by unfold gChg;rw [up_altF h16,up_bind Cz.nm hnm.1,up_altF h19,up_bind (x := ()) (Cz.nd _) vl_unit,up_bind (Cz.ex _) hv15,up_pure]]
 exact s.pickT (hd := [_,_,_]) (tl := bs) (hd' := [_,_,_]) [1,0,2] rfl rfl
theorem Fx.call149 : callN Tryz.prog 149 = Bool.true := by kernel_rfl
theorem Fx.call163 : callN Tryz.prog 163 = Bool.true := by kernel_rfl
theorem six {l : List Value} (h : l.length = 6) : ∃ a b c d e f,l = [a,b,c,d,e,f] := by match l,h with | [a,b,c,d,e,f],_ => exact ⟨a,b,c,d,e,f,rfl⟩
theorem sm_len {H : Hp} {k : IntKind} {s : Sm} {cs : List Value} (h : Rep H (dSm k s) cs) : cs.length = 6 := by
 obtain ⟨kd,nm,hd,ex,th,el⟩ := s
 obtain ⟨p,c,p1,c1,p2,c2,rfl,_⟩ := sm_open h
 rfl
def StC (M : Nat) : Prop := ∀ {H : Hp} {w0 W : World} {bs : List Res} {b n : Nat} {ts : List Tk} {tp : Option Addr} {tc : Nat} {t0 t1 t2 t3 : Value} {q : Sg},(_ :  Tkm H ts tp tc) → (_ : q.r <:+ ts) → q.mu < M → St H w0 (.box b [.slice tp ts.length tc,.int .i64 (posN ts q : Nat),.int .i64 (n : Nat),t0,t1,t2,t3,.int .i64 (q.o : Nat),.int .i64 (q.e : Nat)] 99 :: bs) W → Calls Tryz.prog 163 #[.pointer (some ⟨b,0,none⟩)] W fun e W' => ∃ z : Sm × List Value × Hp,(vl (gSt gB) q z.1 ∧ HUp w0 H z.2.2 ∧ Rep z.2.2 (dSm .u8 z.1) z.2.1) ∧ e = .returned (.agg z.2.1.toArray) ∧ St z.2.2 w0 (.box b [.slice tp ts.length tc,.int .i64 (posN ts (up n (gSt gB) q) : Nat),.int .i64 (n : Nat),t0,t1,t2,t3,.int .i64 ((up n (gSt gB) q).o : Nat),.int .i64 ((up n (gSt gB) q).e : Nat)] 99 :: bs) W'
def BkC (M : Nat) : Prop := ∀ {H : Hp} {w0 W : World} {bs : List Res} {b n : Nat} {ts : List Tk} {tp : Option Addr} {tc : Nat} {t0 t1 t2 t3 : Value} {q : Sg},(_ :  Tkm H ts tp tc) → (_ : q.r <:+ ts) → q.mu < M → St H w0 (.box b [.slice tp ts.length tc,.int .i64 (posN ts q : Nat),.int .i64 (n : Nat),t0,t1,t2,t3,.int .i64 (q.o : Nat),.int .i64 (q.e : Nat)] 99 :: bs) W → Calls Tryz.prog 149 #[.pointer (some ⟨b,0,none⟩)] W fun e W' => ∃ z : List Sm × Value × Hp,(vl (gBlk gB) q z.1 ∧ HUp w0 H z.2.2 ∧ Rep z.2.2 (.seq 6 (z.1.map (dSm .u8))) [z.2.1]) ∧ e = .returned (z.2.1) ∧ St z.2.2 w0 (.box b [.slice tp ts.length tc,.int .i64 (posN ts (up n (gBlk gB) q) : Nat),.int .i64 (n : Nat),t0,t1,t2,t3,.int .i64 ((up n (gBlk gB) q).o : Nat),.int .i64 ((up n (gBlk gB) q).e : Nat)] 99 :: bs) W'
theorem goB_ac {q : Sg} : goB q = (decide (q.e = 0) && !ac [125] q) := by
 unfold goB ac
 cases decide (q.e = 0) <;> simp
theorem mu_lt {α : Type} {n : Nat} {g : Pz α} {s : Sg} (h : Shs g) (hz : Cz g) (h0 : s.e = 0) : (up n g s).mu < s.mu := by
 have e1 : s.mu = s.r.length + 1 := by unfold Sg.mu;rw [if_pos h0]
 cases hg : g s.r with
 | er r c => rw [Sg.mu_er (up_ne hz hg h0),e1];omega
 | ok a r =>
  have := h _ _ _ hg
  rw [e1]
  unfold up
  rw [if_pos h0,hg]
  unfold Sg.mu
  simp only [h0,if_true]
  omega
structure BlI (n : Nat) (q : Sg) (l : List Sm) (q1 : Sg) : Prop where
 eq : up n gB q1 = up n gB q
 val : ∀ l',vl gB q1 l' → vl gB q (l ++ l')
 len : l.length + q1.mu ≤ q.mu
 er : q1.e = 0 → q.e = 0
theorem BlI.start {n : Nat} {q : Sg} : BlI n q [] q := ⟨rfl,fun _ h => h,by simp,id⟩
theorem BlI.step {n : Nat} {q q1 : Sg} {l : List Sm} {a : Sm} (h : BlI n q l q1) (hgo : goB q1 = true) (hv : vl (gSt gB) q1 a) : BlI n q (l ++ [a]) (up n (gSt gB) q1) ∧ (up n (gSt gB) q1).mu < q1.mu := by
 have h1 := mu_lt (n := n) (Shs.st Shr.b) (Cz.st Cz.b) (goB_e hgo).1
 refine ⟨⟨?_,fun l' hl' => ?_,by have := h.len;simp;omega,fun _ => h.er (goB_e hgo).1⟩,h1⟩
 ·rw [← h.eq,goB_T (n := n) hgo hv]
 ·rw [List.append_assoc]
  exact h.val _ (goB_Tv (n := n) hgo hv hl')
theorem BlI.stop {n : Nat} {q q1 : Sg} {l : List Sm} (h : BlI n q l q1) (hgo : goB q1 = false) : up n gB q = q1 ∧ vl gB q l := by
 obtain ⟨h1,h2⟩ := goB_F (n := n) hgo
 refine ⟨by rw [← h.eq,h1],?_⟩
 have := h.val [] h2
 rwa [List.append_nil] at this
theorem nd_mu {n M : Nat} {w : Str} {q q1 : Sg} {l : List Sm} (h0 : q1.e = 0) (hmu : q.mu < M + 1) (hI : BlI n (up n (gNd w) q) l q1) : q1.mu < M := by
 have h1 := hI.len
 have h2 := hI.er h0
 have h3 : q.e = 0 := by
  by_cases k : q.e = 0
  ·exact k
  ·rw [up_er k] at h2;exact absurd h2 k
 have := mu_lt (n := n) (Shs.nd w) (Cz.nd w) h3
 omega
theorem blk_up {n : Nat} {q q1 : Sg} {l : List Sm} (eS : up n gB (up n (gNd [123]) q) = q1) (hv : vl gB (up n (gNd [123]) q) l) : up n (gBlk gB) q = up n (gNd [125]) q1 := by
 unfold gBlk
 rw [up_bind (x := ()) (Cz.nd _) vl_unit,up_bind Cz.b hv,eS,up_bind (x := ()) (Cz.nd _) vl_unit,up_pure]
theorem blk_vl {n : Nat} {q : Sg} {l : List Sm} (hv : vl gB (up n (gNd [123]) q) l) : vl (gBlk gB) q l := by
 unfold gBlk
 exact vl_bind (n := n) (x := ()) vl_unit (vl_bind (n := n) hv (vl_bind (n := n) (x := ()) vl_unit vl_pure))
set_option maxRecDepth 100000 in
theorem block_st (M : Nat) (hM : M ≤ 900000) (hst : StC M) : BkC (M + 1) := by
 intro H w0 W bs b n ts tp tc t0 t1 t2 t3 q K hq hmu s
 refine Sx.enterS Tryz.func149 rfl Tryz.ntmps149 rfl s ?_
 refine .sr<|.a Z Z<|.ns<|.a Z Z<|?_
 refine Sx.row0 208 6 ?_
 refine .ns<|.m Z Z<|.cs (X := Unit) Fx.call73 Z (fun W s => expect_nd K hq [123] (by decide +kernel) (s.pickT (hd := [_,_]) (tl := bs) (hd' := [_,_]) [1,0] Z Z)) Z fun _ _ => .nt<|.sq<|.bk<|.lp (X := List Sm × Value × List Value × Hp × Sg) [(0,_)] ⟨rfl,trivial⟩ bs (fun z => [(3,z.2.1)]) (fun z => z.2.2.2.1) (fun z => [.row 208 6 z.2.1 z.1.length z.2.2.1,.box b [.slice tp ts.length tc,.int .i64 (posN ts z.2.2.2.2 : Nat),.int .i64 (n : Nat),t0,t1,t2,t3,.int .i64 (z.2.2.2.2.o : Nat),.int .i64 (z.2.2.2.2.e : Nat)] 99]) (fun z => BlI n (up n (gNd [123]) q) z.1 z.2.2.2.2 ∧ HUp w0 H z.2.2.2.1 ∧ RepZ z.2.2.2.1 6 (z.1.map (dSm .u8)) z.2.2.1 ∧ z.2.2.2.2.r <:+ ts) (fun z => z.2.2.2.2.mu) ([],.slice none 0 0,[],H,up n (gNd [123]) q) (fun _ s => (s.pickT (hd := [_,_]) (tl := bs) (hd' := [_,_]) [1,0] Z Z)) ⟨rfl,trivial⟩ ⟨BlI.start,.refl,RepZ.nil,(Suf.nd _).up hq⟩ fun z hC => ?_
 obtain ⟨l,v,xs,H1,q1⟩ := z
 obtain ⟨hI,u1,hz1,hq1⟩ := hC
 dsimp only at hI u1 hz1 hq1 ⊢
 have K1 := K.up u1.up
 have hlen := hI.len
 have hmu0 := mu_up (n := n) (s := q) (Shs.nd [123]).le (Cz.nd [123])
 refine .sq<|.sr<|.m Z Z<|.yv (.nilCheck Z) Z<|.yv (.fieldAddr Z Fx.field99_5) Z<|.yv (.load Z Fx.agg28 (.tail _<|.head _) Z) Z<|.yv (.eql Z Z) Z<|.m Z Z<|.b2 (fun h11 => ?_) (fun h11 => ?_)
 ·try simp only [dt] at h11
  have h0 : q1.e = 0 := by omega
  refine .gd Z Z<|.yv (.move Z) Z<|.gd Z Z<|.cs (X := Unit) Fx.call118 Z (fun W s => is_ac K1 hq1 [125] (by decide +kernel) (s.pickT (hd := [_,_]) (tl := bs) (hd' := [_,_]) [1,0] Z Z)) Z fun _ _ => .gd Z Z<|.yv (.not Z) Z<|.yv (.pickT Z Z) Z<|.nt<|.cd Z (fun h15 => ?_) (fun h15 => ?_)
  ·have hgo : goB q1 = true := by rw [goB_ac,decide_eq_true h0,Bool.true_and];exact h15
   refine .sk<|.tN<|.bk<|.rg<|.m Z Z<|.m Z Z<|.cs (X := Sm × List Value × Hp) Fx.call163 Z (fun W s => hst K1 hq1 (nd_mu h0 hmu hI) (s.pickT (hd := [_,_]) (tl := bs) (hd' := [_,_]) [0,1] Z Z)) Z fun z2 hz2 => ?_
   obtain ⟨a2,c2,H2⟩ := z2
   obtain ⟨hv2,u2,r2⟩ := hz2
   dsimp only at hv2 u2 r2 ⊢
   obtain ⟨x1,x2,x3,x4,x5,x6,rfl⟩ := six (sm_len r2)
   refine .bl Z (Fx.bsl159_1 _ _ _ _ _ _) Z fun b19 => ?_
   refine Sx.freezeBox fun H3 u3 m3 => ?_
   exact .apD Fx.row159 Z (fun _ _ => (.tail<|.head)) Z (Rep.mk (n := 1) (c := 1) (ds := [dSm .u8 a2]) m3 (.single (r2.up u3.up) Z) Z (Nat.le_refl _) (by decide)) (by simp only [maxLen];omega) (by omega) Z fun xs20 r20 hz20 => .a Z Z<|.nl<|.bN<|.tN<|.ag (x := (l,v,xs,H1,q1)) (l ++ [a2],r20,xs ++ xs20,H3,up n (gSt gB) q1) ⟨rfl,trivial⟩ ⟨rfl,trivial⟩ (fun _ s => by have s2 := (s.pickT (hd := [_,_]) (tl := bs) (hd' := [_,_]) [1,0] Z Z);simpa using s2) ⟨(hI.step hgo hv2).1,u1.trans (u2.trans u3),by dsimp only;rw [List.map_append];exact (hz1.up (u2.trans u3).up).app hz20,(Suf.st Suf.b).up hq1⟩ (hI.step hgo hv2).2
  have hgo : goB q1 = false := by rw [goB_ac,decide_eq_true h0,Bool.true_and];exact h15
  refine .ex<|.tE<|.tE<|.bE<|.tN<|.sr<|.m Z Z<|.cs (X := Unit) Fx.call73 Z (fun W s => expect_nd K1 hq1 [125] (by decide +kernel) (s.pickT (hd := [_,_]) (tl := bs) (hd' := [_,_]) [0,1] Z Z)) Z fun _ _ => .ns<|.m Z Z<|.a Z Z<|.nt<|.rt<|?_
  obtain ⟨eS,hvS⟩ := hI.stop hgo
  refine Sx.reSt (fun W s => s.pickT (hd := [_,_]) (tl := bs) (hd' := [_,_]) [1,0] rfl rfl) ?_
  refine Sx.freezeSeq (ds := l.map (dSm .u8)) (by rw [List.length_map]) hz1 fun H4 p4 c4 u4 e4 h4 => ?_
  exact Sx.ret1 (.inl rfl) rfl (.tmp rfl) fun W s => ⟨(l,v,H4),⟨blk_vl hvS,u1.trans u4,h4⟩,rfl,by rw [show up n (gBlk gB) q = up n (gNd [125]) q1 from blk_up eS hvS];exact s⟩
 try simp only [df] at h11
 have h0 : ¬ q1.e = 0 := by omega
 have hgo : goB q1 = false := by rw [goB_ac,decide_eq_false h0];rfl
 refine .gF Z Z Z Z<|.gF Z Z Z Z<|.gF Z Z Z Z<|.yv (.pickF Z Z) Z<|.nt<|.cF Z<|.ex<|.tE<|.tE<|.bE<|.tN<|.sr<|.m Z Z<|.cs (X := Unit) Fx.call73 Z (fun W s => expect_nd K1 hq1 [125] (by decide +kernel) (s.pickT (hd := [_,_]) (tl := bs) (hd' := [_,_]) [1,0] Z Z)) Z fun _ _ => .ns<|.m Z Z<|.a Z Z<|.nt<|.rt<|?_
 obtain ⟨eS,hvS⟩ := hI.stop hgo
 refine Sx.reSt (fun W s => s.pickT (hd := [_,_]) (tl := bs) (hd' := [_,_]) [1,0] rfl rfl) ?_
 refine Sx.freezeSeq (ds := l.map (dSm .u8)) (by rw [List.length_map]) hz1 fun H4 p4 c4 u4 e4 h4 => ?_
 exact Sx.ret1 (.inl rfl) rfl (.tmp rfl) fun W s => ⟨(l,v,H4),⟨blk_vl hvS,u1.trans u4,h4⟩,rfl,by rw [show up n (gBlk gB) q = up n (gNd [125]) q1 from blk_up eS hvS];exact s⟩
set_option maxRecDepth 100000 in
theorem oth_st (M : Nat) (hblk : BkC M) {H : Hp} {w0 W : World} {bs : List Res} {b n : Nat} {ts : List Tk} {tp : Option Addr} {tc : Nat} {t0 t1 t2 t3 : Value} {q : Sg} (K : Tkm H ts tp tc) (hq : q.r <:+ ts) (hmu : q.mu < M + 1) (s : St H w0 (.box b [.slice tp ts.length tc,.int .i64 (posN ts q : Nat),.int .i64 (n : Nat),t0,t1,t2,t3,.int .i64 (q.o : Nat),.int .i64 (q.e : Nat)] 99 :: bs) W) : Calls Tryz.prog 176 #[.pointer (some ⟨b,0,none⟩)] W fun e W' => ∃ z : List Sm × Value × Hp,(vl (gOth gB) q z.1 ∧ HUp w0 H z.2.2 ∧ Rep z.2.2 (.seq 6 (z.1.map (dSm .u8))) [z.2.1]) ∧ e = .returned (z.2.1) ∧ St z.2.2 w0 (.box b [.slice tp ts.length tc,.int .i64 (posN ts (up n (gOth gB) q) : Nat),.int .i64 (n : Nat),t0,t1,t2,t3,.int .i64 ((up n (gOth gB) q).o : Nat),.int .i64 ((up n (gOth gB) q).e : Nat)] 99 :: bs) W' := by
 refine Sx.enterS Tryz.func176 rfl Tryz.ntmps176 rfl s ?_
 refine .sr<|.a Z Z<|.nt<|.sq<|.sr<|.m Z Z<|.cs (X := Unit) Fx.call72 Z (fun W s => accept_ac K hq [101,108,115,101] (by decide +kernel) (s.pickT (hd := [_]) (tl := bs) (hd' := [_]) [0] Z Z)) Z fun _ _ => .nt<|.cd Z (fun h4 => ?_) (fun h4 => ?_)
 ·rw [acS_T h4]
  have hlt := mu_tl h4
  refine .sr<|.m Z Z<|.cs (X := List Sm × Value × Hp) Fx.call149 Z (fun W s => hblk K (Suf.tl hq) (by omega) (s.pickT (hd := [_]) (tl := bs) (hd' := [_]) [0] Z Z)) Z fun z1 hz1 => ?_
  obtain ⟨l1,v1,H1⟩ := z1
  obtain ⟨hv1,u1,r1⟩ := hz1
  dsimp only at hv1 u1 r1 ⊢
  refine .a Z Z<|.nt<|.rt<|.tR<|?_
  refine Sx.ret1 (.inl rfl) rfl (.tmp rfl) fun W s => ?_
  rw [show up n (gOth gB) q = up n (gBlk gB) q.tl by unfold gOth;rw [up_altT h4]]
  exact ⟨(l1,v1,H1),⟨by unfold gOth;exact vl_altT h4 hv1,u1,r1⟩,rfl,s.pickT (hd := [_]) (tl := bs) (hd' := [_]) [0] rfl rfl⟩
 rw [acS_F h4]
 refine .sk<|.tN<|.sr<|.m Z Z<|.cs (X := Unit) Fx.call73 Z (fun W s => expect_nd K hq [59] (by decide +kernel) (s.pickT (hd := [_]) (tl := bs) (hd' := [_]) [0] Z Z)) Z fun _ _ => .ns<|.a Z Z<|.nt<|.rt<|?_
 refine Sx.ret1 (.inl rfl) rfl (.tmp rfl) fun W s => ?_
 rw [show up n (gOth gB) q = up n (gNd [59]) q by unfold gOth;rw [up_altF h4,up_bind (x := ()) (Cz.nd _) vl_unit,up_pure]]
 exact ⟨([],.slice none 0 0,H),⟨by unfold gOth;exact vl_altF h4 (vl_bind (n := n) (x := ()) vl_unit vl_pure),.refl,Rep.empty (p := none) (c := 0) (by decide)⟩,rfl,s.pickT (hd := [_]) (tl := bs) (hd' := [_]) [0] rfl rfl⟩
theorem Fx.call158 : callN Tryz.prog 158 = Bool.true := by kernel_rfl
theorem Fx.call173 : callN Tryz.prog 173 = Bool.true := by kernel_rfl
def StR (M : Nat) : Prop := ∀ {H : Hp} {w0 W : World} {bs : List Res} {b n : Nat} {t : Str} {ts : List Tk} {tp : Option Addr} {tc : Nat} {q : Sg},(_ :  Tkr H t n ts tp tc) → (_ : q.r <:+ ts) → q.mu < M → St H w0 (.box b [strV t,.slice tp ts.length tc,.int .i64 (posN ts q : Nat),.int .i64 (q.o : Nat),.int .i64 (q.e : Nat)] 75 :: bs) W → Calls Tryz.prog 173 #[.pointer (some ⟨b,0,none⟩)] W fun e W' => ∃ z : Sm × List Value × Hp,(vl (gSt gB) q z.1 ∧ HUp w0 H z.2.2 ∧ Rep z.2.2 (dSm .i64 z.1) z.2.1) ∧ e = .returned (.agg z.2.1.toArray) ∧ St z.2.2 w0 (.box b [strV t,.slice tp ts.length tc,.int .i64 (posN ts (up n (gSt gB) q) : Nat),.int .i64 ((up n (gSt gB) q).o : Nat),.int .i64 ((up n (gSt gB) q).e : Nat)] 75 :: bs) W'
def BkR (M : Nat) : Prop := ∀ {H : Hp} {w0 W : World} {bs : List Res} {b n : Nat} {t : Str} {ts : List Tk} {tp : Option Addr} {tc : Nat} {q : Sg},(_ :  Tkr H t n ts tp tc) → (_ : q.r <:+ ts) → q.mu < M → St H w0 (.box b [strV t,.slice tp ts.length tc,.int .i64 (posN ts q : Nat),.int .i64 (q.o : Nat),.int .i64 (q.e : Nat)] 75 :: bs) W → Calls Tryz.prog 158 #[.pointer (some ⟨b,0,none⟩)] W fun e W' => ∃ z : List Sm × Value × Hp,(vl (gBlk gB) q z.1 ∧ HUp w0 H z.2.2 ∧ Rep z.2.2 (.seq 6 (z.1.map (dSm .i64))) [z.2.1]) ∧ e = .returned (z.2.1) ∧ St z.2.2 w0 (.box b [strV t,.slice tp ts.length tc,.int .i64 (posN ts (up n (gBlk gB) q) : Nat),.int .i64 ((up n (gBlk gB) q).o : Nat),.int .i64 ((up n (gBlk gB) q).e : Nat)] 75 :: bs) W'
set_option maxRecDepth 100000 in
theorem block_r (M : Nat) (hM : M ≤ 900000) (hst : StR M) : BkR (M + 1) := by
 intro H w0 W bs b n t ts tp tc q K hq hmu s
 refine Sx.enterS Tryz.func158 rfl Tryz.ntmps158 rfl s ?_
 refine .sr<|.a Z Z<|.ns<|.a Z Z<|?_
 refine Sx.row0 205 6 ?_
 refine .ns<|.m Z Z<|.cs (X := Unit) Fx.call96 Z (fun W s => need_r K hq [123] (s.pickT (hd := [_,_]) (tl := bs) (hd' := [_,_]) [1,0] Z Z)) Z fun _ _ => .nt<|.sq<|.bk<|.lp (X := List Sm × Value × List Value × Hp × Sg) [(0,_)] ⟨rfl,trivial⟩ bs (fun z => [(3,z.2.1)]) (fun z => z.2.2.2.1) (fun z => [.row 205 6 z.2.1 z.1.length z.2.2.1,.box b [strV t,.slice tp ts.length tc,.int .i64 (posN ts z.2.2.2.2 : Nat),.int .i64 (z.2.2.2.2.o : Nat),.int .i64 (z.2.2.2.2.e : Nat)] 75]) (fun z => BlI n (up n (gNd [123]) q) z.1 z.2.2.2.2 ∧ HUp w0 H z.2.2.2.1 ∧ RepZ z.2.2.2.1 6 (z.1.map (dSm .i64)) z.2.2.1 ∧ z.2.2.2.2.r <:+ ts) (fun z => z.2.2.2.2.mu) ([],.slice none 0 0,[],H,up n (gNd [123]) q) (fun _ s => (s.pickT (hd := [_,_]) (tl := bs) (hd' := [_,_]) [1,0] Z Z)) ⟨rfl,trivial⟩ ⟨BlI.start,.refl,RepZ.nil,(Suf.nd _).up hq⟩ fun z hC => ?_
 obtain ⟨l,v,xs,H1,q1⟩ := z
 obtain ⟨hI,u1,hz1,hq1⟩ := hC
 dsimp only at hI u1 hz1 hq1 ⊢
 have K1 := K.up u1.up
 have hlen := hI.len
 have hmu0 := mu_up (n := n) (s := q) (Shs.nd [123]).le (Cz.nd [123])
 refine .sq<|.sr<|.m Z Z<|.yv (.nilCheck Z) Z<|.yv (.fieldAddr Z Fx.field75_4) Z<|.yv (.load Z Fx.agg3 (.tail _<|.head _) Z) Z<|.yv (.eql Z Z) Z<|.m Z Z<|.b2 (fun h11 => ?_) (fun h11 => ?_)
 ·try simp only [dt] at h11
  have h0 : q1.e = 0 := by omega
  refine .gd Z Z<|.yv (.move Z) Z<|.gd Z Z<|.cs (X := Unit) Fx.call95 Z (fun W s => is_r K1 hq1 [125] (s.pickT (hd := [_,_]) (tl := bs) (hd' := [_,_]) [1,0] Z Z)) Z fun _ _ => .gd Z Z<|.yv (.not Z) Z<|.yv (.pickT Z Z) Z<|.nt<|.cd Z (fun h15 => ?_) (fun h15 => ?_)
  ·have hgo : goB q1 = true := by rw [goB_ac,decide_eq_true h0,Bool.true_and];exact h15
   refine .sk<|.tN<|.bk<|.rg<|.m Z Z<|.m Z Z<|.cs (X := Sm × List Value × Hp) Fx.call173 Z (fun W s => hst K1 hq1 (nd_mu h0 hmu hI) (s.pickT (hd := [_,_]) (tl := bs) (hd' := [_,_]) [0,1] Z Z)) Z fun z2 hz2 => ?_
   obtain ⟨a2,c2,H2⟩ := z2
   obtain ⟨hv2,u2,r2⟩ := hz2
   dsimp only at hv2 u2 r2 ⊢
   obtain ⟨x1,x2,x3,x4,x5,x6,rfl⟩ := six (sm_len r2)
   refine .bl Z (Fx.bsl156_1 _ _ _ _ _ _) Z fun b19 => ?_
   refine Sx.freezeBox fun H3 u3 m3 => ?_
   exact .apD Fx.row156 Z (fun _ _ => (.tail<|.head)) Z (Rep.mk (n := 1) (c := 1) (ds := [dSm .i64 a2]) m3 (.single (r2.up u3.up) Z) Z (Nat.le_refl _) (by decide)) (by simp only [maxLen];omega) (by omega) Z fun xs20 r20 hz20 => .a Z Z<|.nl<|.bN<|.tN<|.ag (x := (l,v,xs,H1,q1)) (l ++ [a2],r20,xs ++ xs20,H3,up n (gSt gB) q1) ⟨rfl,trivial⟩ ⟨rfl,trivial⟩ (fun _ s => by have s2 := (s.pickT (hd := [_,_]) (tl := bs) (hd' := [_,_]) [1,0] Z Z);simpa using s2) ⟨(hI.step hgo hv2).1,u1.trans (u2.trans u3),by dsimp only;rw [List.map_append];exact (hz1.up (u2.trans u3).up).app hz20,(Suf.st Suf.b).up hq1⟩ (hI.step hgo hv2).2
  have hgo : goB q1 = false := by rw [goB_ac,decide_eq_true h0,Bool.true_and];exact h15
  refine .ex<|.tE<|.tE<|.bE<|.tN<|.sr<|.m Z Z<|.cs (X := Unit) Fx.call96 Z (fun W s => need_r K1 hq1 [125] (s.pickT (hd := [_,_]) (tl := bs) (hd' := [_,_]) [0,1] Z Z)) Z fun _ _ => .ns<|.m Z Z<|.a Z Z<|.nt<|.rt<|?_
  obtain ⟨eS,hvS⟩ := hI.stop hgo
  refine Sx.reSt (fun W s => s.pickT (hd := [_,_]) (tl := bs) (hd' := [_,_]) [1,0] rfl rfl) ?_
  refine Sx.freezeSeq (ds := l.map (dSm .i64)) (by rw [List.length_map]) hz1 fun H4 p4 c4 u4 e4 h4 => ?_
  exact Sx.ret1 (.inl rfl) rfl (.tmp rfl) fun W s => ⟨(l,v,H4),⟨blk_vl hvS,u1.trans u4,h4⟩,rfl,by rw [show up n (gBlk gB) q = up n (gNd [125]) q1 from blk_up eS hvS];exact s⟩
 try simp only [df] at h11
 have h0 : ¬ q1.e = 0 := by omega
 have hgo : goB q1 = false := by rw [goB_ac,decide_eq_false h0];rfl
 refine .gF Z Z Z Z<|.gF Z Z Z Z<|.gF Z Z Z Z<|.yv (.pickF Z Z) Z<|.nt<|.cF Z<|.ex<|.tE<|.tE<|.bE<|.tN<|.sr<|.m Z Z<|.cs (X := Unit) Fx.call96 Z (fun W s => need_r K1 hq1 [125] (s.pickT (hd := [_,_]) (tl := bs) (hd' := [_,_]) [1,0] Z Z)) Z fun _ _ => .ns<|.m Z Z<|.a Z Z<|.nt<|.rt<|?_
 obtain ⟨eS,hvS⟩ := hI.stop hgo
 refine Sx.reSt (fun W s => s.pickT (hd := [_,_]) (tl := bs) (hd' := [_,_]) [1,0] rfl rfl) ?_
 refine Sx.freezeSeq (ds := l.map (dSm .i64)) (by rw [List.length_map]) hz1 fun H4 p4 c4 u4 e4 h4 => ?_
 exact Sx.ret1 (.inl rfl) rfl (.tmp rfl) fun W s => ⟨(l,v,H4),⟨blk_vl hvS,u1.trans u4,h4⟩,rfl,by rw [show up n (gBlk gB) q = up n (gNd [125]) q1 from blk_up eS hvS];exact s⟩
set_option maxRecDepth 100000 in
theorem oth_r (M : Nat) (hblk : BkR M) {H : Hp} {w0 W : World} {bs : List Res} {b n : Nat} {t : Str} {ts : List Tk} {tp : Option Addr} {tc : Nat} {q : Sg} (K : Tkr H t n ts tp tc) (hq : q.r <:+ ts) (hmu : q.mu < M + 1) (s : St H w0 (.box b [strV t,.slice tp ts.length tc,.int .i64 (posN ts q : Nat),.int .i64 (q.o : Nat),.int .i64 (q.e : Nat)] 75 :: bs) W) : Calls Tryz.prog 184 #[.pointer (some ⟨b,0,none⟩)] W fun e W' => ∃ z : List Sm × Value × Hp,(vl (gOth gB) q z.1 ∧ HUp w0 H z.2.2 ∧ Rep z.2.2 (.seq 6 (z.1.map (dSm .i64))) [z.2.1]) ∧ e = .returned (z.2.1) ∧ St z.2.2 w0 (.box b [strV t,.slice tp ts.length tc,.int .i64 (posN ts (up n (gOth gB) q) : Nat),.int .i64 ((up n (gOth gB) q).o : Nat),.int .i64 ((up n (gOth gB) q).e : Nat)] 75 :: bs) W' := by
 refine Sx.enterS Tryz.func184 rfl Tryz.ntmps184 rfl s ?_
 refine .sr<|.a Z Z<|.nt<|.sq<|.sr<|.m Z Z<|.cs (X := Unit) Fx.call54 Z (fun W s => take_r K hq [101,108,115,101] (s.pickT (hd := [_]) (tl := bs) (hd' := [_]) [0] Z Z)) Z fun _ _ => .nt<|.cd Z (fun h4 => ?_) (fun h4 => ?_)
 ·rw [acS_T h4]
  have hlt := mu_tl h4
  refine .sr<|.m Z Z<|.cs (X := List Sm × Value × Hp) Fx.call158 Z (fun W s => hblk K (Suf.tl hq) (by omega) (s.pickT (hd := [_]) (tl := bs) (hd' := [_]) [0] Z Z)) Z fun z1 hz1 => ?_
  obtain ⟨l1,v1,H1⟩ := z1
  obtain ⟨hv1,u1,r1⟩ := hz1
  dsimp only at hv1 u1 r1 ⊢
  refine .a Z Z<|.nt<|.rt<|.tR<|?_
  refine Sx.ret1 (.inl rfl) rfl (.tmp rfl) fun W s => ?_
  rw [show up n (gOth gB) q = up n (gBlk gB) q.tl by unfold gOth;rw [up_altT h4]]
  exact ⟨(l1,v1,H1),⟨by unfold gOth;exact vl_altT h4 hv1,u1,r1⟩,rfl,s.pickT (hd := [_]) (tl := bs) (hd' := [_]) [0] rfl rfl⟩
 rw [acS_F h4]
 refine .sk<|.tN<|.sr<|.m Z Z<|.cs (X := Unit) Fx.call96 Z (fun W s => need_r K hq [59] (s.pickT (hd := [_]) (tl := bs) (hd' := [_]) [0] Z Z)) Z fun _ _ => .ns<|.a Z Z<|.nt<|.rt<|?_
 refine Sx.ret1 (.inl rfl) rfl (.tmp rfl) fun W s => ?_
 rw [show up n (gOth gB) q = up n (gNd [59]) q by unfold gOth;rw [up_altF h4,up_bind (x := ()) (Cz.nd _) vl_unit,up_pure]]
 exact ⟨([],.slice none 0 0,H),⟨by unfold gOth;exact vl_altF h4 (vl_bind (n := n) (x := ()) vl_unit vl_pure),.refl,Rep.empty (p := none) (c := 0) (by decide)⟩,rfl,s.pickT (hd := [_]) (tl := bs) (hd' := [_]) [0] rfl rfl⟩
theorem Fx.call147 : callN Tryz.prog 147 = Bool.true := by kernel_rfl
theorem Fx.call176 : callN Tryz.prog 176 = Bool.true := by kernel_rfl
theorem Fx.call177 : callN Tryz.prog 177 = Bool.true := by kernel_rfl
theorem Fx.size118 : sizeN Tryz.prog 118 = Option.some 1 := by kernel_rfl
theorem Fx.size159 : sizeN Tryz.prog 159 = Option.some 1 := by kernel_rfl
theorem Fx.zero118 : zeroN Tryz.prog 118 = Option.some [Go.Value.nilFunc] := by kernel_rfl
theorem AddR.two {n : Nat} {q q1 : Sg} {w : Str} {l : List Ex} (h : AddR n q [w] q1 l) : q1 = up n (gX 0) (up n (gNd w) (up n (gX 0) q)) ∧ ∃ e f,l = [e,f] ∧ vl (gX 0) q e ∧ vl (gX 0) (up n (gNd w) (up n (gX 0) q)) f := by
 generalize hL : ([w] : List Str) = L at h
 cases h with
 | one hv => cases hL
 | @more L q1 l w2 f h hf =>
  have hl := congrArg List.length hL
  simp at hl
  subst hl
  simp at hL
  subst hL
  obtain ⟨rfl,e,rfl,he⟩ := AddR.nil h
  exact ⟨rfl,e,f,rfl,he,hf⟩
theorem gBind_assoc {α β γ : Type} (g : Pz α) (f : α → Pz β) (k : β → Pz γ) : gBind (gBind g f) k = gBind g fun a => gBind (f a) k := funext fun r => by
 unfold gBind
 cases g r <;> rfl
theorem gAlt_bind {α β : Type} (w : Str) (p q : Pz α) (k : α → Pz β) : gBind (gAlt w p q) k = gAlt w (gBind p k) (gBind q k) := funext fun r => by
 unfold gBind gAlt
 split <;> rfl
theorem gPure_bind {α β : Type} (a : α) (k : α → Pz β) : gBind (gPure a) k = k a := rfl
def gS : Pz Sm :=
 gAlt [105,102] (gBind (gX 0) fun e => gBind (gBlk gB) fun t => gBind (gEls gB) fun l => gPure (.mk 4 [] [] [e] t l))<|gAlt [119,104,105,108,101] (gBind (gX 0) fun e => gBind (gBlk gB) fun t => gPure (.mk 5 [] [] [e] t []))<|gAlt [115,116,111,114,101] (gBind (gX 0) fun e => gBind (gNd [61]) fun _ => gBind (gX 0) fun e2 => gBind (gOth gB) fun l => gPure (.mk 8 [] [] [e,e2] [] l))<|gAlt [102,101,116,99,104] (gBind gNm fun n => gBind (gNd [61]) fun _ => gBind (gX 0) fun e => gBind (gOth gB) fun l => gPure (.mk 9 n [] [e] [] l))<|gAlt [115,101,110,100] (gBind gNm fun n => gBind (gNd [46]) fun _ => gBind gNm fun h => gBind (gList (gX 0)) fun l => gBind (gNd [59]) fun _ => gPure (.mk 6 n h l [] []))<|gAlt [97,102,116,101,114] (gBind (gX 0) fun e => gBind (gNd [100,111]) fun _ => gBind gNm fun h => gBind (gList (gX 0)) fun l => gBind (gNd [59]) fun _ => gPure (.mk 7 [] h (e :: l) [] []))<|gAlt [115,116,111,112] (gBind (gNd [59]) fun _ => gPure (.mk 10 [] [] [] [] []))<|gBind gChg fun s => gBind (gNd [59]) fun _ => gPure s
theorem gS_eq : gSt gB = gS := by
 unfold gSt gS gChg
 simp only [gAlt_bind,gBind_assoc,gPure_bind]
 rfl
theorem Cz.chg : Cz gChg := .alt (.bind .nm fun _ => .bind (.nd _) fun _ => .bind (.ex 0) fun _ => .bind (.nd _) fun _ => .pure _) (.bind .nm fun _ => .alt (.bind (.ex 0) fun _ => .bind (.nd _) fun _ => .bind (.nd _) fun _ => .bind (.ex 0) fun _ => .pure _) (.bind (.nd _) fun _ => .bind (.ex 0) fun _ => .pure _))
theorem chg_suf : Suf gChg := .alt (.bind .nm fun _ => .bind (.nd _) fun _ => .bind (.ex 0) fun _ => .bind (.nd _) fun _ => .pure _) (.bind .nm fun _ => .alt (.bind (.ex 0) fun _ => .bind (.nd _) fun _ => .bind (.nd _) fun _ => .bind (.ex 0) fun _ => .pure _) (.bind (.nd _) fun _ => .bind (.ex 0) fun _ => .pure _))
theorem Cz.els : Cz (gEls gB) := .alt Cz.blk (.pure _)
theorem Cz.oth : Cz (gOth gB) := .alt Cz.blk (.bind (.nd _) fun _ => .pure _)
set_option maxRecDepth 100000 in
theorem statement_st (M : Nat) (hM : M ≤ 800000) (hblk : BkC M) : StC (M + 1) := by
 intro H w0 W bs b n ts tp tc t0 t1 t2 t3 q K hq hmu s
 refine Sx.enterS Tryz.func163 rfl Tryz.ntmps163 rfl s ?_
 refine .sr<|.bx Z Z Z fun b1 => .al Fx.zero208 Z fun b2 => .ns<|.al Fx.zero208 Z fun b3 => ?_
 refine Sx.row0 27 4 ?_
 refine .ns<|.yv (.mkF Z Z) Z<|.al Fx.zero118 Z fun b4 => .st .head Z Z Fx.size118 Z (nb Z) Z<|.ns<|.yv (.mkF Z Z) Z<|.a Z Z<|.nt<|.sq<|.bk<|.sr<|.yv (.load Z Fx.agg65 (.tail _<|.tail _<|.tail _<|.tail _<|.head _) Z) Z<|.cs (X := Unit) Fx.call72 Z (fun W s => accept_ac K hq [105,102] (by decide +kernel) (s.pickT (hd := [_,_,_,_,_,_]) (tl := bs) (hd' := [_,_,_,_,_,_]) [5,0,1,2,3,4] Z Z)) Z fun _ _ => .a Z Z<|.nt<|.cd Z (fun h10 => ?_) (fun h10 => ?_)
 ·rw [acS_T h10]
  have hlt := mu_tl h10
  have m1 := mu_up (n := n) (s := q.tl) (Shs.gx 0).le (Cz.ex 0)
  have m2 := mu_up (n := n) (s := up n (gX 0) q.tl) (Shs.blk Shr.b).le Cz.blk
  refine .sr<|.yv (.fieldAddr Z Fx.field208_0) Z<|.st (.tail<|.tail<|.tail<|.head) Z Z Fx.size206 Z (nb Z) Z<|.ns<|.yv (.load Z Fx.agg118 (.tail _<|.head _) Z) Z<|.sv (X := List Ex × Nat × Option Addr × Nat × List Value × Hp × Sg) (fi := []) (ca := [.pointer (some ⟨b3,0,none⟩),.pointer (some ⟨b1,0,none⟩)]) Z Fx.call174 Z (fun W s => add_st K (Suf.tl hq) b3 b1 _ _ _ _ _ [] none 0 [] [] (fun w h => by cases h) none 0 (Rep.empty (p := none) (c := 0) (by decide)) RepZ.nil (by simp) (s.pickT (hd := [_,_,_,_,_,_]) (tl := bs) (hd' := [_,_,_,_,_,_]) [2,0,3,5,1,4] Z Z)) Z fun z15 hz15 => ?_
  obtain ⟨l15,k15,p15,c15',xs15,H15,q15⟩ := z15
  obtain ⟨hR,hk15,u15,hz15,hq15⟩ := hz15
  dsimp only at hR hk15 u15 hz15 hq15 ⊢
  obtain ⟨rfl,e15,rfl,hv15⟩ := AddR.nil hR
  obtain rfl : k15 = 1 := hk15
  have K15 := K.up u15.up
  refine .ns<|.yv (.load Z Fx.agg65 (.tail _<|.tail _<|.tail _<|.head _) Z) Z<|.cs (X := List Sm × Value × Hp) Fx.call149 Z (fun W s => hblk K15 ((Suf.ex 0).up (Suf.tl hq)) (by omega) (s.pickT (hd := [_,_,_,_,_,_]) (tl := bs) (hd' := [_,_,_,_,_,_]) [1,0,2,3,4,5] Z Z)) Z fun z17 hz17 => ?_
  obtain ⟨l17,v17,H17⟩ := z17
  obtain ⟨hv17,u17,r17⟩ := hz17
  dsimp only at hv17 u17 r17 ⊢
  obtain ⟨p17,c17',e17',_⟩ := r17.sl
  simp only [List.cons.injEq,and_true] at e17'
  subst e17'
  have K17 := K15.up u17.up
  refine .yv (.fieldAddr Z Fx.field208_4) Z<|.st (.tail<|.tail<|.head) Z Z Fx.size159 Z (nb Z) Z<|.nt<|.sq<|.sr<|.yv (.load Z Fx.agg65 (.tail _<|.tail _<|.tail _<|.head _) Z) Z<|.cs (X := Unit) Fx.call72 Z (fun W s => accept_ac K17 ((Suf.blk Suf.b).up ((Suf.ex 0).up (Suf.tl hq))) [101,108,115,101] (by decide +kernel) (s.pickT (hd := [_,_,_,_,_,_]) (tl := bs) (hd' := [_,_,_,_,_,_]) [0,1,2,3,4,5] Z Z)) Z fun _ _ => .nt<|.cd Z (fun h20 => ?_) (fun h20 => ?_)
  ·rw [acS_T h20]
   have hlt2 := mu_tl h20
   refine .rg<|.yv (.load Z Fx.agg65 (.tail _<|.tail _<|.tail _<|.head _) Z) Z<|.cs (X := List Sm × Value × Hp) Fx.call149 Z (fun W s => hblk K17 (Suf.tl ((Suf.blk Suf.b).up ((Suf.ex 0).up (Suf.tl hq)))) (by omega) (s.pickT (hd := [_,_,_,_,_,_]) (tl := bs) (hd' := [_,_,_,_,_,_]) [0,1,2,3,4,5] Z Z)) Z fun z22 hz22 => ?_
   obtain ⟨l22,v22,H22⟩ := z22
   obtain ⟨hv22,u22,r22⟩ := hz22
   dsimp only at hv22 u22 r22 ⊢
   obtain ⟨p22,c22',e22',_⟩ := r22.sl
   simp only [List.cons.injEq,and_true] at e22'
   subst e22'
   have K22 := K17.up u22.up
   refine .yv (.fieldAddr Z Fx.field208_5) Z<|.st (.tail<|.tail<|.head) Z Z Fx.size159 Z (nb Z) Z<|.ns<|.yv (.loadW Z Fx.agg208 (.tail _<|.tail _<|.head _) Z) Z<|.sW (.tail<|.tail<|.tail<|.tail<|.tail<|.head) Z Z Fx.size208 (by simp [Value.oneCell',strV]) Z<|.nt<|.rt<|.bR<|.tR<|?_
   refine Sx.reSt (fun W s => s.pickT (hd := [_,_,_,_,_,_]) (tl := bs) (hd' := [_,_,_]) [1,5,0] rfl rfl) ?_
   refine Sx.freezeSeq (ds := [dEx .u8 e15]) rfl (hz15.up (u17.trans u22).up) fun HZ pZ cZ uZ eZ hZ => ?_
   refine Sx.ret1 (.inl rfl) rfl (.cell rfl Fx.agg208 (.head _) rfl) fun W s => ⟨(.mk 4 [] [] [e15] l17 l22,_,HZ),⟨(by rw [gS_eq];unfold gS;exact vl_altT h10 (vl_bind (n := n) hv15 (vl_bind (n := n) hv17 (vl_bind (n := n) (vl_altT h20 hv22) (vl_pure))))),(u15.trans (u17.trans (u22.trans uZ))),sm_shut (kd := 4) (nm := []) (hd := []) (by decide) (by decide) hZ (r17.up (u22.trans uZ).up) (r22.up uZ.up)⟩,rfl,?_⟩
   rw [show up n (gSt gB) q = (up n (gBlk gB) (up n (gBlk gB) (up n (gX 0) q.tl)).tl) from by rw [gS_eq];unfold gS;rw [up_altT h10,up_bind (Cz.ex 0) hv15,up_bind Cz.blk hv17,up_bind (g := gEls gB) (Cz.els) (vl_altT h20 hv22)];unfold gEls;rw [up_altT h20,up_pure]]
   exact s.pickT (hd := [_,_]) (tl := bs) (hd' := [_]) [1] rfl rfl
  rw [acS_F h20]
  refine .sk<|.tN<|.sr<|.yv (.loadW Z Fx.agg208 (.tail _<|.tail _<|.head _) Z) Z<|.sW (.tail<|.tail<|.tail<|.tail<|.tail<|.head) Z Z Fx.size208 (by simp [Value.oneCell',strV]) Z<|.nt<|.rt<|.bR<|.tR<|?_
  refine Sx.reSt (fun W s => s.pickT (hd := [_,_,_,_,_,_]) (tl := bs) (hd' := [_,_,_]) [1,5,0] rfl rfl) ?_
  refine Sx.freezeSeq (ds := [dEx .u8 e15]) rfl (hz15.up u17.up) fun HZ pZ cZ uZ eZ hZ => ?_
  refine Sx.ret1 (.inl rfl) rfl (.cell rfl Fx.agg208 (.head _) rfl) fun W s => ⟨(.mk 4 [] [] [e15] l17 [],_,HZ),⟨(by rw [gS_eq];unfold gS;exact vl_altT h10 (vl_bind (n := n) hv15 (vl_bind (n := n) hv17 (vl_bind (n := n) (vl_altF h20 vl_pure) (vl_pure))))),(u15.trans (u17.trans uZ)),sm_shut (kd := 4) (nm := []) (hd := []) (by decide) (by decide) hZ (r17.up uZ.up) (Rep.empty (p := none) (c := 0) (by decide))⟩,rfl,?_⟩
  rw [show up n (gSt gB) q = (up n (gBlk gB) (up n (gX 0) q.tl)) from by rw [gS_eq];unfold gS;rw [up_altT h10,up_bind (Cz.ex 0) hv15,up_bind Cz.blk hv17,up_bind (g := gEls gB) (Cz.els) (vl_altF h20 vl_pure)];unfold gEls;rw [up_altF h20,up_pure,up_pure]]
  exact s.pickT (hd := [_,_]) (tl := bs) (hd' := [_]) [1] rfl rfl
 rw [acS_F h10]
 refine .sr<|.yv (.load Z Fx.agg65 (.tail _<|.tail _<|.tail _<|.tail _<|.tail _<|.head _) Z) Z<|.cs (X := Unit) Fx.call72 Z (fun W s => accept_ac K hq [119,104,105,108,101] (by decide +kernel) (s.pickT (hd := [_,_,_,_,_,_]) (tl := bs) (hd' := [_,_,_,_,_,_]) [0,1,2,3,4,5] Z Z)) Z fun _ _ => .a Z Z<|.nt<|.cd Z (fun h25 => ?_) (fun h25 => ?_)
 ·rw [acS_T h25]
  have hlt := mu_tl h25
  have m1 := mu_up (n := n) (s := q.tl) (Shs.gx 0).le (Cz.ex 0)
  refine .sr<|.yv (.fieldAddr Z Fx.field208_0) Z<|.st (.tail<|.tail<|.tail<|.head) Z Z Fx.size206 Z (nb Z) Z<|.ns<|.yv (.load Z Fx.agg118 (.tail _<|.head _) Z) Z<|.sv (X := List Ex × Nat × Option Addr × Nat × List Value × Hp × Sg) (fi := []) (ca := [.pointer (some ⟨b3,0,none⟩),.pointer (some ⟨b1,0,none⟩)]) Z Fx.call174 Z (fun W s => add_st K (Suf.tl hq) b3 b1 _ _ _ _ _ [] none 0 [] [] (fun w h => by cases h) none 0 (Rep.empty (p := none) (c := 0) (by decide)) RepZ.nil (by simp) (s.pickT (hd := [_,_,_,_,_,_]) (tl := bs) (hd' := [_,_,_,_,_,_]) [2,0,3,5,1,4] Z Z)) Z fun z30 hz30 => ?_
  obtain ⟨l30,k30,p30,c30',xs30,H30,q30⟩ := z30
  obtain ⟨hR,hk30,u30,hz30,hq30⟩ := hz30
  dsimp only at hR hk30 u30 hz30 hq30 ⊢
  obtain ⟨rfl,e30,rfl,hv30⟩ := AddR.nil hR
  obtain rfl : k30 = 1 := hk30
  have K30 := K.up u30.up
  refine .ns<|.yv (.load Z Fx.agg65 (.tail _<|.tail _<|.tail _<|.head _) Z) Z<|.cs (X := List Sm × Value × Hp) Fx.call149 Z (fun W s => hblk K30 ((Suf.ex 0).up (Suf.tl hq)) (by omega) (s.pickT (hd := [_,_,_,_,_,_]) (tl := bs) (hd' := [_,_,_,_,_,_]) [1,0,2,3,4,5] Z Z)) Z fun z32 hz32 => ?_
  obtain ⟨l32,v32,H32⟩ := z32
  obtain ⟨hv32,u32,r32⟩ := hz32
  dsimp only at hv32 u32 r32 ⊢
  obtain ⟨p32,c32',e32',_⟩ := r32.sl
  simp only [List.cons.injEq,and_true] at e32'
  subst e32'
  have K32 := K30.up u32.up
  refine .yv (.fieldAddr Z Fx.field208_4) Z<|.st (.tail<|.tail<|.head) Z Z Fx.size159 Z (nb Z) Z<|.ns<|.yv (.loadW Z Fx.agg208 (.tail _<|.tail _<|.head _) Z) Z<|.sW (.tail<|.tail<|.tail<|.tail<|.tail<|.head) Z Z Fx.size208 (by simp [Value.oneCell',strV]) Z<|.nt<|.rt<|.bR<|.tR<|?_
  refine Sx.reSt (fun W s => s.pickT (hd := [_,_,_,_,_,_]) (tl := bs) (hd' := [_,_,_]) [1,5,0] rfl rfl) ?_
  refine Sx.freezeSeq (ds := [dEx .u8 e30]) rfl (hz30.up u32.up) fun HZ pZ cZ uZ eZ hZ => ?_
  refine Sx.ret1 (.inl rfl) rfl (.cell rfl Fx.agg208 (.head _) rfl) fun W s => ⟨(.mk 5 [] [] [e30] l32 [],_,HZ),⟨(by rw [gS_eq];unfold gS;exact vl_altF h10 (vl_altT h25 (vl_bind (n := n) hv30 (vl_bind (n := n) hv32 (vl_pure))))),(u30.trans (u32.trans uZ)),sm_shut (kd := 5) (nm := []) (hd := []) (by decide) (by decide) hZ (r32.up uZ.up) (Rep.empty (p := none) (c := 0) (by decide))⟩,rfl,?_⟩
  rw [show up n (gSt gB) q = (up n (gBlk gB) (up n (gX 0) q.tl)) from by rw [gS_eq];unfold gS;rw [up_altF h10,up_altT h25,up_bind (Cz.ex 0) hv30,up_bind Cz.blk hv32,up_pure]]
  exact s.pickT (hd := [_,_]) (tl := bs) (hd' := [_]) [1] rfl rfl
 rw [acS_F h25]
 refine .sr<|.yv (.load Z Fx.agg65 (.tail _<|.tail _<|.tail _<|.tail _<|.tail _<|.head _) Z) Z<|.cs (X := Unit) Fx.call72 Z (fun W s => accept_ac K hq [115,116,111,114,101] (by decide +kernel) (s.pickT (hd := [_,_,_,_,_,_]) (tl := bs) (hd' := [_,_,_,_,_,_]) [0,1,2,3,4,5] Z Z)) Z fun _ _ => .a Z Z<|.nt<|.cd Z (fun h35 => ?_) (fun h35 => ?_)
 ·rw [acS_T h35]
  have hlt := mu_tl h35
  have m1 := mu_up (n := n) (s := q.tl) (Shs.gx 0).le (Cz.ex 0)
  have m2 := mu_up (n := n) (s := up n (gX 0) q.tl) (Shs.nd [61]).le (Cz.nd [61])
  have m3 := mu_up (n := n) (s := up n (gNd [61]) (up n (gX 0) q.tl)) (Shs.gx 0).le (Cz.ex 0)
  refine .sr<|.yv (.fieldAddr Z Fx.field208_0) Z<|.st (.tail<|.tail<|.tail<|.head) Z Z Fx.size206 Z (nb Z) Z<|.ns<|.yv (.load Z Fx.agg118 (.tail _<|.head _) Z) Z<|.bl Z (Fx.bsl52_1 _) Z fun b40 => ?_
  refine Sx.freezeBox fun H40 u40 m40 => ?_
  have K40 := K.up u40.up
  refine .sv (X := List Ex × Nat × Option Addr × Nat × List Value × Hp × Sg) (fi := []) (ca := [.pointer (some ⟨b3,0,none⟩),.pointer (some ⟨b1,0,none⟩)]) Z Fx.call174 Z (fun W s => add_st K40 (Suf.tl hq) b3 b1 _ _ _ _ _ [] none 0 [] [[61]] (fun w h => by rw [List.mem_singleton.1 h];decide +kernel) (some ⟨b40,0,none⟩) 1 (Rep.mk (n := 1) (c := 1) (ds := [dStrL [61]]) m40 (.single (strL_shut _) Z) Z (Nat.le_refl _) (by decide)) RepZ.nil (by simp) (s.pickT (hd := [_,_,_,_,_,_]) (tl := bs) (hd' := [_,_,_,_,_,_]) [2,0,3,5,1,4] Z Z)) Z fun z41 hz41 => ?_
  obtain ⟨l41,k41,p41,c41',xs41,H41,q41⟩ := z41
  obtain ⟨hR,hk41,u41,hz41,hq41⟩ := hz41
  dsimp only at hR hk41 u41 hz41 hq41 ⊢
  obtain ⟨rfl,e41,f41,rfl,hv41,hw41⟩ := AddR.two hR
  obtain rfl : k41 = 2 := hk41
  have K41 := K40.up u41.up
  refine .ns<|.yv (.load Z Fx.agg65 (.tail _<|.tail _<|.tail _<|.head _) Z) Z<|.cs (X := List Sm × Value × Hp) Fx.call176 Z (fun W s => oth_st M hblk K41 ((Suf.ex 0).up ((Suf.nd _).up ((Suf.ex 0).up (Suf.tl hq)))) (by omega) (s.pickT (hd := [_,_,_,_,_,_]) (tl := bs) (hd' := [_,_,_,_,_,_]) [1,0,2,3,4,5] Z Z)) Z fun z43 hz43 => ?_
  obtain ⟨l43,v43,H43⟩ := z43
  obtain ⟨hv43,u43,r43⟩ := hz43
  dsimp only at hv43 u43 r43 ⊢
  obtain ⟨p43,c43',e43',_⟩ := r43.sl
  simp only [List.cons.injEq,and_true] at e43'
  subst e43'
  have K43 := K41.up u43.up
  refine .yv (.fieldAddr Z Fx.field208_5) Z<|.st (.tail<|.tail<|.head) Z Z Fx.size159 Z (nb Z) Z<|.ns<|.yv (.loadW Z Fx.agg208 (.tail _<|.tail _<|.head _) Z) Z<|.sW (.tail<|.tail<|.tail<|.tail<|.tail<|.head) Z Z Fx.size208 (by simp [Value.oneCell',strV]) Z<|.nt<|.rt<|.bR<|.tR<|?_
  refine Sx.reSt (fun W s => s.pickT (hd := [_,_,_,_,_,_]) (tl := bs) (hd' := [_,_,_]) [1,5,0] rfl rfl) ?_
  refine Sx.freezeSeq (ds := [dEx .u8 e41,dEx .u8 f41]) rfl (hz41.up u43.up) fun HZ pZ cZ uZ eZ hZ => ?_
  refine Sx.ret1 (.inl rfl) rfl (.cell rfl Fx.agg208 (.head _) rfl) fun W s => ⟨(.mk 8 [] [] [e41,f41] [] l43,_,HZ),⟨(by rw [gS_eq];unfold gS;exact vl_altF h10 (vl_altF h25 (vl_altT h35 (vl_bind (n := n) hv41 (vl_bind (n := n) (x := ()) vl_unit (vl_bind (n := n) hw41 (vl_bind (n := n) hv43 (vl_pure)))))))),(u40.trans (u41.trans (u43.trans uZ))),sm_shut (kd := 8) (nm := []) (hd := []) (by decide) (by decide) hZ (Rep.empty (p := none) (c := 0) (by decide)) (r43.up uZ.up)⟩,rfl,?_⟩
  rw [show up n (gSt gB) q = (up n (gOth gB) (up n (gX 0) (up n (gNd [61]) (up n (gX 0) q.tl)))) from by rw [gS_eq];unfold gS;rw [up_altF h10,up_altF h25,up_altT h35,up_bind (Cz.ex 0) hv41,up_bind (x := ()) (Cz.nd _) vl_unit,up_bind (Cz.ex 0) hw41,up_bind Cz.oth hv43,up_pure]]
  exact s.pickT (hd := [_,_]) (tl := bs) (hd' := [_]) [1] rfl rfl
 rw [acS_F h35]
 refine .sr<|.yv (.load Z Fx.agg65 (.tail _<|.tail _<|.tail _<|.tail _<|.tail _<|.head _) Z) Z<|.cs (X := Unit) Fx.call72 Z (fun W s => accept_ac K hq [102,101,116,99,104] (by decide +kernel) (s.pickT (hd := [_,_,_,_,_,_]) (tl := bs) (hd' := [_,_,_,_,_,_]) [0,1,2,3,4,5] Z Z)) Z fun _ _ => .a Z Z<|.nt<|.cd Z (fun h46 => ?_) (fun h46 => ?_)
 ·rw [acS_T h46]
  have hlt := mu_tl h46
  have m1 := mu_up (n := n) (s := q.tl) Shs.nm.le Cz.nm
  have m2 := mu_up (n := n) (s := up n gNm q.tl) (Shs.nd [61]).le (Cz.nd [61])
  have m3 := mu_up (n := n) (s := up n (gNd [61]) (up n gNm q.tl)) (Shs.gx 0).le (Cz.ex 0)
  refine .sr<|.yv (.load Z Fx.agg65 (.tail _<|.tail _<|.tail _<|.tail _<|.tail _<|.head _) Z) Z<|.cs (X := Str) Fx.call74 Z (fun W s => name_st K (Suf.tl hq)  (s.pickT (hd := [_,_,_,_,_,_]) (tl := bs) (hd' := [_,_,_,_,_,_]) [0,1,2,3,4,5] Z Z)) Z fun na hna => .yv (.fieldAddr Z Fx.field208_0) Z<|.st (.tail<|.tail<|.tail<|.head) Z Z Fx.size206 Z (nb Z) Z<|.yv (.fieldAddr Z Fx.field208_1) Z<|.st (.tail<|.tail<|.tail<|.head) Z Z Fx.size9 Z (nb Z) Z<|.ns<|.yv (.load Z Fx.agg65 (.tail _<|.tail _<|.tail _<|.tail _<|.tail _<|.head _) Z) Z<|.cs (X := Unit) Fx.call73 Z (fun W s => expect_nd K (Suf.nm.up (Suf.tl hq)) [61] (by decide +kernel) (s.pickT (hd := [_,_,_,_,_,_]) (tl := bs) (hd' := [_,_,_,_,_,_]) [0,1,2,3,4,5] Z Z)) Z fun _ _ => .ns<|.yv (.load Z Fx.agg118 (.tail _<|.head _) Z) Z<|.sv (X := List Ex × Nat × Option Addr × Nat × List Value × Hp × Sg) (fi := []) (ca := [.pointer (some ⟨b3,0,none⟩),.pointer (some ⟨b1,0,none⟩)]) Z Fx.call174 Z (fun W s => add_st K ((Suf.nd _).up (Suf.nm.up (Suf.tl hq))) b3 b1 _ _ _ _ _ [] none 0 [] [] (fun w h => by cases h) none 0 (Rep.empty (p := none) (c := 0) (by decide)) RepZ.nil (by simp) (s.pickT (hd := [_,_,_,_,_,_]) (tl := bs) (hd' := [_,_,_,_,_,_]) [2,0,3,5,1,4] Z Z)) Z fun z56 hz56 => ?_
  obtain ⟨l56,k56,p56,c56',xs56,H56,q56⟩ := z56
  obtain ⟨hR,hk56,u56,hz56,hq56⟩ := hz56
  dsimp only at hR hk56 u56 hz56 hq56 ⊢
  obtain ⟨rfl,e56,rfl,hv56⟩ := AddR.nil hR
  obtain rfl : k56 = 1 := hk56
  have K56 := K.up u56.up
  refine .ns<|.yv (.load Z Fx.agg65 (.tail _<|.tail _<|.tail _<|.head _) Z) Z<|.cs (X := List Sm × Value × Hp) Fx.call176 Z (fun W s => oth_st M hblk K56 ((Suf.ex 0).up ((Suf.nd _).up (Suf.nm.up (Suf.tl hq)))) (by omega) (s.pickT (hd := [_,_,_,_,_,_]) (tl := bs) (hd' := [_,_,_,_,_,_]) [1,0,2,3,4,5] Z Z)) Z fun z58 hz58 => ?_
  obtain ⟨l58,v58,H58⟩ := z58
  obtain ⟨hv58,u58,r58⟩ := hz58
  dsimp only at hv58 u58 r58 ⊢
  obtain ⟨p58,c58',e58',_⟩ := r58.sl
  simp only [List.cons.injEq,and_true] at e58'
  subst e58'
  have K58 := K56.up u58.up
  refine .yv (.fieldAddr Z Fx.field208_5) Z<|.st (.tail<|.tail<|.head) Z Z Fx.size159 Z (nb Z) Z<|.ns<|.yv (.loadW Z Fx.agg208 (.tail _<|.tail _<|.head _) Z) Z<|.sW (.tail<|.tail<|.tail<|.tail<|.tail<|.head) Z Z Fx.size208 (by simp [Value.oneCell',strV]) Z<|.nt<|.rt<|.bR<|.tR<|?_
  refine Sx.reSt (fun W s => s.pickT (hd := [_,_,_,_,_,_]) (tl := bs) (hd' := [_,_,_]) [1,5,0] rfl rfl) ?_
  refine Sx.freezeSeq (ds := [dEx .u8 e56]) rfl (hz56.up u58.up) fun HZ pZ cZ uZ eZ hZ => ?_
  refine Sx.ret1 (.inl rfl) rfl (.cell rfl Fx.agg208 (.head _) rfl) fun W s => ⟨(.mk 9 na [] [e56] [] l58,_,HZ),⟨(by rw [gS_eq];unfold gS;exact vl_altF h10 (vl_altF h25 (vl_altF h35 (vl_altT h46 (vl_bind (n := n) hna.1 (vl_bind (n := n) (x := ()) vl_unit (vl_bind (n := n) hv56 (vl_bind (n := n) hv58 (vl_pure))))))))),(u56.trans (u58.trans uZ)),sm_shut (kd := 9) (nm := na) (hd := []) hna.2 (by decide) hZ (Rep.empty (p := none) (c := 0) (by decide)) (r58.up uZ.up)⟩,rfl,?_⟩
  rw [show up n (gSt gB) q = (up n (gOth gB) (up n (gX 0) (up n (gNd [61]) (up n gNm q.tl)))) from by rw [gS_eq];unfold gS;rw [up_altF h10,up_altF h25,up_altF h35,up_altT h46,up_bind Cz.nm hna.1,up_bind (x := ()) (Cz.nd _) vl_unit,up_bind (Cz.ex 0) hv56,up_bind Cz.oth hv58,up_pure]]
  exact s.pickT (hd := [_,_]) (tl := bs) (hd' := [_]) [1] rfl rfl
 rw [acS_F h46]
 refine .sr<|.yv (.load Z Fx.agg65 (.tail _<|.tail _<|.tail _<|.tail _<|.tail _<|.head _) Z) Z<|.cs (X := Unit) Fx.call72 Z (fun W s => accept_ac K hq [115,101,110,100] (by decide +kernel) (s.pickT (hd := [_,_,_,_,_,_]) (tl := bs) (hd' := [_,_,_,_,_,_]) [0,1,2,3,4,5] Z Z)) Z fun _ _ => .a Z Z<|.nt<|.cd Z (fun h61 => ?_) (fun h61 => ?_)
 ·rw [acS_T h61]
  have hlt := mu_tl h61
  have m1 := mu_up (n := n) (s := q.tl) Shs.nm.le Cz.nm
  have m2 := mu_up (n := n) (s := up n gNm q.tl) (Shs.nd [46]).le (Cz.nd [46])
  have m3 := mu_up (n := n) (s := up n (gNd [46]) (up n gNm q.tl)) Shs.nm.le Cz.nm
  refine .sr<|.yv (.load Z Fx.agg65 (.tail _<|.tail _<|.tail _<|.tail _<|.tail _<|.head _) Z) Z<|.cs (X := Str) Fx.call74 Z (fun W s => name_st K (Suf.tl hq)  (s.pickT (hd := [_,_,_,_,_,_]) (tl := bs) (hd' := [_,_,_,_,_,_]) [0,1,2,3,4,5] Z Z)) Z fun na hna => .yv (.fieldAddr Z Fx.field208_0) Z<|.st (.tail<|.tail<|.tail<|.head) Z Z Fx.size206 Z (nb Z) Z<|.yv (.fieldAddr Z Fx.field208_1) Z<|.st (.tail<|.tail<|.tail<|.head) Z Z Fx.size9 Z (nb Z) Z<|.ns<|.yv (.load Z Fx.agg65 (.tail _<|.tail _<|.tail _<|.tail _<|.tail _<|.head _) Z) Z<|.cs (X := Unit) Fx.call73 Z (fun W s => expect_nd K (Suf.nm.up (Suf.tl hq)) [46] (by decide +kernel) (s.pickT (hd := [_,_,_,_,_,_]) (tl := bs) (hd' := [_,_,_,_,_,_]) [0,1,2,3,4,5] Z Z)) Z fun _ _ => .ns<|.yv (.load Z Fx.agg65 (.tail _<|.tail _<|.tail _<|.tail _<|.tail _<|.head _) Z) Z<|.cs (X := Str) Fx.call74 Z (fun W s => name_st K ((Suf.nd _).up (Suf.nm.up (Suf.tl hq)))  (s.pickT (hd := [_,_,_,_,_,_]) (tl := bs) (hd' := [_,_,_,_,_,_]) [0,1,2,3,4,5] Z Z)) Z fun ny hny => .yv (.fieldAddr Z Fx.field208_2) Z<|.st (.tail<|.tail<|.tail<|.head) Z Z Fx.size9 Z (nb Z) Z<|.nt<|.rg<|.yv (.load Z Fx.agg65 (.tail _<|.tail _<|.tail _<|.tail _<|.tail _<|.head _) Z) Z<|.m Z Z<|.cs (X := List Ex × Nat × Option Addr × Nat × List Value × Hp) Fx.call147 Z (fun W s => list_st K (Suf.nm.up ((Suf.nd _).up (Suf.nm.up (Suf.tl hq)))) b3 b1 b4 _ _ _ _ _ [] 0 Z none 0 [] RepZ.nil (by omega) (s.pickT (hd := [_,_,_,_,_,_]) (tl := bs) (hd' := [_,_,_,_,_,_]) [2,0,3,5,1,4] Z Z)) Z fun z75 hz75 => ?_
  obtain ⟨l75,k75,p75,c75',xs75,H75⟩ := z75
  obtain ⟨hv75,hk75,u75,hz75⟩ := hz75
  dsimp only at hv75 hk75 u75 hz75 ⊢
  have K75 := K.up u75.up
  refine .nl<|.bN<|.tN<|.sr<|.yv (.load Z Fx.agg65 (.tail _<|.tail _<|.tail _<|.head _) Z) Z<|.cs (X := Unit) Fx.call73 Z (fun W s => expect_nd K75 ((Suf.list (Suf.ex 0)).up (Suf.nm.up ((Suf.nd _).up (Suf.nm.up (Suf.tl hq))))) [59] (by decide +kernel) (s.pickT (hd := [_,_,_,_,_,_]) (tl := bs) (hd' := [_,_,_,_,_,_]) [1,0,2,3,4,5] Z Z)) Z fun _ _ => .ns<|.yv (.loadW Z Fx.agg208 (.tail _<|.tail _<|.head _) Z) Z<|.sW (.tail<|.tail<|.tail<|.tail<|.tail<|.head) Z Z Fx.size208 (by simp [Value.oneCell',strV]) Z<|.nt<|.rt<|?_
  refine Sx.reSt (fun W s => s.pickT (hd := [_,_,_,_,_,_]) (tl := bs) (hd' := [_,_,_]) [1,5,0] rfl rfl) ?_
  refine Sx.freezeSeq (ds := l75.map (dEx .u8)) (by rw [List.length_map];simpa using hk75.symm) hz75 fun HZ pZ cZ uZ eZ hZ => ?_
  refine Sx.ret1 (.inl rfl) rfl (.cell rfl Fx.agg208 (.head _) rfl) fun W s => ⟨(.mk 6 na ny l75 [] [],_,HZ),⟨(by rw [gS_eq];unfold gS;exact vl_altF h10 (vl_altF h25 (vl_altF h35 (vl_altF h46 (vl_altT h61 (vl_bind (n := n) hna.1 (vl_bind (n := n) (x := ()) vl_unit (vl_bind (n := n) hny.1 (vl_bind (n := n) hv75 (vl_bind (n := n) (x := ()) vl_unit (vl_pure))))))))))),(u75.trans uZ),sm_shut (kd := 6) (nm := na) (hd := ny) hna.2 hny.2 hZ (Rep.empty (p := none) (c := 0) (by decide)) (Rep.empty (p := none) (c := 0) (by decide))⟩,rfl,?_⟩
  rw [show up n (gSt gB) q = (up n (gNd [59]) (up n (gList (gX 0)) (up n gNm (up n (gNd [46]) (up n gNm q.tl))))) from by rw [gS_eq];unfold gS;rw [up_altF h10,up_altF h25,up_altF h35,up_altF h46,up_altT h61,up_bind Cz.nm hna.1,up_bind (x := ()) (Cz.nd _) vl_unit,up_bind Cz.nm hny.1,up_bind (Cz.list (Cz.ex 0)) hv75,up_bind (x := ()) (Cz.nd _) vl_unit,up_pure]]
  exact s.pickT (hd := [_,_]) (tl := bs) (hd' := [_]) [1] rfl rfl
 rw [acS_F h61]
 refine .sr<|.yv (.load Z Fx.agg65 (.tail _<|.tail _<|.tail _<|.tail _<|.tail _<|.head _) Z) Z<|.cs (X := Unit) Fx.call72 Z (fun W s => accept_ac K hq [97,102,116,101,114] (by decide +kernel) (s.pickT (hd := [_,_,_,_,_,_]) (tl := bs) (hd' := [_,_,_,_,_,_]) [0,1,2,3,4,5] Z Z)) Z fun _ _ => .a Z Z<|.nt<|.cd Z (fun h76 => ?_) (fun h76 => ?_)
 ·rw [acS_T h76]
  have hlt := mu_tl h76
  have m1 := mu_up (n := n) (s := q.tl) (Shs.gx 0).le (Cz.ex 0)
  have m2 := mu_up (n := n) (s := up n (gX 0) q.tl) (Shs.nd [100,111]).le (Cz.nd [100,111])
  have m3 := mu_up (n := n) (s := up n (gNd [100,111]) (up n (gX 0) q.tl)) Shs.nm.le Cz.nm
  refine .sr<|.yv (.fieldAddr Z Fx.field208_0) Z<|.st (.tail<|.tail<|.tail<|.head) Z Z Fx.size206 Z (nb Z) Z<|.ns<|.yv (.load Z Fx.agg118 (.tail _<|.head _) Z) Z<|.sv (X := List Ex × Nat × Option Addr × Nat × List Value × Hp × Sg) (fi := []) (ca := [.pointer (some ⟨b3,0,none⟩),.pointer (some ⟨b1,0,none⟩)]) Z Fx.call174 Z (fun W s => add_st K (Suf.tl hq) b3 b1 _ _ _ _ _ [] none 0 [] [] (fun w h => by cases h) none 0 (Rep.empty (p := none) (c := 0) (by decide)) RepZ.nil (by simp) (s.pickT (hd := [_,_,_,_,_,_]) (tl := bs) (hd' := [_,_,_,_,_,_]) [2,0,3,5,1,4] Z Z)) Z fun z81 hz81 => ?_
  obtain ⟨l81,k81,p81,c81',xs81,H81,q81⟩ := z81
  obtain ⟨hR,hk81,u81,hz81,hq81⟩ := hz81
  dsimp only at hR hk81 u81 hz81 hq81 ⊢
  obtain ⟨rfl,e81,rfl,hv81⟩ := AddR.nil hR
  obtain rfl : k81 = 1 := hk81
  have K81 := K.up u81.up
  refine .ns<|.yv (.load Z Fx.agg65 (.tail _<|.tail _<|.tail _<|.head _) Z) Z<|.cs (X := Unit) Fx.call73 Z (fun W s => expect_nd K81 ((Suf.ex 0).up (Suf.tl hq)) [100,111] (by decide +kernel) (s.pickT (hd := [_,_,_,_,_,_]) (tl := bs) (hd' := [_,_,_,_,_,_]) [1,0,2,3,4,5] Z Z)) Z fun _ _ => .ns<|.yv (.load Z Fx.agg65 (.tail _<|.tail _<|.tail _<|.head _) Z) Z<|.cs (X := Str) Fx.call74 Z (fun W s => name_st K81 ((Suf.nd _).up ((Suf.ex 0).up (Suf.tl hq)))  (s.pickT (hd := [_,_,_,_,_,_]) (tl := bs) (hd' := [_,_,_,_,_,_]) [0,1,2,3,4,5] Z Z)) Z fun ny hny => .yv (.fieldAddr Z Fx.field208_2) Z<|.st (.tail<|.tail<|.head) Z Z Fx.size9 Z (nb Z) Z<|.nt<|.rg<|.yv (.load Z Fx.agg65 (.tail _<|.tail _<|.tail _<|.head _) Z) Z<|.m Z Z<|.cs (X := List Ex × Nat × Option Addr × Nat × List Value × Hp) Fx.call147 Z (fun W s => list_st K81 (Suf.nm.up ((Suf.nd _).up ((Suf.ex 0).up (Suf.tl hq)))) b3 b1 b4 _ _ _ _ _ [e81] 1 Z p81 c81' xs81 hz81 (by omega) (s.pickT (hd := [_,_,_,_,_,_]) (tl := bs) (hd' := [_,_,_,_,_,_]) [1,0,2,3,4,5] Z Z)) Z fun z89 hz89 => ?_
  obtain ⟨l89,k89,p89,c89',xs89,H89⟩ := z89
  obtain ⟨hv89,hk89,u89,hz89⟩ := hz89
  dsimp only at hv89 hk89 u89 hz89 ⊢
  have K89 := K81.up u89.up
  refine .nl<|.bN<|.tN<|.sr<|.yv (.load Z Fx.agg65 (.tail _<|.tail _<|.tail _<|.head _) Z) Z<|.cs (X := Unit) Fx.call73 Z (fun W s => expect_nd K89 ((Suf.list (Suf.ex 0)).up (Suf.nm.up ((Suf.nd _).up ((Suf.ex 0).up (Suf.tl hq))))) [59] (by decide +kernel) (s.pickT (hd := [_,_,_,_,_,_]) (tl := bs) (hd' := [_,_,_,_,_,_]) [1,0,2,3,4,5] Z Z)) Z fun _ _ => .ns<|.yv (.loadW Z Fx.agg208 (.tail _<|.tail _<|.head _) Z) Z<|.sW (.tail<|.tail<|.tail<|.tail<|.tail<|.head) Z Z Fx.size208 (by simp [Value.oneCell',strV]) Z<|.nt<|.rt<|?_
  refine Sx.reSt (fun W s => s.pickT (hd := [_,_,_,_,_,_]) (tl := bs) (hd' := [_,_,_]) [1,5,0] rfl rfl) ?_
  refine Sx.freezeSeq (ds := (e81 :: l89).map (dEx .u8)) (by rw [List.length_map,List.length_cons];simp at hk89;omega) hz89 fun HZ pZ cZ uZ eZ hZ => ?_
  refine Sx.ret1 (.inl rfl) rfl (.cell rfl Fx.agg208 (.head _) rfl) fun W s => ⟨(.mk 7 [] ny (e81 :: l89) [] [],_,HZ),⟨(by rw [gS_eq];unfold gS;exact vl_altF h10 (vl_altF h25 (vl_altF h35 (vl_altF h46 (vl_altF h61 (vl_altT h76 (vl_bind (n := n) hv81 (vl_bind (n := n) (x := ()) vl_unit (vl_bind (n := n) hny.1 (vl_bind (n := n) hv89 (vl_bind (n := n) (x := ()) vl_unit (vl_pure)))))))))))),(u81.trans (u89.trans uZ)),sm_shut (kd := 7) (nm := []) (hd := ny) (by decide) hny.2 hZ (Rep.empty (p := none) (c := 0) (by decide)) (Rep.empty (p := none) (c := 0) (by decide))⟩,rfl,?_⟩
  rw [show up n (gSt gB) q = (up n (gNd [59]) (up n (gList (gX 0)) (up n gNm (up n (gNd [100,111]) (up n (gX 0) q.tl))))) from by rw [gS_eq];unfold gS;rw [up_altF h10,up_altF h25,up_altF h35,up_altF h46,up_altF h61,up_altT h76,up_bind (Cz.ex 0) hv81,up_bind (x := ()) (Cz.nd _) vl_unit,up_bind Cz.nm hny.1,up_bind (Cz.list (Cz.ex 0)) hv89,up_bind (x := ()) (Cz.nd _) vl_unit,up_pure]]
  exact s.pickT (hd := [_,_]) (tl := bs) (hd' := [_]) [1] rfl rfl
 rw [acS_F h76]
 refine .sr<|.yv (.load Z Fx.agg65 (.tail _<|.tail _<|.tail _<|.tail _<|.tail _<|.head _) Z) Z<|.cs (X := Unit) Fx.call72 Z (fun W s => accept_ac K hq [115,116,111,112] (by decide +kernel) (s.pickT (hd := [_,_,_,_,_,_]) (tl := bs) (hd' := [_,_,_,_,_,_]) [0,1,2,3,4,5] Z Z)) Z fun _ _ => .a Z Z<|.nt<|.cd Z (fun h90 => ?_) (fun h90 => ?_)
 ·rw [acS_T h90]
  have hlt := mu_tl h90
  refine .rg<|.yv (.fieldAddr Z Fx.field208_0) Z<|.st (.tail<|.tail<|.tail<|.head) Z Z Fx.size206 Z (nb Z) Z<|.nl<|.bN<|.tN<|.sr<|.yv (.load Z Fx.agg65 (.tail _<|.tail _<|.tail _<|.tail _<|.tail _<|.head _) Z) Z<|.cs (X := Unit) Fx.call73 Z (fun W s => expect_nd K (Suf.tl hq) [59] (by decide +kernel) (s.pickT (hd := [_,_,_,_,_,_]) (tl := bs) (hd' := [_,_,_,_,_,_]) [0,1,2,3,4,5] Z Z)) Z fun _ _ => .ns<|.yv (.loadW Z Fx.agg208 (.tail _<|.tail _<|.tail _<|.head _) Z) Z<|.sW (.tail<|.tail<|.tail<|.tail<|.head) Z Z Fx.size208 (by simp [Value.oneCell',strV]) Z<|.nt<|.rt<|?_
  refine Sx.reSt (fun W s => s.pickT (hd := [_,_,_,_,_,_]) (tl := bs) (hd' := [_,_,_]) [2,4,0] rfl rfl) ?_
  refine Sx.freezeSeq (ds := []) rfl RepZ.nil fun HZ pZ cZ uZ eZ hZ => ?_
  refine Sx.ret1 (.inl rfl) rfl (.cell rfl Fx.agg208 (.head _) rfl) fun W s => ⟨(.mk 10 [] [] [] [] [],_,HZ),⟨(by rw [gS_eq];unfold gS;exact vl_altF h10 (vl_altF h25 (vl_altF h35 (vl_altF h46 (vl_altF h61 (vl_altF h76 (vl_altT h90 (vl_bind (n := n) (x := ()) vl_unit (vl_pure))))))))),uZ,sm_shut (kd := 10) (nm := []) (hd := []) (by decide) (by decide) hZ (Rep.empty (p := none) (c := 0) (by decide)) (Rep.empty (p := none) (c := 0) (by decide))⟩,rfl,?_⟩
  rw [show up n (gSt gB) q = (up n (gNd [59]) q.tl) from by rw [gS_eq];unfold gS;rw [up_altF h10,up_altF h25,up_altF h35,up_altF h46,up_altF h61,up_altF h76,up_altT h90,up_bind (x := ()) (Cz.nd _) vl_unit,up_pure]]
  exact s.pickT (hd := [_,_]) (tl := bs) (hd' := [_]) [1] rfl rfl
 rw [acS_F h90]
 refine .rg<|.yv (.load Z Fx.agg65 (.tail _<|.tail _<|.tail _<|.tail _<|.tail _<|.head _) Z) Z<|.cs (X := UInt8 × Str × List Ex × Nat × Option Addr × Nat × List Value × Hp) Fx.call177 Z (fun W s => change_st K hq b3 _ _ _ _ _ none 0 (s.pickT (hd := [_,_,_,_,_,_]) (tl := bs) (hd' := [_,_,_,_,_,_]) [2,0,3,1,4,5] Z Z)) Z fun z9 hz9 => ?_
 obtain ⟨op9,nm9,l9,k9,p9,c9',xs9,H9⟩ := z9
 obtain ⟨hv9,hn9,hk9,u9,hz9⟩ := hz9
 dsimp only at hv9 hn9 hk9 u9 hz9 ⊢
 subst hk9
 have K9 := K.up u9.up
 refine .nl<|.bN<|.tN<|.sr<|.yv (.load Z Fx.agg65 (.tail _<|.tail _<|.tail _<|.tail _<|.tail _<|.head _) Z) Z<|.cs (X := Unit) Fx.call73 Z (fun W s => expect_nd K9 (chg_suf.up hq) [59] (by decide +kernel) (s.pickT (hd := [_,_,_,_,_,_]) (tl := bs) (hd' := [_,_,_,_,_,_]) [1,0,2,3,4,5] Z Z)) Z fun _ _ => .ns<|.yv (.loadW Z Fx.agg208 (.tail _<|.tail _<|.head _) Z) Z<|.sW (.tail<|.tail<|.tail<|.tail<|.head) Z Z Fx.size208 (by simp [Value.oneCell',strV]) Z<|.nt<|.rt<|?_
 refine Sx.reSt (fun W s => s.pickT (hd := [_,_,_,_,_,_]) (tl := bs) (hd' := [_,_,_]) [1,4,0] rfl rfl) ?_
 refine Sx.freezeSeq (ds := l9.map (dEx .u8)) (by rw [List.length_map]) hz9 fun HZ pZ cZ uZ eZ hZ => ?_
 refine Sx.ret1 (.inl rfl) rfl (.cell rfl Fx.agg208 (.head _) rfl) fun W s => ⟨(.mk op9 nm9 [] l9 [] [],_,HZ),⟨(by rw [gS_eq];unfold gS;exact vl_altF h10 (vl_altF h25 (vl_altF h35 (vl_altF h46 (vl_altF h61 (vl_altF h76 (vl_altF h90 (vl_bind (n := n) hv9 (vl_bind (n := n) (x := ()) vl_unit vl_pure))))))))),(u9.trans uZ),sm_shut (kd := op9) (nm := nm9) (hd := []) hn9 (by decide) hZ (Rep.empty (p := none) (c := 0) (by decide)) (Rep.empty (p := none) (c := 0) (by decide))⟩,rfl,?_⟩
 rw [show up n (gSt gB) q = (up n (gNd [59]) (up n gChg q)) from by rw [gS_eq];unfold gS;rw [up_altF h10,up_altF h25,up_altF h35,up_altF h46,up_altF h61,up_altF h76,up_altF h90,up_bind Cz.chg hv9,up_bind (x := ()) (Cz.nd _) vl_unit,up_pure]]
 exact s.pickT (hd := [_,_]) (tl := bs) (hd' := [_]) [1] rfl rfl
theorem blocks_all : ∀ M,M ≤ 800000 → StC M ∧ BkC M
 | 0,_ => ⟨fun _ _ h => absurd h (Nat.not_lt_zero _),fun _ _ h => absurd h (Nat.not_lt_zero _)⟩
 | M + 1,h => by
  obtain ⟨h1,h2⟩ := blocks_all M (by omega)
  exact ⟨statement_st M (by omega) h2,block_st M (by omega) h1⟩
theorem Fx.call183 : callN Tryz.prog 183 = Bool.true := by kernel_rfl
theorem Fx.call184 : callN Tryz.prog 184 = Bool.true := by kernel_rfl
theorem Fx.size156 : sizeN Tryz.prog 156 = Option.some 1 := by kernel_rfl
theorem Fx.bld205_0_1 (x0 : Int) (x1 : ByteArray) : buildN Tryz.prog 205 [(0,.int .i64 x0),(1,.string x1)] = some [.int .i64 x0,.string x1,.string ⟨#[]⟩,.slice none 0 0,.slice none 0 0,.slice none 0 0] := by kernel_rfl
theorem Fx.bld205_0_2 (x0 : Int) (x2 : ByteArray) : buildN Tryz.prog 205 [(0,.int .i64 x0),(2,.string x2)] = some [.int .i64 x0,.string ⟨#[]⟩,.string x2,.slice none 0 0,.slice none 0 0,.slice none 0 0] := by kernel_rfl
theorem Fx.bld205_0_3 (x0 : Int) (x3p : Option Addr) (x3n x3c : Nat) : buildN Tryz.prog 205 [(0,.int .i64 x0),(3,.slice x3p x3n x3c)] = some [.int .i64 x0,.string ⟨#[]⟩,.string ⟨#[]⟩,.slice x3p x3n x3c,.slice none 0 0,.slice none 0 0] := by kernel_rfl
set_option maxRecDepth 100000 in
theorem statement_r (M : Nat) (hM : M ≤ 600000) (hblk : BkR M) : StR (M + 1) := by
 intro H w0 W bs b n t ts tp tc q K hq hmu s
 refine Sx.enterS Tryz.func173 rfl Tryz.ntmps173 rfl s ?_
 refine .sr<|.al Fx.zero205 Z fun b2 => .nt<|.sq<|.bk<|.sr<|.m Z Z<|.cs (X := Unit) Fx.call54 Z (fun W s => take_r K hq [100,101,108,101,116,101] (s.pickT (hd := [_,_]) (tl := bs) (hd' := [_,_]) [1,0] Z Z)) Z fun _ _ => .a Z Z<|.nt<|.cd Z (fun h13 => ?_) (fun h13 => ?_)
 ·rw [acS_T h13]
  have hlt := mu_tl h13
  refine .sr<|.m Z Z<|.cs (X := Str) Fx.call97 Z (fun W s => name_r K (Suf.tl hq)  (s.pickT (hd := [_,_]) (tl := bs) (hd' := [_,_]) [0,1] Z Z)) Z fun na hna => .yv (.build Z (Fx.bld205_0_1 _ _)) Z<|.al Fx.zero205 Z fun b3 => .sW .head Z Z Fx.size205 (by simp [Value.oneCell',strV]) Z<|.ns<|.m Z Z<|.cs (X := Unit) Fx.call96 Z (fun W s => need_r K (Suf.nm.up (Suf.tl hq)) [91] (s.pickT (hd := [_,_,_]) (tl := bs) (hd' := [_,_,_]) [1,0,2] Z Z)) Z fun _ _ => .ns<|.m Z Z<|.cs (X := Ex × List Value × Hp) Fx.call26 Z (fun W s => rexpr_all K ((Suf.nd _).up (Suf.nm.up (Suf.tl hq))) (s.pickT (hd := [_,_,_]) (tl := bs) (hd' := [_,_,_]) [0,1,2] Z Z)) Z fun z22 hz22 => ?_
  obtain ⟨a22,c22,H22⟩ := z22
  obtain ⟨hv22,u22,r22⟩ := hz22
  dsimp only at hv22 u22 r22 ⊢
  obtain ⟨x1_22,x2_22,x3_22,x4_22,rfl⟩ := four (ex_len r22)
  refine .bl Z (Fx.bsl31_1 _ _ _ _) Z fun b23 => ?_
  refine Sx.freezeBox fun H23 u23 m23 => ?_
  refine .yv (.fieldAddr Z Fx.field205_3) Z<|.st (.tail<|.head) Z Z Fx.size31 Z (nb Z) Z<|.ns<|.m Z Z<|.cs (X := Unit) Fx.call96 Z (fun W s => need_r ((K.up u22.up).up u23.up) ((Suf.ex 0).up ((Suf.nd _).up (Suf.nm.up (Suf.tl hq)))) [93] (s.pickT (hd := [_,_,_]) (tl := bs) (hd' := [_,_,_]) [0,1,2] Z Z)) Z fun _ _ => .ns<|.m Z Z<|.cs (X := Unit) Fx.call96 Z (fun W s => need_r ((K.up u22.up).up u23.up) ((Suf.nd _).up ((Suf.ex 0).up ((Suf.nd _).up (Suf.nm.up (Suf.tl hq))))) [59] (s.pickT (hd := [_,_,_]) (tl := bs) (hd' := [_,_,_]) [0,1,2] Z Z)) Z fun _ _ => .ns<|.yv (.loadW Z Fx.agg205 (.tail _<|.head _) Z) Z<|.sW (.tail<|.tail<|.head) Z Z Fx.size205 (by simp [Value.oneCell',strV]) Z<|.nt<|.rt<|.bR<|.tR<|?_
  refine Sx.ret1 (.inl rfl) rfl (.cell rfl Fx.agg205 (.tail _<|.tail _<|.head _) rfl) fun W s => ⟨(.mk 3 na [] [a22] [] [],_,H23),⟨(by rw [gS_eq];unfold gS;exact vl_altF (ac_ne (w := [100,101,108,101,116,101]) (w' := [105,102]) h13 (by decide)) (vl_altF (ac_ne (w := [100,101,108,101,116,101]) (w' := [119,104,105,108,101]) h13 (by decide)) (vl_altF (ac_ne (w := [100,101,108,101,116,101]) (w' := [115,116,111,114,101]) h13 (by decide)) (vl_altF (ac_ne (w := [100,101,108,101,116,101]) (w' := [102,101,116,99,104]) h13 (by decide)) (vl_altF (ac_ne (w := [100,101,108,101,116,101]) (w' := [115,101,110,100]) h13 (by decide)) (vl_altF (ac_ne (w := [100,101,108,101,116,101]) (w' := [97,102,116,101,114]) h13 (by decide)) (vl_altF (ac_ne (w := [100,101,108,101,116,101]) (w' := [115,116,111,112]) h13 (by decide)) (vl_bind (n := n) (x := Sm.mk 3 na [] [a22] [] []) (by unfold gChg;exact vl_altT h13 (vl_bind (n := n) hna.1 (vl_bind (n := n) (x := ()) vl_unit (vl_bind (n := n) hv22 (vl_bind (n := n) (x := ()) vl_unit (vl_pure)))))) (vl_bind (n := n) (x := ()) vl_unit (vl_pure)))))))))),(u22.trans u23),sm_shut (kd := 3) (nm := na) (hd := []) hna.2 (by decide) (Rep.mk (n := 1) (c := 1) (ds := [dEx .i64 a22]) m23 (.single (r22.up u23.up) rfl) rfl (Nat.le_refl _) (by decide)) (Rep.empty (p := none) (c := 0) (by decide)) (Rep.empty (p := none) (c := 0) (by decide))⟩,rfl,?_⟩
  rw [show up n (gSt gB) q = (up n (gNd [59]) (up n (gNd [93]) (up n (gX 0) (up n (gNd [91]) (up n gNm q.tl))))) from by rw [gS_eq];unfold gS;rw [up_altF (ac_ne (w := [100,101,108,101,116,101]) (w' := [105,102]) h13 (by decide)),up_altF (ac_ne (w := [100,101,108,101,116,101]) (w' := [119,104,105,108,101]) h13 (by decide)),up_altF (ac_ne (w := [100,101,108,101,116,101]) (w' := [115,116,111,114,101]) h13 (by decide)),up_altF (ac_ne (w := [100,101,108,101,116,101]) (w' := [102,101,116,99,104]) h13 (by decide)),up_altF (ac_ne (w := [100,101,108,101,116,101]) (w' := [115,101,110,100]) h13 (by decide)),up_altF (ac_ne (w := [100,101,108,101,116,101]) (w' := [97,102,116,101,114]) h13 (by decide)),up_altF (ac_ne (w := [100,101,108,101,116,101]) (w' := [115,116,111,112]) h13 (by decide)),up_bind Cz.chg (x := Sm.mk 3 na [] [a22] [] []) (by unfold gChg;exact vl_altT h13 (vl_bind (n := n) hna.1 (vl_bind (n := n) (x := ()) vl_unit (vl_bind (n := n) hv22 (vl_bind (n := n) (x := ()) vl_unit (vl_pure)))))),up_bind (x := ()) (Cz.nd _) vl_unit,up_pure];unfold gChg;rw [up_altT h13,up_bind Cz.nm hna.1,up_bind (x := ()) (Cz.nd _) vl_unit,up_bind (Cz.ex 0) hv22,up_bind (x := ()) (Cz.nd _) vl_unit,up_pure]]
  exact s.pickT (hd := [_,_,_]) (tl := bs) (hd' := [_]) [0] rfl rfl
 rw [acS_F h13]
 refine .sr<|.m Z Z<|.cs (X := Unit) Fx.call54 Z (fun W s => take_r K hq [105,102] (s.pickT (hd := [_,_]) (tl := bs) (hd' := [_,_]) [0,1] Z Z)) Z fun _ _ => .a Z Z<|.nt<|.cd Z (fun h30 => ?_) (fun h30 => ?_)
 ·rw [acS_T h30]
  have hlt := mu_tl h30
  have m1 := mu_up (n := n) (s := q.tl) (Shs.gx 0).le (Cz.ex 0)
  have m2 := mu_up (n := n) (s := up n (gX 0) q.tl) (Shs.blk Shr.b).le Cz.blk
  refine .sr<|.m Z Z<|.cs (X := Ex × List Value × Hp) Fx.call26 Z (fun W s => rexpr_all K (Suf.tl hq) (s.pickT (hd := [_,_]) (tl := bs) (hd' := [_,_]) [0,1] Z Z)) Z fun z34 hz34 => ?_
  obtain ⟨a34,c34,H34⟩ := z34
  obtain ⟨hv34,u34,r34⟩ := hz34
  dsimp only at hv34 u34 r34 ⊢
  obtain ⟨x1_34,x2_34,x3_34,x4_34,rfl⟩ := four (ex_len r34)
  refine .bl Z (Fx.bsl31_1 _ _ _ _) Z fun b35 => ?_
  refine Sx.freezeBox fun H35 u35 m35 => ?_
  refine .yv (.build Z (Fx.bld205_0_3 _ _ _ _)) Z<|.al Fx.zero205 Z fun b4 => .sW .head Z Z Fx.size205 (by simp [Value.oneCell',strV]) Z<|.ns<|.m Z Z<|.cs (X := List Sm × Value × Hp) Fx.call158 Z (fun W s => hblk ((K.up u34.up).up u35.up) ((Suf.ex 0).up (Suf.tl hq)) (by omega) (s.pickT (hd := [_,_,_]) (tl := bs) (hd' := [_,_,_]) [1,0,2] Z Z)) Z fun z38 hz38 => ?_
  obtain ⟨l38,v38,H38⟩ := z38
  obtain ⟨hv38,u38,r38⟩ := hz38
  dsimp only at hv38 u38 r38 ⊢
  obtain ⟨p38,c38',e38',hn38⟩ := r38.sl
  simp only [List.cons.injEq,and_true] at e38'
  subst e38'
  refine .yv (.fieldAddr Z Fx.field205_4) Z<|.st (.tail<|.head) Z Z Fx.size156 Z (nb Z) Z<|.nt<|.sq<|.sr<|.m Z Z<|.cs (X := Unit) Fx.call54 Z (fun W s => take_r (((K.up u34.up).up u35.up).up u38.up) ((Suf.blk Suf.b).up ((Suf.ex 0).up (Suf.tl hq))) [101,108,115,101] (s.pickT (hd := [_,_,_]) (tl := bs) (hd' := [_,_,_]) [0,1,2] Z Z)) Z fun _ _ => .nt<|.cd Z (fun h41 => ?_) (fun h41 => ?_)
  ·rw [acS_T h41]
   have hlt2 := mu_tl h41
   refine .rg<|.m Z Z<|.cs (X := List Sm × Value × Hp) Fx.call158 Z (fun W s => hblk (((K.up u34.up).up u35.up).up u38.up) (Suf.tl ((Suf.blk Suf.b).up ((Suf.ex 0).up (Suf.tl hq)))) (by omega) (s.pickT (hd := [_,_,_]) (tl := bs) (hd' := [_,_,_]) [0,1,2] Z Z)) Z fun z43 hz43 => ?_
   obtain ⟨l43,v43,H43⟩ := z43
   obtain ⟨hv43,u43,r43⟩ := hz43
   dsimp only at hv43 u43 r43 ⊢
   obtain ⟨p43,c43',e43',hn43⟩ := r43.sl
   simp only [List.cons.injEq,and_true] at e43'
   subst e43'
   refine .yv (.fieldAddr Z Fx.field205_5) Z<|.st (.tail<|.head) Z Z Fx.size156 Z (nb Z) Z<|.ns<|.yv (.loadW Z Fx.agg205 (.tail _<|.head _) Z) Z<|.sW (.tail<|.tail<|.head) Z Z Fx.size205 (by simp [Value.oneCell',strV]) Z<|.nt<|.rt<|.bR<|.tR<|?_
   refine Sx.ret1 (.inl rfl) rfl (.cell rfl Fx.agg205 (.tail _<|.tail _<|.head _) rfl) fun W s => ⟨(.mk 4 [] [] [a34] l38 l43,_,H43),⟨(by rw [gS_eq];unfold gS;exact vl_altT h30 (vl_bind (n := n) hv34 (vl_bind (n := n) hv38 (vl_bind (n := n) (vl_altT h41 hv43) (vl_pure))))),(u34.trans (u35.trans (u38.trans u43))),sm_shut (kd := 4) (nm := []) (hd := []) (by decide) (by decide) (Rep.mk (n := 1) (c := 1) (ds := [dEx .i64 a34]) (m35.up (u38.trans u43).up) (.single (r34.up (u35.trans (u38.trans u43)).up) rfl) rfl (Nat.le_refl _) (by decide)) (r38.up u43.up) r43⟩,rfl,?_⟩
   rw [show up n (gSt gB) q = (up n (gBlk gB) (up n (gBlk gB) (up n (gX 0) q.tl)).tl) from by rw [gS_eq];unfold gS;rw [up_altT h30,up_bind (Cz.ex 0) hv34,up_bind Cz.blk hv38,up_bind (g := gEls gB) (Cz.els) (vl_altT h41 hv43)];unfold gEls;rw [up_altT h41,up_pure]]
   exact s.pickT (hd := [_,_,_]) (tl := bs) (hd' := [_]) [0] rfl rfl
  rw [acS_F h41]
  refine .sk<|.tN<|.sr<|.yv (.loadW Z Fx.agg205 (.tail _<|.head _) Z) Z<|.sW (.tail<|.tail<|.head) Z Z Fx.size205 (by simp [Value.oneCell',strV]) Z<|.nt<|.rt<|.bR<|.tR<|?_
  refine Sx.ret1 (.inl rfl) rfl (.cell rfl Fx.agg205 (.tail _<|.tail _<|.head _) rfl) fun W s => ⟨(.mk 4 [] [] [a34] l38 [],_,H38),⟨(by rw [gS_eq];unfold gS;exact vl_altT h30 (vl_bind (n := n) hv34 (vl_bind (n := n) hv38 (vl_bind (n := n) (vl_altF h41 vl_pure) (vl_pure))))),(u34.trans (u35.trans u38)),sm_shut (kd := 4) (nm := []) (hd := []) (by decide) (by decide) (Rep.mk (n := 1) (c := 1) (ds := [dEx .i64 a34]) (m35.up u38.up) (.single (r34.up (u35.trans u38).up) rfl) rfl (Nat.le_refl _) (by decide)) r38 (Rep.empty (p := none) (c := 0) (by decide))⟩,rfl,?_⟩
  rw [show up n (gSt gB) q = (up n (gBlk gB) (up n (gX 0) q.tl)) from by rw [gS_eq];unfold gS;rw [up_altT h30,up_bind (Cz.ex 0) hv34,up_bind Cz.blk hv38,up_bind (g := gEls gB) (Cz.els) (vl_altF h41 vl_pure)];unfold gEls;rw [up_altF h41,up_pure,up_pure]]
  exact s.pickT (hd := [_,_,_]) (tl := bs) (hd' := [_]) [0] rfl rfl
 rw [acS_F h30]
 refine .sr<|.m Z Z<|.cs (X := Unit) Fx.call54 Z (fun W s => take_r K hq [119,104,105,108,101] (s.pickT (hd := [_,_]) (tl := bs) (hd' := [_,_]) [0,1] Z Z)) Z fun _ _ => .a Z Z<|.nt<|.cd Z (fun h46 => ?_) (fun h46 => ?_)
 ·rw [acS_T h46]
  have hlt := mu_tl h46
  have m1 := mu_up (n := n) (s := q.tl) (Shs.gx 0).le (Cz.ex 0)
  refine .sr<|.m Z Z<|.cs (X := Ex × List Value × Hp) Fx.call26 Z (fun W s => rexpr_all K (Suf.tl hq) (s.pickT (hd := [_,_]) (tl := bs) (hd' := [_,_]) [0,1] Z Z)) Z fun z50 hz50 => ?_
  obtain ⟨a50,c50,H50⟩ := z50
  obtain ⟨hv50,u50,r50⟩ := hz50
  dsimp only at hv50 u50 r50 ⊢
  obtain ⟨x1_50,x2_50,x3_50,x4_50,rfl⟩ := four (ex_len r50)
  refine .bl Z (Fx.bsl31_1 _ _ _ _) Z fun b51 => ?_
  refine Sx.freezeBox fun H51 u51 m51 => ?_
  refine .yv (.build Z (Fx.bld205_0_3 _ _ _ _)) Z<|.al Fx.zero205 Z fun b5 => .sW .head Z Z Fx.size205 (by simp [Value.oneCell',strV]) Z<|.ns<|.m Z Z<|.cs (X := List Sm × Value × Hp) Fx.call158 Z (fun W s => hblk ((K.up u50.up).up u51.up) ((Suf.ex 0).up (Suf.tl hq)) (by omega) (s.pickT (hd := [_,_,_]) (tl := bs) (hd' := [_,_,_]) [1,0,2] Z Z)) Z fun z54 hz54 => ?_
  obtain ⟨l54,v54,H54⟩ := z54
  obtain ⟨hv54,u54,r54⟩ := hz54
  dsimp only at hv54 u54 r54 ⊢
  obtain ⟨p54,c54',e54',hn54⟩ := r54.sl
  simp only [List.cons.injEq,and_true] at e54'
  subst e54'
  refine .yv (.fieldAddr Z Fx.field205_4) Z<|.st (.tail<|.head) Z Z Fx.size156 Z (nb Z) Z<|.ns<|.yv (.loadW Z Fx.agg205 (.tail _<|.head _) Z) Z<|.sW (.tail<|.tail<|.head) Z Z Fx.size205 (by simp [Value.oneCell',strV]) Z<|.nt<|.rt<|.bR<|.tR<|?_
  refine Sx.ret1 (.inl rfl) rfl (.cell rfl Fx.agg205 (.tail _<|.tail _<|.head _) rfl) fun W s => ⟨(.mk 5 [] [] [a50] l54 [],_,H54),⟨(by rw [gS_eq];unfold gS;exact vl_altF (ac_ne (w := [119,104,105,108,101]) (w' := [105,102]) h46 (by decide)) (vl_altT h46 (vl_bind (n := n) hv50 (vl_bind (n := n) hv54 (vl_pure))))),(u50.trans (u51.trans u54)),sm_shut (kd := 5) (nm := []) (hd := []) (by decide) (by decide) (Rep.mk (n := 1) (c := 1) (ds := [dEx .i64 a50]) (m51.up u54.up) (.single (r50.up (u51.trans u54).up) rfl) rfl (Nat.le_refl _) (by decide)) r54 (Rep.empty (p := none) (c := 0) (by decide))⟩,rfl,?_⟩
  rw [show up n (gSt gB) q = (up n (gBlk gB) (up n (gX 0) q.tl)) from by rw [gS_eq];unfold gS;rw [up_altF (ac_ne (w := [119,104,105,108,101]) (w' := [105,102]) h46 (by decide)),up_altT h46,up_bind (Cz.ex 0) hv50,up_bind Cz.blk hv54,up_pure]]
  exact s.pickT (hd := [_,_,_]) (tl := bs) (hd' := [_]) [0] rfl rfl
 rw [acS_F h46]
 refine .sr<|.m Z Z<|.cs (X := Unit) Fx.call54 Z (fun W s => take_r K hq [115,101,110,100] (s.pickT (hd := [_,_]) (tl := bs) (hd' := [_,_]) [0,1] Z Z)) Z fun _ _ => .a Z Z<|.nt<|.cd Z (fun h57 => ?_) (fun h57 => ?_)
 ·rw [acS_T h57]
  have hlt := mu_tl h57
  have m1 := mu_up (n := n) (s := q.tl) Shs.nm.le Cz.nm
  have m2 := mu_up (n := n) (s := up n gNm q.tl) (Shs.nd [46]).le (Cz.nd [46])
  have m3 := mu_up (n := n) (s := up n (gNd [46]) (up n gNm q.tl)) Shs.nm.le Cz.nm
  refine .sr<|.m Z Z<|.cs (X := Str) Fx.call97 Z (fun W s => name_r K (Suf.tl hq)  (s.pickT (hd := [_,_]) (tl := bs) (hd' := [_,_]) [0,1] Z Z)) Z fun na hna => .yv (.build Z (Fx.bld205_0_1 _ _)) Z<|.al Fx.zero205 Z fun b6 => .sW .head Z Z Fx.size205 (by simp [Value.oneCell',strV]) Z<|.ns<|.m Z Z<|.cs (X := Unit) Fx.call96 Z (fun W s => need_r K (Suf.nm.up (Suf.tl hq)) [46] (s.pickT (hd := [_,_,_]) (tl := bs) (hd' := [_,_,_]) [1,0,2] Z Z)) Z fun _ _ => .ns<|.m Z Z<|.cs (X := Str) Fx.call97 Z (fun W s => name_r K ((Suf.nd _).up (Suf.nm.up (Suf.tl hq)))  (s.pickT (hd := [_,_,_]) (tl := bs) (hd' := [_,_,_]) [0,1,2] Z Z)) Z fun ny hny => .yv (.fieldAddr Z Fx.field205_2) Z<|.st (.tail<|.head) Z Z Fx.size9 Z (nb Z) Z<|.ns<|.m Z Z<|.cs (X := List Ex × Value × Hp) Fx.call183 Z (fun W s => args_r K (Suf.nm.up ((Suf.nd _).up (Suf.nm.up (Suf.tl hq)))) (by omega) (s.pickT (hd := [_,_,_]) (tl := bs) (hd' := [_,_,_]) [0,1,2] Z Z)) Z fun z69 hz69 => ?_
  obtain ⟨l69,v69,H69⟩ := z69
  obtain ⟨hv69,u69,r69,hn69⟩ := hz69
  dsimp only at hv69 u69 r69 hn69 ⊢
  obtain ⟨p69,c69',e69',_⟩ := r69.sl
  simp only [List.cons.injEq,and_true] at e69'
  subst e69'
  refine .yv (.fieldAddr Z Fx.field205_3) Z<|.st (.tail<|.head) Z Z Fx.size31 Z (nb Z) Z<|.ns<|.m Z Z<|.cs (X := Unit) Fx.call96 Z (fun W s => need_r (K.up u69.up) ((Suf.list (Suf.ex 0)).up (Suf.nm.up ((Suf.nd _).up (Suf.nm.up (Suf.tl hq))))) [59] (s.pickT (hd := [_,_,_]) (tl := bs) (hd' := [_,_,_]) [0,1,2] Z Z)) Z fun _ _ => .ns<|.yv (.loadW Z Fx.agg205 (.tail _<|.head _) Z) Z<|.sW (.tail<|.tail<|.head) Z Z Fx.size205 (by simp [Value.oneCell',strV]) Z<|.nt<|.rt<|.bR<|.tR<|?_
  refine Sx.ret1 (.inl rfl) rfl (.cell rfl Fx.agg205 (.tail _<|.tail _<|.head _) rfl) fun W s => ⟨(.mk 6 na ny l69 [] [],_,H69),⟨(by rw [gS_eq];unfold gS;exact vl_altF (ac_ne (w := [115,101,110,100]) (w' := [105,102]) h57 (by decide)) (vl_altF (ac_ne (w := [115,101,110,100]) (w' := [119,104,105,108,101]) h57 (by decide)) (vl_altF (ac_ne (w := [115,101,110,100]) (w' := [115,116,111,114,101]) h57 (by decide)) (vl_altF (ac_ne (w := [115,101,110,100]) (w' := [102,101,116,99,104]) h57 (by decide)) (vl_altT h57 (vl_bind (n := n) hna.1 (vl_bind (n := n) (x := ()) vl_unit (vl_bind (n := n) hny.1 (vl_bind (n := n) hv69 (vl_bind (n := n) (x := ()) vl_unit (vl_pure))))))))))),u69,sm_shut (kd := 6) (nm := na) (hd := ny) hna.2 hny.2 r69 (Rep.empty (p := none) (c := 0) (by decide)) (Rep.empty (p := none) (c := 0) (by decide))⟩,rfl,?_⟩
  rw [show up n (gSt gB) q = (up n (gNd [59]) (up n (gList (gX 0)) (up n gNm (up n (gNd [46]) (up n gNm q.tl))))) from by rw [gS_eq];unfold gS;rw [up_altF (ac_ne (w := [115,101,110,100]) (w' := [105,102]) h57 (by decide)),up_altF (ac_ne (w := [115,101,110,100]) (w' := [119,104,105,108,101]) h57 (by decide)),up_altF (ac_ne (w := [115,101,110,100]) (w' := [115,116,111,114,101]) h57 (by decide)),up_altF (ac_ne (w := [115,101,110,100]) (w' := [102,101,116,99,104]) h57 (by decide)),up_altT h57,up_bind Cz.nm hna.1,up_bind (x := ()) (Cz.nd _) vl_unit,up_bind Cz.nm hny.1,up_bind (Cz.list (Cz.ex 0)) hv69,up_bind (x := ()) (Cz.nd _) vl_unit,up_pure]]
  exact s.pickT (hd := [_,_,_]) (tl := bs) (hd' := [_]) [0] rfl rfl
 rw [acS_F h57]
 refine .sr<|.m Z Z<|.cs (X := Unit) Fx.call54 Z (fun W s => take_r K hq [97,102,116,101,114] (s.pickT (hd := [_,_]) (tl := bs) (hd' := [_,_]) [0,1] Z Z)) Z fun _ _ => .a Z Z<|.nt<|.cd Z (fun h74 => ?_) (fun h74 => ?_)
 ·rw [acS_T h74]
  have hlt := mu_tl h74
  have m1 := mu_up (n := n) (s := q.tl) (Shs.gx 0).le (Cz.ex 0)
  have m2 := mu_up (n := n) (s := up n (gX 0) q.tl) (Shs.nd [100,111]).le (Cz.nd [100,111])
  have m3 := mu_up (n := n) (s := up n (gNd [100,111]) (up n (gX 0) q.tl)) Shs.nm.le Cz.nm
  refine .sr<|.m Z Z<|.cs (X := Ex × List Value × Hp) Fx.call26 Z (fun W s => rexpr_all K (Suf.tl hq) (s.pickT (hd := [_,_]) (tl := bs) (hd' := [_,_]) [0,1] Z Z)) Z fun z78 hz78 => ?_
  obtain ⟨a78,c78,H78⟩ := z78
  obtain ⟨hv78,u78,r78⟩ := hz78
  dsimp only at hv78 u78 r78 ⊢
  obtain ⟨x1_78,x2_78,x3_78,x4_78,rfl⟩ := four (ex_len r78)
  refine .al Fx.zero33 Z fun b7 => .sW .head Z Z Fx.size33 (Rep.one r78) Z<|.ns<|.m Z Z<|.cs (X := Unit) Fx.call96 Z (fun W s => need_r (K.up u78.up) ((Suf.ex 0).up (Suf.tl hq)) [100,111] (s.pickT (hd := [_,_,_]) (tl := bs) (hd' := [_,_,_]) [1,0,2] Z Z)) Z fun _ _ => .ns<|.m Z Z<|.cs (X := Str) Fx.call97 Z (fun W s => name_r (K.up u78.up) ((Suf.nd _).up ((Suf.ex 0).up (Suf.tl hq)))  (s.pickT (hd := [_,_,_]) (tl := bs) (hd' := [_,_,_]) [0,1,2] Z Z)) Z fun ny hny => .yv (.build Z (Fx.bld205_0_2 _ _)) Z<|.al Fx.zero205 Z fun b8 => .sW .head Z Z Fx.size205 (by simp [Value.oneCell',strV]) Z<|.nt<|.sq<|.ft (p := .light _ _ (.light _ _ (.alt _ _ _ (.alt _ _ _ (.alt _ _ _ (.done) (.no)) (.no)) (.alt _ _ _ (.alt _ _ _ (.alt _ _ _ (.done) (.no)) (.no)) (.no))))) 5 (.light 0 (.light 2 (.alt 1 0 (.alt 3 2 (.alt 4 2 (.done) (.no)) (.no)) (.alt 3 2 (.alt 1 0 (.alt 4 2 (.done) (.no)) (.no)) (.no))))) (by kernel_rfl) (by kernel_rfl) Z<|.yv (.loadW Z Fx.agg33 (.tail _<|.tail _<|.head _) Z) Z<|.m Z Z<|.h ?_ (.h ?_ .nn)
  ·
   refine .blR (z := 4) Z (Fx.bsl31_1 _ _ _ _) Z Z (by simp [maxLen]) fun b85 => .h1<|.c3 (X := List Ex × Value × Hp) Fx.call183 Z (fun W s => args_r (K.up u78.up) (Suf.nm.up ((Suf.nd _).up ((Suf.ex 0).up (Suf.tl hq)))) (by omega) (s.pickT (hd := [_,_,_,_,_]) (tl := bs) (hd' := [_,_,_,_,_]) [2,0,1,3,4] Z Z)) Z (fun _ _ => (.done (by kernel_rfl)<|.yv (.loadW Z Fx.agg33 (.tail _<|.tail _<|.tail _<|.head _) Z)<|.nl)) fun z87 hz87 => ?_
   obtain ⟨l87,v87,H87⟩ := z87
   obtain ⟨hv87,u87,r87,hn87⟩ := hz87
   dsimp only at hv87 u87 r87 hn87 ⊢
   obtain ⟨p87,c87',e87',_⟩ := r87.sl
   simp only [List.cons.injEq,and_true] at e87'
   subst e87'
   refine .h1<|.apD Fx.row31 Z (fun _ _ => (.tail<|.head)) Z r87 (by simp only [List.length_map,maxLen];omega) (by rw [List.length_map];omega) Z (fun _ _ => (.done (by kernel_rfl)<|.done (by kernel_rfl)<|.nl)) fun xs88 p88 c88 hz88 => .fn (tl := [_,_]) Z<|.yv (.fieldAddr Z Fx.field205_3) Z<|.st (.tail<|.tail<|.head) Z Z Fx.size31 Z (nb Z) Z<|.ns<|.m Z Z<|.cs (X := Unit) Fx.call96 Z (fun W s => need_r ((K.up u78.up).up u87.up) ((Suf.list (Suf.ex 0)).up (Suf.nm.up ((Suf.nd _).up ((Suf.ex 0).up (Suf.tl hq))))) [59] (s.pickT (hd := [_,_,_,_,_]) (tl := bs) (hd' := [_,_,_,_,_]) [0,1,2,3,4] Z Z)) Z fun _ _ => .ns<|.yv (.loadW Z Fx.agg205 (.tail _<|.tail _<|.head _) Z) Z<|.sW (.tail<|.tail<|.tail<|.tail<|.head) Z Z Fx.size205 (by simp [Value.oneCell',strV]) Z<|.nt<|.rt<|.bR<|.tR<|?_
   refine Sx.reSt (fun W s => s.pickT (hd := [_,_,_,_,_]) (tl := bs) (hd' := [_,_,_]) [1,4,0] rfl rfl) ?_
   refine Sx.freezeSeq (ds := (dEx .i64 a78 :: l87.map (dEx .i64))) (by simp;omega) ((RepZ.single (r78.up u87.up) rfl).app hz88) fun HZ pZ cZ uZ eZ hZ => ?_
   simp only [Value.slice.injEq] at eZ
   refine Sx.ret1 (.inl rfl) rfl (.cell rfl Fx.agg205 (.head _) rfl) fun W s => ⟨(.mk 7 [] ny (a78 :: l87) [] [],_,HZ),⟨(by rw [gS_eq];unfold gS;exact vl_altF (ac_ne (w := [97,102,116,101,114]) (w' := [105,102]) h74 (by decide)) (vl_altF (ac_ne (w := [97,102,116,101,114]) (w' := [119,104,105,108,101]) h74 (by decide)) (vl_altF (ac_ne (w := [97,102,116,101,114]) (w' := [115,116,111,114,101]) h74 (by decide)) (vl_altF (ac_ne (w := [97,102,116,101,114]) (w' := [102,101,116,99,104]) h74 (by decide)) (vl_altF (ac_ne (w := [97,102,116,101,114]) (w' := [115,101,110,100]) h74 (by decide)) (vl_altT h74 (vl_bind (n := n) hv78 (vl_bind (n := n) (x := ()) vl_unit (vl_bind (n := n) hny.1 (vl_bind (n := n) hv87 (vl_bind (n := n) (x := ()) vl_unit (vl_pure)))))))))))),(u78.trans (u87.trans uZ)),sm_shut (kd := 7) (nm := []) (hd := ny) (by decide) hny.2 hZ (Rep.empty (p := none) (c := 0) (by decide)) (Rep.empty (p := none) (c := 0) (by decide))⟩,rfl,?_⟩
   rw [show up n (gSt gB) q = (up n (gNd [59]) (up n (gList (gX 0)) (up n gNm (up n (gNd [100,111]) (up n (gX 0) q.tl))))) from by rw [gS_eq];unfold gS;rw [up_altF (ac_ne (w := [97,102,116,101,114]) (w' := [105,102]) h74 (by decide)),up_altF (ac_ne (w := [97,102,116,101,114]) (w' := [119,104,105,108,101]) h74 (by decide)),up_altF (ac_ne (w := [97,102,116,101,114]) (w' := [115,116,111,114,101]) h74 (by decide)),up_altF (ac_ne (w := [97,102,116,101,114]) (w' := [102,101,116,99,104]) h74 (by decide)),up_altF (ac_ne (w := [97,102,116,101,114]) (w' := [115,101,110,100]) h74 (by decide)),up_altT h74,up_bind (Cz.ex 0) hv78,up_bind (x := ()) (Cz.nd _) vl_unit,up_bind Cz.nm hny.1,up_bind (Cz.list (Cz.ex 0)) hv87,up_bind (x := ()) (Cz.nd _) vl_unit,up_pure]]
   exact s.pickT (hd := [_,_]) (tl := bs) (hd' := [_]) [1] rfl rfl
  refine .c3 (X := List Ex × Value × Hp) Fx.call183 Z (fun W s => args_r (K.up u78.up) (Suf.nm.up ((Suf.nd _).up ((Suf.ex 0).up (Suf.tl hq)))) (by omega) (s.pickT (hd := [_,_,_,_]) (tl := bs) (hd' := [_,_,_,_]) [1,0,2,3] Z Z)) Z (fun _ _ => (.done (by kernel_rfl)<|.yv (.loadW Z Fx.agg33 (.tail _<|.tail _<|.head _) Z)<|.nl)) fun z87 hz87 => ?_
  obtain ⟨l87,v87,H87⟩ := z87
  obtain ⟨hv87,u87,r87,hn87⟩ := hz87
  dsimp only at hv87 u87 r87 hn87 ⊢
  obtain ⟨p87,c87',e87',_⟩ := r87.sl
  simp only [List.cons.injEq,and_true] at e87'
  subst e87'
  refine .h1<|.blR (z := 4) Z (Fx.bsl31_1 _ _ _ _) Z Z (by simp [maxLen]) fun b85 => .h1<|.apD Fx.row31 Z (fun _ _ => .head) Z r87 (by simp only [List.length_map,maxLen];omega) (by rw [List.length_map];omega) Z (fun _ _ => (.done (by kernel_rfl)<|.done (by kernel_rfl)<|.nl)) fun xs88 p88 c88 hz88 => .fn (tl := [_,_]) Z<|.yv (.fieldAddr Z Fx.field205_3) Z<|.st (.tail<|.tail<|.head) Z Z Fx.size31 Z (nb Z) Z<|.ns<|.m Z Z<|.cs (X := Unit) Fx.call96 Z (fun W s => need_r ((K.up u78.up).up u87.up) ((Suf.list (Suf.ex 0)).up (Suf.nm.up ((Suf.nd _).up ((Suf.ex 0).up (Suf.tl hq))))) [59] (s.pickT (hd := [_,_,_,_,_]) (tl := bs) (hd' := [_,_,_,_,_]) [1,0,2,3,4] Z Z)) Z fun _ _ => .ns<|.yv (.loadW Z Fx.agg205 (.tail _<|.tail _<|.head _) Z) Z<|.sW (.tail<|.tail<|.tail<|.tail<|.head) Z Z Fx.size205 (by simp [Value.oneCell',strV]) Z<|.nt<|.rt<|.bR<|.tR<|?_
  refine Sx.reSt (fun W s => s.pickT (hd := [_,_,_,_,_]) (tl := bs) (hd' := [_,_,_]) [1,4,0] rfl rfl) ?_
  refine Sx.freezeSeq (ds := (dEx .i64 a78 :: l87.map (dEx .i64))) (by simp;omega) ((RepZ.single (r78.up u87.up) rfl).app hz88) fun HZ pZ cZ uZ eZ hZ => ?_
  simp only [Value.slice.injEq] at eZ
  refine Sx.ret1 (.inl rfl) rfl (.cell rfl Fx.agg205 (.head _) rfl) fun W s => ⟨(.mk 7 [] ny (a78 :: l87) [] [],_,HZ),⟨(by rw [gS_eq];unfold gS;exact vl_altF (ac_ne (w := [97,102,116,101,114]) (w' := [105,102]) h74 (by decide)) (vl_altF (ac_ne (w := [97,102,116,101,114]) (w' := [119,104,105,108,101]) h74 (by decide)) (vl_altF (ac_ne (w := [97,102,116,101,114]) (w' := [115,116,111,114,101]) h74 (by decide)) (vl_altF (ac_ne (w := [97,102,116,101,114]) (w' := [102,101,116,99,104]) h74 (by decide)) (vl_altF (ac_ne (w := [97,102,116,101,114]) (w' := [115,101,110,100]) h74 (by decide)) (vl_altT h74 (vl_bind (n := n) hv78 (vl_bind (n := n) (x := ()) vl_unit (vl_bind (n := n) hny.1 (vl_bind (n := n) hv87 (vl_bind (n := n) (x := ()) vl_unit (vl_pure)))))))))))),(u78.trans (u87.trans uZ)),sm_shut (kd := 7) (nm := []) (hd := ny) (by decide) hny.2 hZ (Rep.empty (p := none) (c := 0) (by decide)) (Rep.empty (p := none) (c := 0) (by decide))⟩,rfl,?_⟩
  rw [show up n (gSt gB) q = (up n (gNd [59]) (up n (gList (gX 0)) (up n gNm (up n (gNd [100,111]) (up n (gX 0) q.tl))))) from by rw [gS_eq];unfold gS;rw [up_altF (ac_ne (w := [97,102,116,101,114]) (w' := [105,102]) h74 (by decide)),up_altF (ac_ne (w := [97,102,116,101,114]) (w' := [119,104,105,108,101]) h74 (by decide)),up_altF (ac_ne (w := [97,102,116,101,114]) (w' := [115,116,111,114,101]) h74 (by decide)),up_altF (ac_ne (w := [97,102,116,101,114]) (w' := [102,101,116,99,104]) h74 (by decide)),up_altF (ac_ne (w := [97,102,116,101,114]) (w' := [115,101,110,100]) h74 (by decide)),up_altT h74,up_bind (Cz.ex 0) hv78,up_bind (x := ()) (Cz.nd _) vl_unit,up_bind Cz.nm hny.1,up_bind (Cz.list (Cz.ex 0)) hv87,up_bind (x := ()) (Cz.nd _) vl_unit,up_pure]]
  exact s.pickT (hd := [_,_]) (tl := bs) (hd' := [_]) [1] rfl rfl
 rw [acS_F h74]
 refine .sr<|.m Z Z<|.cs (X := Unit) Fx.call54 Z (fun W s => take_r K hq [115,116,111,114,101] (s.pickT (hd := [_,_]) (tl := bs) (hd' := [_,_]) [0,1] Z Z)) Z fun _ _ => .a Z Z<|.nt<|.cd Z (fun h93 => ?_) (fun h93 => ?_)
 ·rw [acS_T h93]
  have hlt := mu_tl h93
  have m1 := mu_up (n := n) (s := q.tl) (Shs.gx 0).le (Cz.ex 0)
  have m2 := mu_up (n := n) (s := up n (gX 0) q.tl) (Shs.nd [61]).le (Cz.nd [61])
  have m3 := mu_up (n := n) (s := up n (gNd [61]) (up n (gX 0) q.tl)) (Shs.gx 0).le (Cz.ex 0)
  refine .sr<|.m Z Z<|.cs (X := Ex × List Value × Hp) Fx.call26 Z (fun W s => rexpr_all K (Suf.tl hq) (s.pickT (hd := [_,_]) (tl := bs) (hd' := [_,_]) [0,1] Z Z)) Z fun z97 hz97 => ?_
  obtain ⟨a97,c97,H97⟩ := z97
  obtain ⟨hv97,u97,r97⟩ := hz97
  dsimp only at hv97 u97 r97 ⊢
  obtain ⟨x1_97,x2_97,x3_97,x4_97,rfl⟩ := four (ex_len r97)
  refine .al Fx.zero33 Z fun b9 => .sW .head Z Z Fx.size33 (Rep.one r97) Z<|.ns<|.m Z Z<|.cs (X := Unit) Fx.call96 Z (fun W s => need_r (K.up u97.up) ((Suf.ex 0).up (Suf.tl hq)) [61] (s.pickT (hd := [_,_,_]) (tl := bs) (hd' := [_,_,_]) [1,0,2] Z Z)) Z fun _ _ => .ns<|.m Z Z<|.cs (X := Ex × List Value × Hp) Fx.call26 Z (fun W s => rexpr_all (K.up u97.up) ((Suf.nd _).up ((Suf.ex 0).up (Suf.tl hq))) (s.pickT (hd := [_,_,_]) (tl := bs) (hd' := [_,_,_]) [0,1,2] Z Z)) Z fun z101 hz101 => ?_
  obtain ⟨a101,c101,H101⟩ := z101
  obtain ⟨hv101,u101,r101⟩ := hz101
  dsimp only at hv101 u101 r101 ⊢
  obtain ⟨x1_101,x2_101,x3_101,x4_101,rfl⟩ := four (ex_len r101)
  refine .al Fx.zero33 Z fun b10 => .sW .head Z Z Fx.size33 (Rep.one r101) Z<|.nt<|.sq<|.ft (p := .light _ _ (.light _ _ (.light _ _ (.alt _ _ _ (.alt _ _ _ (.done) (.no)) (.alt _ _ _ (.alt _ _ _ (.done) (.no)) (.no)))))) 5 (.light 0 (.light 1 (.light 3 (.alt 2 0 (.alt 4 2 (.done) (.no)) (.alt 4 2 (.alt 2 0 (.done) (.no)) (.no)))))) (by kernel_rfl) (by kernel_rfl) Z<|.yv (.loadW Z Fx.agg33 (.tail _<|.tail _<|.head _) Z) Z<|.yv (.loadW Z Fx.agg33 (.head _) Z) Z<|.m Z Z<|.h ?_ (.h ?_ .nn)
  ·
   refine .blF Z (Fx.bsl31_2 _ _ _ _ _ _ _ _) Z fun b104 H104 u104 m104 => .h1<|.c3 (X := List Sm × Value × Hp) Fx.call184 Z (fun W s => oth_r M hblk (((K.up u97.up).up u101.up).up u104.up) ((Suf.ex 0).up ((Suf.nd _).up ((Suf.ex 0).up (Suf.tl hq)))) (by omega) (s.pickT (hd := [_,_,_,_]) (tl := bs) (hd' := [_,_,_,_]) [1,0,2,3] Z Z)) Z (fun _ _ => (.done (by kernel_rfl)<|.yv (.loadW Z Fx.agg33 (.tail _<|.head _) Z)<|.yv (.loadW Z Fx.agg33 (.tail _<|.tail _<|.head _) Z)<|.nl)) fun z106 hz106 => ?_
   obtain ⟨l106,v106,H106⟩ := z106
   obtain ⟨hv106,u106,r106⟩ := hz106
   dsimp only at hv106 u106 r106 ⊢
   obtain ⟨p106,c106',e106',hn106⟩ := r106.sl
   simp only [List.cons.injEq,and_true] at e106'
   subst e106'
   refine .fn (tl := [_,_]) Z<|.yv (.build Z (Fx.bld205_0_3_5 _ _ _ _ _ _ _)) Z<|.sW (.tail<|.tail<|.tail<|.head) Z Z Fx.size205 (by simp [Value.oneCell',strV]) Z<|.nt<|.rt<|.bR<|.tR<|?_
   refine Sx.ret1 (.inl rfl) rfl (.cell rfl Fx.agg205 (.tail _<|.tail _<|.tail _<|.head _) rfl) fun W s => ⟨(.mk 8 [] [] [a97,a101] [] l106,_,H106),⟨(by rw [gS_eq];unfold gS;exact vl_altF (ac_ne (w := [115,116,111,114,101]) (w' := [105,102]) h93 (by decide)) (vl_altF (ac_ne (w := [115,116,111,114,101]) (w' := [119,104,105,108,101]) h93 (by decide)) (vl_altT h93 (vl_bind (n := n) hv97 (vl_bind (n := n) (x := ()) vl_unit (vl_bind (n := n) hv101 (vl_bind (n := n) hv106 (vl_pure)))))))),(u97.trans (u101.trans (u104.trans u106))),sm_shut (kd := 8) (nm := []) (hd := []) (by decide) (by decide) (Rep.mk (n := 2) (c := 2) (ds := [dEx .i64 a97,dEx .i64 a101]) (m104.up u106.up) (RepZ.app (RepZ.single (r97.up (u101.trans (u104.trans u106)).up) rfl) (RepZ.single (r101.up (u104.trans u106).up) rfl)) rfl (Nat.le_refl _) (by decide)) (Rep.empty (p := none) (c := 0) (by decide)) r106⟩,rfl,?_⟩
   rw [show up n (gSt gB) q = (up n (gOth gB) (up n (gX 0) (up n (gNd [61]) (up n (gX 0) q.tl)))) from by rw [gS_eq];unfold gS;rw [up_altF (ac_ne (w := [115,116,111,114,101]) (w' := [105,102]) h93 (by decide)),up_altF (ac_ne (w := [115,116,111,114,101]) (w' := [119,104,105,108,101]) h93 (by decide)),up_altT h93,up_bind (Cz.ex 0) hv97,up_bind (x := ()) (Cz.nd _) vl_unit,up_bind (Cz.ex 0) hv101,up_bind Cz.oth hv106,up_pure]]
   exact s.pickT (hd := [_,_,_,_]) (tl := bs) (hd' := [_]) [0] rfl rfl
  refine .c3 (X := List Sm × Value × Hp) Fx.call184 Z (fun W s => oth_r M hblk ((K.up u97.up).up u101.up) ((Suf.ex 0).up ((Suf.nd _).up ((Suf.ex 0).up (Suf.tl hq)))) (by omega) (s.pickT (hd := [_,_,_,_]) (tl := bs) (hd' := [_,_,_,_]) [1,0,2,3] Z Z)) Z (fun _ _ => (.done (by kernel_rfl)<|.yv (.loadW Z Fx.agg33 (.tail _<|.head _) Z)<|.yv (.loadW Z Fx.agg33 (.tail _<|.tail _<|.head _) Z)<|.nl)) fun z106 hz106 => ?_
  obtain ⟨l106,v106,H106⟩ := z106
  obtain ⟨hv106,u106,r106⟩ := hz106
  dsimp only at hv106 u106 r106 ⊢
  obtain ⟨p106,c106',e106',hn106⟩ := r106.sl
  simp only [List.cons.injEq,and_true] at e106'
  subst e106'
  refine .h1<|.blF Z (Fx.bsl31_2 _ _ _ _ _ _ _ _) Z fun b104 H104 u104 m104 => .fn (tl := [_,_]) Z<|.yv (.build Z (Fx.bld205_0_3_5 _ _ _ _ _ _ _)) Z<|.sW (.tail<|.tail<|.tail<|.head) Z Z Fx.size205 (by simp [Value.oneCell',strV]) Z<|.nt<|.rt<|.bR<|.tR<|?_
  refine Sx.ret1 (.inl rfl) rfl (.cell rfl Fx.agg205 (.tail _<|.tail _<|.tail _<|.head _) rfl) fun W s => ⟨(.mk 8 [] [] [a97,a101] [] l106,_,H104),⟨(by rw [gS_eq];unfold gS;exact vl_altF (ac_ne (w := [115,116,111,114,101]) (w' := [105,102]) h93 (by decide)) (vl_altF (ac_ne (w := [115,116,111,114,101]) (w' := [119,104,105,108,101]) h93 (by decide)) (vl_altT h93 (vl_bind (n := n) hv97 (vl_bind (n := n) (x := ()) vl_unit (vl_bind (n := n) hv101 (vl_bind (n := n) hv106 (vl_pure)))))))),(u97.trans (u101.trans (u106.trans u104))),sm_shut (kd := 8) (nm := []) (hd := []) (by decide) (by decide) (Rep.mk (n := 2) (c := 2) (ds := [dEx .i64 a97,dEx .i64 a101]) m104 (RepZ.app (RepZ.single (r97.up (u101.trans (u106.trans u104)).up) rfl) (RepZ.single (r101.up (u106.trans u104).up) rfl)) rfl (Nat.le_refl _) (by decide)) (Rep.empty (p := none) (c := 0) (by decide)) (r106.up u104.up)⟩,rfl,?_⟩
  rw [show up n (gSt gB) q = (up n (gOth gB) (up n (gX 0) (up n (gNd [61]) (up n (gX 0) q.tl)))) from by rw [gS_eq];unfold gS;rw [up_altF (ac_ne (w := [115,116,111,114,101]) (w' := [105,102]) h93 (by decide)),up_altF (ac_ne (w := [115,116,111,114,101]) (w' := [119,104,105,108,101]) h93 (by decide)),up_altT h93,up_bind (Cz.ex 0) hv97,up_bind (x := ()) (Cz.nd _) vl_unit,up_bind (Cz.ex 0) hv101,up_bind Cz.oth hv106,up_pure]]
  exact s.pickT (hd := [_,_,_,_]) (tl := bs) (hd' := [_]) [0] rfl rfl
 rw [acS_F h93]
 refine .sr<|.m Z Z<|.cs (X := Unit) Fx.call54 Z (fun W s => take_r K hq [102,101,116,99,104] (s.pickT (hd := [_,_]) (tl := bs) (hd' := [_,_]) [0,1] Z Z)) Z fun _ _ => .a Z Z<|.nt<|.cd Z (fun h108 => ?_) (fun h108 => ?_)
 ·rw [acS_T h108]
  have hlt := mu_tl h108
  have m1 := mu_up (n := n) (s := q.tl) Shs.nm.le Cz.nm
  have m2 := mu_up (n := n) (s := up n gNm q.tl) (Shs.nd [61]).le (Cz.nd [61])
  have m3 := mu_up (n := n) (s := up n (gNd [61]) (up n gNm q.tl)) (Shs.gx 0).le (Cz.ex 0)
  refine .sr<|.m Z Z<|.cs (X := Str) Fx.call97 Z (fun W s => name_r K (Suf.tl hq)  (s.pickT (hd := [_,_]) (tl := bs) (hd' := [_,_]) [0,1] Z Z)) Z fun na hna => .yv (.build Z (Fx.bld205_0_1 _ _)) Z<|.al Fx.zero205 Z fun b11 => .sW .head Z Z Fx.size205 (by simp [Value.oneCell',strV]) Z<|.ns<|.m Z Z<|.cs (X := Unit) Fx.call96 Z (fun W s => need_r K (Suf.nm.up (Suf.tl hq)) [61] (s.pickT (hd := [_,_,_]) (tl := bs) (hd' := [_,_,_]) [1,0,2] Z Z)) Z fun _ _ => .ns<|.m Z Z<|.cs (X := Ex × List Value × Hp) Fx.call26 Z (fun W s => rexpr_all K ((Suf.nd _).up (Suf.nm.up (Suf.tl hq))) (s.pickT (hd := [_,_,_]) (tl := bs) (hd' := [_,_,_]) [0,1,2] Z Z)) Z fun z117 hz117 => ?_
  obtain ⟨a117,c117,H117⟩ := z117
  obtain ⟨hv117,u117,r117⟩ := hz117
  dsimp only at hv117 u117 r117 ⊢
  obtain ⟨x1_117,x2_117,x3_117,x4_117,rfl⟩ := four (ex_len r117)
  refine .bl Z (Fx.bsl31_1 _ _ _ _) Z fun b118 => ?_
  refine Sx.freezeBox fun H118 u118 m118 => ?_
  refine .yv (.fieldAddr Z Fx.field205_3) Z<|.st (.tail<|.head) Z Z Fx.size31 Z (nb Z) Z<|.ns<|.m Z Z<|.cs (X := List Sm × Value × Hp) Fx.call184 Z (fun W s => oth_r M hblk ((K.up u117.up).up u118.up) ((Suf.ex 0).up ((Suf.nd _).up (Suf.nm.up (Suf.tl hq)))) (by omega) (s.pickT (hd := [_,_,_]) (tl := bs) (hd' := [_,_,_]) [0,1,2] Z Z)) Z fun z121 hz121 => ?_
  obtain ⟨l121,v121,H121⟩ := z121
  obtain ⟨hv121,u121,r121⟩ := hz121
  dsimp only at hv121 u121 r121 ⊢
  obtain ⟨p121,c121',e121',hn121⟩ := r121.sl
  simp only [List.cons.injEq,and_true] at e121'
  subst e121'
  refine .yv (.fieldAddr Z Fx.field205_5) Z<|.st (.tail<|.head) Z Z Fx.size156 Z (nb Z) Z<|.ns<|.yv (.loadW Z Fx.agg205 (.tail _<|.head _) Z) Z<|.sW (.tail<|.tail<|.head) Z Z Fx.size205 (by simp [Value.oneCell',strV]) Z<|.nt<|.rt<|.bR<|.tR<|?_
  refine Sx.ret1 (.inl rfl) rfl (.cell rfl Fx.agg205 (.tail _<|.tail _<|.head _) rfl) fun W s => ⟨(.mk 9 na [] [a117] [] l121,_,H121),⟨(by rw [gS_eq];unfold gS;exact vl_altF (ac_ne (w := [102,101,116,99,104]) (w' := [105,102]) h108 (by decide)) (vl_altF (ac_ne (w := [102,101,116,99,104]) (w' := [119,104,105,108,101]) h108 (by decide)) (vl_altF (ac_ne (w := [102,101,116,99,104]) (w' := [115,116,111,114,101]) h108 (by decide)) (vl_altT h108 (vl_bind (n := n) hna.1 (vl_bind (n := n) (x := ()) vl_unit (vl_bind (n := n) hv117 (vl_bind (n := n) hv121 (vl_pure))))))))),(u117.trans (u118.trans u121)),sm_shut (kd := 9) (nm := na) (hd := []) hna.2 (by decide) (Rep.mk (n := 1) (c := 1) (ds := [dEx .i64 a117]) (m118.up u121.up) (.single (r117.up (u118.trans u121).up) rfl) rfl (Nat.le_refl _) (by decide)) (Rep.empty (p := none) (c := 0) (by decide)) r121⟩,rfl,?_⟩
  rw [show up n (gSt gB) q = (up n (gOth gB) (up n (gX 0) (up n (gNd [61]) (up n gNm q.tl)))) from by rw [gS_eq];unfold gS;rw [up_altF (ac_ne (w := [102,101,116,99,104]) (w' := [105,102]) h108 (by decide)),up_altF (ac_ne (w := [102,101,116,99,104]) (w' := [119,104,105,108,101]) h108 (by decide)),up_altF (ac_ne (w := [102,101,116,99,104]) (w' := [115,116,111,114,101]) h108 (by decide)),up_altT h108,up_bind Cz.nm hna.1,up_bind (x := ()) (Cz.nd _) vl_unit,up_bind (Cz.ex 0) hv117,up_bind Cz.oth hv121,up_pure]]
  exact s.pickT (hd := [_,_,_]) (tl := bs) (hd' := [_]) [0] rfl rfl
 rw [acS_F h108]
 refine .sr<|.m Z Z<|.cs (X := Unit) Fx.call54 Z (fun W s => take_r K hq [115,116,111,112] (s.pickT (hd := [_,_]) (tl := bs) (hd' := [_,_]) [0,1] Z Z)) Z fun _ _ => .a Z Z<|.nt<|.cd Z (fun h124 => ?_) (fun h124 => ?_)
 ·rw [acS_T h124]
  have hlt := mu_tl h124
  refine .sr<|.m Z Z<|.cs (X := Unit) Fx.call96 Z (fun W s => need_r K (Suf.tl hq) [59] (s.pickT (hd := [_,_]) (tl := bs) (hd' := [_,_]) [0,1] Z Z)) Z fun _ _ => .ns<|.yv (.build Z (Fx.bld205_0 _)) Z<|.sW (.tail<|.head) Z Z Fx.size205 (by simp [Value.oneCell',strV]) Z<|.nt<|.rt<|.bR<|.tR<|?_
  refine Sx.ret1 (.inl rfl) rfl (.cell rfl Fx.agg205 (.tail _<|.head _) rfl) fun W s => ⟨(.mk 10 [] [] [] [] [],_,H),⟨(by rw [gS_eq];unfold gS;exact vl_altF (ac_ne (w := [115,116,111,112]) (w' := [105,102]) h124 (by decide)) (vl_altF (ac_ne (w := [115,116,111,112]) (w' := [119,104,105,108,101]) h124 (by decide)) (vl_altF (ac_ne (w := [115,116,111,112]) (w' := [115,116,111,114,101]) h124 (by decide)) (vl_altF (ac_ne (w := [115,116,111,112]) (w' := [102,101,116,99,104]) h124 (by decide)) (vl_altF (ac_ne (w := [115,116,111,112]) (w' := [115,101,110,100]) h124 (by decide)) (vl_altF (ac_ne (w := [115,116,111,112]) (w' := [97,102,116,101,114]) h124 (by decide)) (vl_altT h124 (vl_bind (n := n) (x := ()) vl_unit (vl_pure))))))))),.refl,sm_shut (kd := 10) (nm := []) (hd := []) (by decide) (by decide) (Rep.empty (p := none) (c := 0) (by decide)) (Rep.empty (p := none) (c := 0) (by decide)) (Rep.empty (p := none) (c := 0) (by decide))⟩,rfl,?_⟩
  rw [show up n (gSt gB) q = (up n (gNd [59]) q.tl) from by rw [gS_eq];unfold gS;rw [up_altF (ac_ne (w := [115,116,111,112]) (w' := [105,102]) h124 (by decide)),up_altF (ac_ne (w := [115,116,111,112]) (w' := [119,104,105,108,101]) h124 (by decide)),up_altF (ac_ne (w := [115,116,111,112]) (w' := [115,116,111,114,101]) h124 (by decide)),up_altF (ac_ne (w := [115,116,111,112]) (w' := [102,101,116,99,104]) h124 (by decide)),up_altF (ac_ne (w := [115,116,111,112]) (w' := [115,101,110,100]) h124 (by decide)),up_altF (ac_ne (w := [115,116,111,112]) (w' := [97,102,116,101,114]) h124 (by decide)),up_altT h124,up_bind (x := ()) (Cz.nd _) vl_unit,up_pure]]
  exact s.pickT (hd := [_,_]) (tl := bs) (hd' := [_]) [0] rfl rfl
 rw [acS_F h124]
 refine .sk<|.bN<|.tN<|.sr<|.m Z Z<|.cs (X := Str) Fx.call97 Z (fun W s => name_r K hq  (s.pickT (hd := [_,_]) (tl := bs) (hd' := [_,_]) [0,1] Z Z)) Z fun na hna => .yv (.build Z (Fx.bld205_0_1 _ _)) Z<|.al Fx.zero205 Z fun b12 => ?_
 refine Sx.row0 33 4 ?_
 refine .sW (.tail<|.head) Z Z Fx.size205 (by simp [Value.oneCell',strV]) Z<|.nt<|.sq<|.sr<|.m Z Z<|.cs (X := Unit) Fx.call54 Z (fun W s => take_r K (Suf.nm.up hq) [91] (s.pickT (hd := [_,_,_,_]) (tl := bs) (hd' := [_,_,_,_]) [2,0,1,3] Z Z)) Z fun _ _ => .nt<|.cd Z (fun h134 => ?_) (fun h134 => ?_)
 ·rw [acS_T h134]
  refine .sr<|.yv (.fieldAddr Z Fx.field205_0) Z<|.st (.tail<|.tail<|.head) Z Z Fx.size3 Z (nb Z) Z<|.nt<|.sq<|.fl (trip := [(_,_,_),(_,_,_),(_,_,_),(_,_,_),(_,_,_),(_,_,_)]) 6 [(0,0),(1,0),(2,0),(3,3),(4,1),(5,3)] (by kernel_rfl) (by kernel_rfl) Z<|.yv (.fieldAddr Z Fx.field205_3) Z<|.yv (.load Z Fx.agg31 (.tail _<|.tail _<|.head _) Z) Z<|.m Z Z<|.c3 (X := Ex × List Value × Hp) Fx.call26 Z (fun W s => rexpr_all K (Suf.tl (Suf.nm.up hq)) (s.pickT (hd := [_,_,_,_]) (tl := bs) (hd' := [_,_,_,_]) [0,1,2,3] Z Z)) Z (fun _ _ => (.done (by kernel_rfl)<|.yv (.load Z Fx.agg31 (.tail _<|.tail _<|.head _) Z)<|.yv (.fieldAddr Z Fx.field205_3)<|.nl)) fun z139 hz139 => ?_
  obtain ⟨a139,c139,H139⟩ := z139
  obtain ⟨hv139,u139,r139⟩ := hz139
  dsimp only at hv139 u139 r139 ⊢
  obtain ⟨x1_139,x2_139,x3_139,x4_139,rfl⟩ := four (ex_len r139)
  refine .blF Z (Fx.bsl31_1 _ _ _ _) Z fun b140 H140 u140 m140 => .apD Fx.row31 Z (fun _ _ => (.tail<|.head)) Z (Rep.mk (n := 1) (c := 1) (ds := [dEx .i64 a139]) m140 (.single (r139.up u140.up) Z) Z (Nat.le_refl _) (by decide)) (by simp only [maxLen];omega) (by omega) Z (fun _ _ => (.done (by kernel_rfl)<|.done (by kernel_rfl)<|.done (by kernel_rfl)<|.nl)) fun xs141 p141 c141 hz141 => .fn (tl := [_,_]) Z<|.yv (.fieldAddr Z Fx.field205_3) Z<|.st (.tail<|.tail<|.head) Z Z Fx.size31 Z (nb Z) Z<|.nt<|.rg<|.m Z Z<|.cs (X := Unit) Fx.call96 Z (fun W s => need_r ((K.up u139.up).up u140.up) ((Suf.ex 0).up (Suf.tl (Suf.nm.up hq))) [93] (s.pickT (hd := [_,_,_,_]) (tl := bs) (hd' := [_,_,_,_]) [0,1,2,3] Z Z)) Z fun _ _ => .ns<|.m Z Z<|.cs (X := Unit) Fx.call96 Z (fun W s => need_r ((K.up u139.up).up u140.up) ((Suf.nd _).up ((Suf.ex 0).up (Suf.tl (Suf.nm.up hq)))) [61] (s.pickT (hd := [_,_,_,_]) (tl := bs) (hd' := [_,_,_,_]) [0,1,2,3] Z Z)) Z fun _ _ => .nt<|.sq<|.fl (trip := [(_,_,_),(_,_,_),(_,_,_),(_,_,_),(_,_,_),(_,_,_)]) 6 [(0,0),(1,0),(2,0),(3,3),(4,1),(5,3)] (by kernel_rfl) (by kernel_rfl) Z<|.yv (.fieldAddr Z Fx.field205_3) Z<|.yv (.load Z Fx.agg31 (.tail _<|.tail _<|.head _) Z) Z<|.m Z Z<|.c3 (X := Ex × List Value × Hp) Fx.call26 Z (fun W s => rexpr_all ((K.up u139.up).up u140.up) ((Suf.nd _).up ((Suf.nd _).up ((Suf.ex 0).up (Suf.tl (Suf.nm.up hq))))) (s.pickT (hd := [_,_,_,_]) (tl := bs) (hd' := [_,_,_,_]) [0,1,2,3] Z Z)) Z (fun _ _ => (.done (by kernel_rfl)<|.yv (.load Z Fx.agg31 (.tail _<|.tail _<|.head _) Z)<|.yv (.fieldAddr Z Fx.field205_3)<|.nl)) fun z150 hz150 => ?_
  obtain ⟨a150,c150,H150⟩ := z150
  obtain ⟨hv150,u150,r150⟩ := hz150
  dsimp only at hv150 u150 r150 ⊢
  obtain ⟨x1_150,x2_150,x3_150,x4_150,rfl⟩ := four (ex_len r150)
  refine .blF Z (Fx.bsl31_1 _ _ _ _) Z fun b151 H151 u151 m151 => .apD Fx.row31 Z (fun _ _ => (.tail<|.head)) Z (Rep.mk (n := 1) (c := 1) (ds := [dEx .i64 a150]) m151 (.single (r150.up u151.up) Z) Z (Nat.le_refl _) (by decide)) (by simp only [maxLen];omega) (by omega) Z (fun _ _ => (.done (by kernel_rfl)<|.done (by kernel_rfl)<|.done (by kernel_rfl)<|.nl)) fun xs152 p152 c152 hz152 => .fn (tl := [_,_]) Z<|.yv (.fieldAddr Z Fx.field205_3) Z<|.st (.tail<|.tail<|.head) Z Z Fx.size31 Z (nb Z) Z<|.ns<|.m Z Z<|.cs (X := Unit) Fx.call96 Z (fun W s => need_r ((((K.up u139.up).up u140.up).up u150.up).up u151.up) ((Suf.ex 0).up ((Suf.nd _).up ((Suf.nd _).up ((Suf.ex 0).up (Suf.tl (Suf.nm.up hq)))))) [59] (s.pickT (hd := [_,_,_,_]) (tl := bs) (hd' := [_,_,_,_]) [0,1,2,3] Z Z)) Z fun _ _ => .ns<|.yv (.loadW Z Fx.agg205 (.tail _<|.tail _<|.head _) Z) Z<|.sW (.tail<|.tail<|.tail<|.head) Z Z Fx.size205 (by simp [Value.oneCell',strV]) Z<|.nt<|.rt<|?_
  refine Sx.reSt (fun W s => s.pickT (hd := [_,_,_,_]) (tl := bs) (hd' := [_,_,_]) [1,3,0] rfl rfl) ?_
  refine Sx.freezeSeq (ds := [dEx .i64 a139,dEx .i64 a150]) rfl (RepZ.app (hz141.up (u150.trans u151).up) hz152) fun HZ pZ cZ uZ eZ hZ => ?_
  simp only [Value.slice.injEq] at eZ
  refine Sx.ret1 (.inl rfl) rfl (.cell rfl Fx.agg205 (.head _) rfl) fun W s => ⟨(.mk 2 na [] [a139,a150] [] [],_,HZ),⟨(by rw [gS_eq];unfold gS;exact vl_altF h30 (vl_altF h46 (vl_altF h93 (vl_altF h108 (vl_altF h57 (vl_altF h74 (vl_altF h124 (vl_bind (n := n) (x := Sm.mk 2 na [] [a139,a150] [] []) (by unfold gChg;exact vl_altF h13 (vl_bind (n := n) hna.1 (vl_altT h134 (vl_bind (n := n) hv139 (vl_bind (n := n) (x := ()) vl_unit (vl_bind (n := n) (x := ()) vl_unit (vl_bind (n := n) hv150 (vl_pure)))))))) (vl_bind (n := n) (x := ()) vl_unit (vl_pure)))))))))),(u139.trans (u140.trans (u150.trans (u151.trans uZ)))),sm_shut (kd := 2) (nm := na) (hd := []) hna.2 (by decide) hZ (Rep.empty (p := none) (c := 0) (by decide)) (Rep.empty (p := none) (c := 0) (by decide))⟩,rfl,?_⟩
  rw [show up n (gSt gB) q = (up n (gNd [59]) (up n (gX 0) (up n (gNd [61]) (up n (gNd [93]) (up n (gX 0) (up n gNm q).tl))))) from by rw [gS_eq];unfold gS;rw [up_altF h30,up_altF h46,up_altF h93,up_altF h108,up_altF h57,up_altF h74,up_altF h124,up_bind Cz.chg (x := Sm.mk 2 na [] [a139,a150] [] []) (by unfold gChg;exact vl_altF h13 (vl_bind (n := n) hna.1 (vl_altT h134 (vl_bind (n := n) hv139 (vl_bind (n := n) (x := ()) vl_unit (vl_bind (n := n) (x := ()) vl_unit (vl_bind (n := n) hv150 (vl_pure)))))))),up_bind (x := ()) (Cz.nd _) vl_unit,up_pure];unfold gChg;rw [up_altF h13,up_bind Cz.nm hna.1,up_altT h134,up_bind (Cz.ex 0) hv139,up_bind (x := ()) (Cz.nd _) vl_unit,up_bind (x := ()) (Cz.nd _) vl_unit,up_bind (Cz.ex 0) hv150,up_pure]]
  exact s.pickT (hd := [_,_]) (tl := bs) (hd' := [_]) [1] rfl rfl
 rw [acS_F h134]
 refine .sk<|.tN<|.sr<|.m Z Z<|.cs (X := Unit) Fx.call96 Z (fun W s => need_r K (Suf.nm.up hq) [61] (s.pickT (hd := [_,_,_,_]) (tl := bs) (hd' := [_,_,_,_]) [0,1,2,3] Z Z)) Z fun _ _ => .nt<|.sq<|.fl (trip := [(_,_,_),(_,_,_),(_,_,_),(_,_,_),(_,_,_),(_,_,_)]) 6 [(0,0),(1,0),(2,0),(3,3),(4,1),(5,3)] (by kernel_rfl) (by kernel_rfl) Z<|.yv (.fieldAddr Z Fx.field205_3) Z<|.yv (.load Z Fx.agg31 (.tail _<|.tail _<|.head _) Z) Z<|.m Z Z<|.c3 (X := Ex × List Value × Hp) Fx.call26 Z (fun W s => rexpr_all K ((Suf.nd _).up (Suf.nm.up hq)) (s.pickT (hd := [_,_,_,_]) (tl := bs) (hd' := [_,_,_,_]) [0,1,2,3] Z Z)) Z (fun _ _ => (.done (by kernel_rfl)<|.yv (.load Z Fx.agg31 (.tail _<|.tail _<|.head _) Z)<|.yv (.fieldAddr Z Fx.field205_3)<|.nl)) fun z150 hz150 => ?_
 obtain ⟨a150,c150,H150⟩ := z150
 obtain ⟨hv150,u150,r150⟩ := hz150
 dsimp only at hv150 u150 r150 ⊢
 obtain ⟨x1_150,x2_150,x3_150,x4_150,rfl⟩ := four (ex_len r150)
 refine .blF Z (Fx.bsl31_1 _ _ _ _) Z fun b151 H151 u151 m151 => .apD Fx.row31 Z (fun _ _ => (.tail<|.head)) Z (Rep.mk (n := 1) (c := 1) (ds := [dEx .i64 a150]) m151 (.single (r150.up u151.up) Z) Z (Nat.le_refl _) (by decide)) (by simp only [maxLen];omega) (by omega) Z (fun _ _ => (.done (by kernel_rfl)<|.done (by kernel_rfl)<|.done (by kernel_rfl)<|.nl)) fun xs152 p152 c152 hz152 => .fn (tl := [_,_]) Z<|.yv (.fieldAddr Z Fx.field205_3) Z<|.st (.tail<|.tail<|.head) Z Z Fx.size31 Z (nb Z) Z<|.ns<|.m Z Z<|.cs (X := Unit) Fx.call96 Z (fun W s => need_r ((K.up u150.up).up u151.up) ((Suf.ex 0).up ((Suf.nd _).up (Suf.nm.up hq))) [59] (s.pickT (hd := [_,_,_,_]) (tl := bs) (hd' := [_,_,_,_]) [0,1,2,3] Z Z)) Z fun _ _ => .ns<|.yv (.loadW Z Fx.agg205 (.tail _<|.tail _<|.head _) Z) Z<|.sW (.tail<|.tail<|.tail<|.head) Z Z Fx.size205 (by simp [Value.oneCell',strV]) Z<|.nt<|.rt<|?_
 refine Sx.reSt (fun W s => s.pickT (hd := [_,_,_,_]) (tl := bs) (hd' := [_,_,_]) [1,3,0] rfl rfl) ?_
 refine Sx.freezeSeq (ds := [dEx .i64 a150]) rfl hz152 fun HZ pZ cZ uZ eZ hZ => ?_
 simp only [Value.slice.injEq] at eZ
 refine Sx.ret1 (.inl rfl) rfl (.cell rfl Fx.agg205 (.head _) rfl) fun W s => ⟨(.mk 1 na [] [a150] [] [],_,HZ),⟨(by rw [gS_eq];unfold gS;exact vl_altF h30 (vl_altF h46 (vl_altF h93 (vl_altF h108 (vl_altF h57 (vl_altF h74 (vl_altF h124 (vl_bind (n := n) (x := Sm.mk 1 na [] [a150] [] []) (by unfold gChg;exact vl_altF h13 (vl_bind (n := n) hna.1 (vl_altF h134 (vl_bind (n := n) (x := ()) vl_unit (vl_bind (n := n) hv150 (vl_pure)))))) (vl_bind (n := n) (x := ()) vl_unit (vl_pure)))))))))),(u150.trans (u151.trans uZ)),sm_shut (kd := 1) (nm := na) (hd := []) hna.2 (by decide) hZ (Rep.empty (p := none) (c := 0) (by decide)) (Rep.empty (p := none) (c := 0) (by decide))⟩,rfl,?_⟩
 rw [show up n (gSt gB) q = (up n (gNd [59]) (up n (gX 0) (up n (gNd [61]) (up n gNm q)))) from by rw [gS_eq];unfold gS;rw [up_altF h30,up_altF h46,up_altF h93,up_altF h108,up_altF h57,up_altF h74,up_altF h124,up_bind Cz.chg (x := Sm.mk 1 na [] [a150] [] []) (by unfold gChg;exact vl_altF h13 (vl_bind (n := n) hna.1 (vl_altF h134 (vl_bind (n := n) (x := ()) vl_unit (vl_bind (n := n) hv150 (vl_pure)))))),up_bind (x := ()) (Cz.nd _) vl_unit,up_pure];unfold gChg;rw [up_altF h13,up_bind Cz.nm hna.1,up_altF h134,up_bind (x := ()) (Cz.nd _) vl_unit,up_bind (Cz.ex 0) hv150,up_pure]]
 exact s.pickT (hd := [_,_]) (tl := bs) (hd' := [_]) [1] rfl rfl
theorem blocks_r : ∀ M,M ≤ 600000 → StR M ∧ BkR M
 | 0,_ => ⟨fun _ _ h => absurd h (Nat.not_lt_zero _),fun _ _ h => absurd h (Nat.not_lt_zero _)⟩
 | M + 1,h => by
  obtain ⟨h1,h2⟩ := blocks_r M (by omega)
  exact ⟨statement_r M (by omega) h2,block_r M (by omega) h1⟩
end Go.Proofs.YthhoebdlfjffkaaGreatDoor
namespace Go.Sx
open Go.RowKit Go.Par
section
variable {P : Program} {L : Sl} {H : Hp} {w0 : World} {bs : List Res} {d : Option Tmp} {ty : TypeId} {pos : String} {aft : Array Edge} {g : Option (Nat × Bool)} {x : Operand} {T : TypeId}
theorem Yl.neg {k : IntKind} {i c : Int} (hx : ev L x = some (.int k i)) (hw : k.wrap (0 - i) = c) : Yl P L H w0 bs ⟨d,.unOp .neg T x,ty,pos,aft,g⟩ (.int k c) := .of_run fun a W f _ => by
 subst hw
 unfold execOp;simp [f x _ hx,Op.unary,Op.intArith]
end
end Go.Sx
namespace Go.Proofs.YthhoebdlfjffkaaGreatDoor
open Go.RowKit Go.Par Go.Sx
theorem Fx.size2 : sizeN Tryz.prog 2 = Option.some 1 := by kernel_rfl
theorem Fx.size149 : sizeN Tryz.prog 149 = Option.some 1 := by kernel_rfl
theorem Fx.bld151_0 (x0 : ByteArray) : buildN Tryz.prog 151 [(0,.string x0)] = some [.string x0,.int .u8 0,.int .i64 0] := by kernel_rfl
theorem i64_neg (x : Int64) : IntKind.i64.wrap (0 - x.toInt) = (-x).toInt := by
 rw [Int64.toInt_neg]
 have h1 := x.le_toInt
 have h2 := x.toInt_lt
 by_cases h : x.toInt = -9223372036854775808
 ·rw [h];decide +kernel
 ·rw [w64 (by omega) (by omega),Int.bmod_eq_of_le (by omega) (by omega)];omega
set_option maxRecDepth 100000 in
theorem variable_st {H : Hp} {w0 W : World} {bs : List Res} {b n : Nat} {ts : List Tk} {tp : Option Addr} {tc : Nat} {t0 t1 t2 t3 : Value} {q : Sg} (K : Tkm H ts tp tc) (hq : q.r <:+ ts) (s : St H w0 (.box b [.slice tp ts.length tc,.int .i64 (posN ts q : Nat),.int .i64 (n : Nat),t0,t1,t2,t3,.int .i64 (q.o : Nat),.int .i64 (q.e : Nat)] 99 :: bs) W) :
 Calls Tryz.prog 121 #[.pointer (some ⟨b,0,none⟩)] W fun e W' => ∃ z : Vr,(vl gVr q z ∧ z.nm.length ≤ 1000000) ∧ e = .returned (.agg ([strV z.nm,.int .u8 z.ty.toNat,.int .i64 z.init.toInt] : List Value).toArray) ∧ St H w0 (.box b [.slice tp ts.length tc,.int .i64 (posN ts (up n gVr q) : Nat),.int .i64 (n : Nat),t0,t1,t2,t3,.int .i64 ((up n gVr q).o : Nat),.int .i64 ((up n gVr q).e : Nat)] 99 :: bs) W' := by
 refine Sx.enterS Tryz.func121 rfl Tryz.ntmps121 rfl s ?_
 refine .sr<|.al Fx.zero151 Z fun b2 => .ns<|.m Z Z<|.cs (X := Str) Fx.call74 Z (fun W s => name_st K hq  (s.pickT (hd := [_,_]) (tl := bs) (hd' := [_,_]) [1,0] Z Z)) Z fun nm hnm => .yv (.build Z (Fx.bld151_0 _)) Z<|.al Fx.zero151 Z fun b3 => .sW .head Z Z Fx.size151 (by simp [Value.oneCell',strV]) Z<|.ns<|.m Z Z<|.cs (X := Unit) Fx.call73 Z (fun W s => expect_nd K (Suf.nm.up hq) [58] (by decide +kernel) (s.pickT (hd := [_,_,_]) (tl := bs) (hd' := [_,_,_]) [1,0,2] Z Z)) Z fun _ _ => .nt<|.sq<|.bk<|.sr<|.m Z Z<|.cs (X := Unit) Fx.call72 Z (fun W s => accept_ac K ((Suf.nd _).up (Suf.nm.up hq)) [105,110,116] (by decide +kernel) (s.pickT (hd := [_,_,_]) (tl := bs) (hd' := [_,_,_]) [0,1,2] Z Z)) Z fun _ _ => .a Z Z<|.nt<|.cd Z (fun h13 => ?_) (fun h13 => ?_)
 ·rw [acS_T h13]
  refine .sr<|.yv (.fieldAddr Z Fx.field151_1) Z<|.st (.tail<|.head) Z Z Fx.size149 Z (nb Z) Z<|.ns<|.m Z Z<|.cs (X := Unit) Fx.call73 Z (fun W s => expect_nd K (Suf.tl ((Suf.nd _).up (Suf.nm.up hq))) [61] (by decide +kernel) (s.pickT (hd := [_,_,_]) (tl := bs) (hd' := [_,_,_]) [0,1,2] Z Z)) Z fun _ _ => .ns<|.m Z Z<|.cs (X := Unit) Fx.call72 Z (fun W s => accept_ac K ((Suf.nd _).up (Suf.tl ((Suf.nd _).up (Suf.nm.up hq)))) [45] (by decide +kernel) (s.pickT (hd := [_,_,_]) (tl := bs) (hd' := [_,_,_]) [0,1,2] Z Z)) Z fun _ _ => .a Z Z<|.ns<|.m Z Z<|.cs (X := Int64) Fx.call120 Z (fun W s => number_st K (acS_suf ((Suf.nd _).up (Suf.tl ((Suf.nd _).up (Suf.nm.up hq)))))  (s.pickT (hd := [_,_,_]) (tl := bs) (hd' := [_,_,_]) [0,1,2] Z Z)) Z fun nu hnu => .yv (.fieldAddr Z Fx.field151_2) Z<|.st (.tail<|.head) Z Z Fx.size2 Z (nb Z) Z<|.ns<|.m Z Z<|.nt<|.cd Z (fun h24 => ?_) (fun h24 => ?_)
  ·rw [acS_T h24] at hnu ⊢
   refine .rg<|.yv (.fieldAddr Z Fx.field151_2) Z<|.yv (.load Z Fx.agg2 (.tail _<|.head _) Z) Z<|.yv (.neg Z (i64_neg nu)) Z<|.yv (.fieldAddr Z Fx.field151_2) Z<|.st (.tail<|.head) Z Z Fx.size2 Z (nb Z) Z<|.nl<|.bN<|.tN<|.sr<|.m Z Z<|.cs (X := Unit) Fx.call73 Z (fun W s => expect_nd K (Suf.nu.up (Suf.tl ((Suf.nd _).up (Suf.tl ((Suf.nd _).up (Suf.nm.up hq)))))) [59] (by decide +kernel) (s.pickT (hd := [_,_,_]) (tl := bs) (hd' := [_,_,_]) [0,1,2] Z Z)) Z fun _ _ => .ns<|.yv (.loadW Z Fx.agg151 (.tail _<|.head _) Z) Z<|.sW (.tail<|.tail<|.head) Z Z Fx.size151 (by simp [Value.oneCell',strV]) Z<|.nt<|.rt<|?_
   refine Sx.ret1 (.inl rfl) rfl (.cell rfl Fx.agg151 (.tail _<|.tail _<|.head _) rfl) fun W s => ?_
   rw [show up n gVr q = (up n (gNd [59]) (up n gNu (up n (gNd [61]) (up n (gNd [58]) (up n gNm q)).tl).tl)) by unfold gVr;rw [up_bind Cz.nm hnm.1,up_bind (x := ()) (Cz.nd _) vl_unit,up_altT h13,up_bind (x := ()) (Cz.nd _) vl_unit,up_bind Cz.int (x := -nu) (by unfold gInt;exact vl_altT h24 (vl_map (f := fun v => -v) hnu))];unfold gInt;rw [up_altT h24,up_bind (x := ()) (Cz.nd _) vl_unit,up_pure,up_map]]
   exact ⟨⟨nm,1,(-nu)⟩,⟨by unfold gVr;exact vl_bind (n := n) hnm.1 (vl_bind (n := n) (x := ()) vl_unit (vl_altT h13 (vl_bind (n := n) (x := ()) vl_unit (vl_bind (n := n) (g := gInt) (x := -nu) (by unfold gInt;exact vl_altT h24 (vl_map (f := fun v => -v) hnu)) (vl_bind (n := n) (x := ()) vl_unit (vl_pure)))))),hnm.2⟩,rfl,s.pickT (hd := [_,_,_]) (tl := bs) (hd' := [_]) [0] rfl rfl⟩
  rw [acS_F h24] at hnu ⊢
  refine .sk<|.bN<|.tN<|.sr<|.m Z Z<|.cs (X := Unit) Fx.call73 Z (fun W s => expect_nd K (Suf.nu.up ((Suf.nd _).up (Suf.tl ((Suf.nd _).up (Suf.nm.up hq))))) [59] (by decide +kernel) (s.pickT (hd := [_,_,_]) (tl := bs) (hd' := [_,_,_]) [0,1,2] Z Z)) Z fun _ _ => .ns<|.yv (.loadW Z Fx.agg151 (.tail _<|.head _) Z) Z<|.sW (.tail<|.tail<|.head) Z Z Fx.size151 (by simp [Value.oneCell',strV]) Z<|.nt<|.rt<|?_
  refine Sx.ret1 (.inl rfl) rfl (.cell rfl Fx.agg151 (.tail _<|.tail _<|.head _) rfl) fun W s => ?_
  rw [show up n gVr q = (up n (gNd [59]) (up n gNu (up n (gNd [61]) (up n (gNd [58]) (up n gNm q)).tl))) by unfold gVr;rw [up_bind Cz.nm hnm.1,up_bind (x := ()) (Cz.nd _) vl_unit,up_altT h13,up_bind (x := ()) (Cz.nd _) vl_unit,up_bind Cz.int (x := nu) (by unfold gInt;exact vl_altF h24 hnu)];unfold gInt;rw [up_altF h24,up_bind (x := ()) (Cz.nd _) vl_unit,up_pure]]
  exact ⟨⟨nm,1,nu⟩,⟨by unfold gVr;exact vl_bind (n := n) hnm.1 (vl_bind (n := n) (x := ()) vl_unit (vl_altT h13 (vl_bind (n := n) (x := ()) vl_unit (vl_bind (n := n) (g := gInt) (x := nu) (by unfold gInt;exact vl_altF h24 hnu) (vl_bind (n := n) (x := ()) vl_unit (vl_pure)))))),hnm.2⟩,rfl,s.pickT (hd := [_,_,_]) (tl := bs) (hd' := [_]) [0] rfl rfl⟩
 rw [acS_F h13]
 refine .sr<|.m Z Z<|.cs (X := Unit) Fx.call72 Z (fun W s => accept_ac K ((Suf.nd _).up (Suf.nm.up hq)) [98,111,111,108] (by decide +kernel) (s.pickT (hd := [_,_,_]) (tl := bs) (hd' := [_,_,_]) [0,1,2] Z Z)) Z fun _ _ => .a Z Z<|.nt<|.cd Z (fun h29 => ?_) (fun h29 => ?_)
 ·rw [acS_T h29]
  refine .sr<|.yv (.fieldAddr Z Fx.field151_1) Z<|.st (.tail<|.head) Z Z Fx.size149 Z (nb Z) Z<|.ns<|.m Z Z<|.cs (X := Unit) Fx.call73 Z (fun W s => expect_nd K (Suf.tl ((Suf.nd _).up (Suf.nm.up hq))) [61] (by decide +kernel) (s.pickT (hd := [_,_,_]) (tl := bs) (hd' := [_,_,_]) [0,1,2] Z Z)) Z fun _ _ => .ns<|.m Z Z<|.cs (X := Bool) Fx.call119 Z (fun W s => truth_st K ((Suf.nd _).up (Suf.tl ((Suf.nd _).up (Suf.nm.up hq))))  (s.pickT (hd := [_,_,_]) (tl := bs) (hd' := [_,_,_]) [0,1,2] Z Z)) Z fun tb htb => .nt<|.cd Z (fun h36 => ?_) (fun h36 => ?_)
  ·obtain rfl : tb = true := h36
   refine .rg<|.yv (.fieldAddr Z Fx.field151_2) Z<|.st (.tail<|.head) Z Z Fx.size2 Z (nb Z) Z<|.nl<|.bN<|.tN<|.sr<|.m Z Z<|.cs (X := Unit) Fx.call73 Z (fun W s => expect_nd K (Suf.tr.up ((Suf.nd _).up (Suf.tl ((Suf.nd _).up (Suf.nm.up hq))))) [59] (by decide +kernel) (s.pickT (hd := [_,_,_]) (tl := bs) (hd' := [_,_,_]) [0,1,2] Z Z)) Z fun _ _ => .ns<|.yv (.loadW Z Fx.agg151 (.tail _<|.head _) Z) Z<|.sW (.tail<|.tail<|.head) Z Z Fx.size151 (by simp [Value.oneCell',strV]) Z<|.nt<|.rt<|?_
   refine Sx.ret1 (.inl rfl) rfl (.cell rfl Fx.agg151 (.tail _<|.tail _<|.head _) rfl) fun W s => ?_
   rw [show up n gVr q = (up n (gNd [59]) (up n gTr (up n (gNd [61]) (up n (gNd [58]) (up n gNm q)).tl))) by unfold gVr;rw [up_bind Cz.nm hnm.1,up_bind (x := ()) (Cz.nd _) vl_unit,up_altF h13,up_altT h29,up_bind (x := ()) (Cz.nd _) vl_unit,up_bind Cz.tr htb,up_bind (x := ()) (Cz.nd _) vl_unit,up_pure]]
   exact ⟨⟨nm,2,1⟩,⟨by unfold gVr;exact vl_bind (n := n) hnm.1 (vl_bind (n := n) (x := ()) vl_unit (vl_altF h13 (vl_altT h29 (vl_bind (n := n) (x := ()) vl_unit (vl_bind (n := n) htb (vl_bind (n := n) (x := ()) vl_unit (vl_pure))))))),hnm.2⟩,rfl,s.pickT (hd := [_,_,_]) (tl := bs) (hd' := [_]) [0] rfl rfl⟩
  obtain rfl : tb = false := h36
  refine .sk<|.bN<|.tN<|.sr<|.m Z Z<|.cs (X := Unit) Fx.call73 Z (fun W s => expect_nd K (Suf.tr.up ((Suf.nd _).up (Suf.tl ((Suf.nd _).up (Suf.nm.up hq))))) [59] (by decide +kernel) (s.pickT (hd := [_,_,_]) (tl := bs) (hd' := [_,_,_]) [0,1,2] Z Z)) Z fun _ _ => .ns<|.yv (.loadW Z Fx.agg151 (.tail _<|.head _) Z) Z<|.sW (.tail<|.tail<|.head) Z Z Fx.size151 (by simp [Value.oneCell',strV]) Z<|.nt<|.rt<|?_
  refine Sx.ret1 (.inl rfl) rfl (.cell rfl Fx.agg151 (.tail _<|.tail _<|.head _) rfl) fun W s => ?_
  rw [show up n gVr q = (up n (gNd [59]) (up n gTr (up n (gNd [61]) (up n (gNd [58]) (up n gNm q)).tl))) by unfold gVr;rw [up_bind Cz.nm hnm.1,up_bind (x := ()) (Cz.nd _) vl_unit,up_altF h13,up_altT h29,up_bind (x := ()) (Cz.nd _) vl_unit,up_bind Cz.tr htb,up_bind (x := ()) (Cz.nd _) vl_unit,up_pure]]
  exact ⟨⟨nm,2,0⟩,⟨by unfold gVr;exact vl_bind (n := n) hnm.1 (vl_bind (n := n) (x := ()) vl_unit (vl_altF h13 (vl_altT h29 (vl_bind (n := n) (x := ()) vl_unit (vl_bind (n := n) htb (vl_bind (n := n) (x := ()) vl_unit (vl_pure))))))),hnm.2⟩,rfl,s.pickT (hd := [_,_,_]) (tl := bs) (hd' := [_]) [0] rfl rfl⟩
 rw [acS_F h29]
 refine .sr<|.yv (.fieldAddr Z Fx.field151_1) Z<|.st (.tail<|.head) Z Z Fx.size149 Z (nb Z) Z<|.nt<|.rg<|.m Z Z<|.cs (X := Unit) Fx.call73 Z (fun W s => expect_nd K ((Suf.nd _).up (Suf.nm.up hq)) [116,97,98,108,101] (by decide +kernel) (s.pickT (hd := [_,_,_]) (tl := bs) (hd' := [_,_,_]) [0,1,2] Z Z)) Z fun _ _ => .nl<|.bN<|.tN<|.sr<|.m Z Z<|.cs (X := Unit) Fx.call73 Z (fun W s => expect_nd K ((Suf.nd _).up ((Suf.nd _).up (Suf.nm.up hq))) [59] (by decide +kernel) (s.pickT (hd := [_,_,_]) (tl := bs) (hd' := [_,_,_]) [0,1,2] Z Z)) Z fun _ _ => .ns<|.yv (.loadW Z Fx.agg151 (.tail _<|.head _) Z) Z<|.sW (.tail<|.tail<|.head) Z Z Fx.size151 (by simp [Value.oneCell',strV]) Z<|.nt<|.rt<|?_
 refine Sx.ret1 (.inl rfl) rfl (.cell rfl Fx.agg151 (.tail _<|.tail _<|.head _) rfl) fun W s => ?_
 rw [show up n gVr q = (up n (gNd [59]) (up n (gNd [116,97,98,108,101]) (up n (gNd [58]) (up n gNm q)))) by unfold gVr;rw [up_bind Cz.nm hnm.1,up_bind (x := ()) (Cz.nd _) vl_unit,up_altF h13,up_altF h29,up_bind (x := ()) (Cz.nd _) vl_unit,up_bind (x := ()) (Cz.nd _) vl_unit,up_pure]]
 exact ⟨⟨nm,3,0⟩,⟨by unfold gVr;exact vl_bind (n := n) hnm.1 (vl_bind (n := n) (x := ()) vl_unit (vl_altF h13 (vl_altF h29 (vl_bind (n := n) (x := ()) vl_unit (vl_bind (n := n) (x := ()) vl_unit (vl_pure)))))),hnm.2⟩,rfl,s.pickT (hd := [_,_,_]) (tl := bs) (hd' := [_]) [0] rfl rfl⟩
theorem Fx.call98 : callN Tryz.prog 98 = Bool.true := by kernel_rfl
theorem Fx.bld148_0 (x0 : ByteArray) : buildN Tryz.prog 148 [(0,.string x0)] = some [.string x0,.int .i64 0,.int .i64 0] := by kernel_rfl
set_option maxRecDepth 100000 in
theorem truth_r {H : Hp} {w0 W : World} {bs : List Res} {b n : Nat} {t : Str} {ts : List Tk} {tp : Option Addr} {tc : Nat} {q : Sg} (K : Tkr H t n ts tp tc) (hq : q.r <:+ ts) (s : St H w0 (.box b [strV t,.slice tp ts.length tc,.int .i64 (posN ts q : Nat),.int .i64 (q.o : Nat),.int .i64 (q.e : Nat)] 75 :: bs) W) :
 Calls Tryz.prog 98 #[.pointer (some ⟨b,0,none⟩)] W fun e W' => ∃ x : Bool,(vl gTr q x) ∧ e = .returned (.bool x) ∧ St H w0 (.box b [strV t,.slice tp ts.length tc,.int .i64 (posN ts (up n gTr q) : Nat),.int .i64 ((up n gTr q).o : Nat),.int .i64 ((up n gTr q).e : Nat)] 75 :: bs) W' := by
 refine Sx.enterS Tryz.func98 rfl Tryz.ntmps98 rfl s ?_
 refine .sr<|.a Z Z<|.nt<|.sq<|.sr<|.m Z Z<|.cs (X := Unit) Fx.call54 Z (fun W s => take_r K hq [116,114,117,101] (s.pickT (hd := [_]) (tl := bs) (hd' := [_]) [0] Z Z)) Z fun _ _ => .nt<|.cd Z (fun h4 => ?_) (fun h4 => ?_)
 ·rw [acS_T h4]
  refine .sr<|.a Z Z<|.nt<|.rt<|.tR<|?_
  refine Sx.ret1 (.inl rfl) rfl (.tmp rfl) fun W s => ?_
  rw [show up n gTr q = q.tl by unfold gTr;rw [up_altT h4,up_pure]]
  exact ⟨true,by unfold gTr;exact vl_altT h4 vl_pure,rfl,s.pickT (hd := [_]) (tl := bs) (hd' := [_]) [0] rfl rfl⟩
 rw [acS_F h4]
 refine .sk<|.tN<|.sr<|.m Z Z<|.cs (X := Unit) Fx.call96 Z (fun W s => need_r K hq [102,97,108,115,101] (s.pickT (hd := [_]) (tl := bs) (hd' := [_]) [0] Z Z)) Z fun _ _ => .ns<|.a Z Z<|.nt<|.rt<|?_
 refine Sx.ret1 (.inl rfl) rfl (.tmp rfl) fun W s => ?_
 rw [show up n gTr q = up n (gNd [102,97,108,115,101]) q by unfold gTr;rw [up_altF h4,up_bind (x := ()) (Cz.nd _) vl_unit,up_pure]]
 exact ⟨false,by unfold gTr;exact vl_altF h4 (vl_bind (n := n) (x := ()) vl_unit vl_pure),rfl,s.pickT (hd := [_]) (tl := bs) (hd' := [_]) [0] rfl rfl⟩
set_option maxRecDepth 100000 in
theorem variable_r {H : Hp} {w0 W : World} {bs : List Res} {b n : Nat} {t : Str} {ts : List Tk} {tp : Option Addr} {tc : Nat} {q : Sg} (K : Tkr H t n ts tp tc) (hq : q.r <:+ ts) (s : St H w0 (.box b [strV t,.slice tp ts.length tc,.int .i64 (posN ts q : Nat),.int .i64 (q.o : Nat),.int .i64 (q.e : Nat)] 75 :: bs) W) :
 Calls Tryz.prog 136 #[.pointer (some ⟨b,0,none⟩)] W fun e W' => ∃ z : Vr,(vl gVr q z ∧ z.nm.length ≤ 1000000) ∧ e = .returned (.agg ([strV z.nm,.int .i64 z.ty.toNat,.int .i64 z.init.toInt] : List Value).toArray) ∧ St H w0 (.box b [strV t,.slice tp ts.length tc,.int .i64 (posN ts (up n gVr q) : Nat),.int .i64 ((up n gVr q).o : Nat),.int .i64 ((up n gVr q).e : Nat)] 75 :: bs) W' := by
 refine Sx.enterS Tryz.func136 rfl Tryz.ntmps136 rfl s ?_
 refine .sr<|.al Fx.zero148 Z fun b2 => .ns<|.m Z Z<|.cs (X := Str) Fx.call97 Z (fun W s => name_r K hq  (s.pickT (hd := [_,_]) (tl := bs) (hd' := [_,_]) [1,0] Z Z)) Z fun nm hnm => .yv (.build Z (Fx.bld148_0 _)) Z<|.al Fx.zero148 Z fun b3 => .sW .head Z Z Fx.size148 (by simp [Value.oneCell',strV]) Z<|.ns<|.m Z Z<|.cs (X := Unit) Fx.call96 Z (fun W s => need_r K (Suf.nm.up hq) [58] (s.pickT (hd := [_,_,_]) (tl := bs) (hd' := [_,_,_]) [1,0,2] Z Z)) Z fun _ _ => .nt<|.sq<|.bk<|.sr<|.m Z Z<|.cs (X := Unit) Fx.call54 Z (fun W s => take_r K ((Suf.nd _).up (Suf.nm.up hq)) [105,110,116] (s.pickT (hd := [_,_,_]) (tl := bs) (hd' := [_,_,_]) [0,1,2] Z Z)) Z fun _ _ => .a Z Z<|.nt<|.cd Z (fun h13 => ?_) (fun h13 => ?_)
 ·rw [acS_T h13]
  refine .sr<|.yv (.fieldAddr Z Fx.field148_1) Z<|.st (.tail<|.head) Z Z Fx.size3 Z (nb Z) Z<|.ns<|.m Z Z<|.cs (X := Unit) Fx.call96 Z (fun W s => need_r K (Suf.tl ((Suf.nd _).up (Suf.nm.up hq))) [61] (s.pickT (hd := [_,_,_]) (tl := bs) (hd' := [_,_,_]) [0,1,2] Z Z)) Z fun _ _ => .ns<|.m Z Z<|.cs (X := Unit) Fx.call54 Z (fun W s => take_r K ((Suf.nd _).up (Suf.tl ((Suf.nd _).up (Suf.nm.up hq)))) [45] (s.pickT (hd := [_,_,_]) (tl := bs) (hd' := [_,_,_]) [0,1,2] Z Z)) Z fun _ _ => .a Z Z<|.ns<|.m Z Z<|.cs (X := Int64) Fx.call99 Z (fun W s => number_r K (acS_suf ((Suf.nd _).up (Suf.tl ((Suf.nd _).up (Suf.nm.up hq)))))  (s.pickT (hd := [_,_,_]) (tl := bs) (hd' := [_,_,_]) [0,1,2] Z Z)) Z fun nu hnu => .yv (.fieldAddr Z Fx.field148_2) Z<|.st (.tail<|.head) Z Z Fx.size2 Z (nb Z) Z<|.ns<|.m Z Z<|.nt<|.cd Z (fun h24 => ?_) (fun h24 => ?_)
  ·rw [acS_T h24] at hnu ⊢
   refine .rg<|.yv (.fieldAddr Z Fx.field148_2) Z<|.yv (.load Z Fx.agg2 (.tail _<|.head _) Z) Z<|.yv (.neg Z (i64_neg nu)) Z<|.yv (.fieldAddr Z Fx.field148_2) Z<|.st (.tail<|.head) Z Z Fx.size2 Z (nb Z) Z<|.nl<|.bN<|.tN<|.sr<|.m Z Z<|.cs (X := Unit) Fx.call96 Z (fun W s => need_r K (Suf.nu.up (Suf.tl ((Suf.nd _).up (Suf.tl ((Suf.nd _).up (Suf.nm.up hq)))))) [59] (s.pickT (hd := [_,_,_]) (tl := bs) (hd' := [_,_,_]) [0,1,2] Z Z)) Z fun _ _ => .ns<|.yv (.loadW Z Fx.agg148 (.tail _<|.head _) Z) Z<|.sW (.tail<|.tail<|.head) Z Z Fx.size148 (by simp [Value.oneCell',strV]) Z<|.nt<|.rt<|?_
   refine Sx.ret1 (.inl rfl) rfl (.cell rfl Fx.agg148 (.tail _<|.tail _<|.head _) rfl) fun W s => ?_
   rw [show up n gVr q = (up n (gNd [59]) (up n gNu (up n (gNd [61]) (up n (gNd [58]) (up n gNm q)).tl).tl)) by unfold gVr;rw [up_bind Cz.nm hnm.1,up_bind (x := ()) (Cz.nd _) vl_unit,up_altT h13,up_bind (x := ()) (Cz.nd _) vl_unit,up_bind Cz.int (x := -nu) (by unfold gInt;exact vl_altT h24 (vl_map (f := fun v => -v) hnu))];unfold gInt;rw [up_altT h24,up_bind (x := ()) (Cz.nd _) vl_unit,up_pure,up_map]]
   exact ⟨⟨nm,1,(-nu)⟩,⟨by unfold gVr;exact vl_bind (n := n) hnm.1 (vl_bind (n := n) (x := ()) vl_unit (vl_altT h13 (vl_bind (n := n) (x := ()) vl_unit (vl_bind (n := n) (g := gInt) (x := -nu) (by unfold gInt;exact vl_altT h24 (vl_map (f := fun v => -v) hnu)) (vl_bind (n := n) (x := ()) vl_unit (vl_pure)))))),hnm.2⟩,rfl,s.pickT (hd := [_,_,_]) (tl := bs) (hd' := [_]) [0] rfl rfl⟩
  rw [acS_F h24] at hnu ⊢
  refine .sk<|.bN<|.tN<|.sr<|.m Z Z<|.cs (X := Unit) Fx.call96 Z (fun W s => need_r K (Suf.nu.up ((Suf.nd _).up (Suf.tl ((Suf.nd _).up (Suf.nm.up hq))))) [59] (s.pickT (hd := [_,_,_]) (tl := bs) (hd' := [_,_,_]) [0,1,2] Z Z)) Z fun _ _ => .ns<|.yv (.loadW Z Fx.agg148 (.tail _<|.head _) Z) Z<|.sW (.tail<|.tail<|.head) Z Z Fx.size148 (by simp [Value.oneCell',strV]) Z<|.nt<|.rt<|?_
  refine Sx.ret1 (.inl rfl) rfl (.cell rfl Fx.agg148 (.tail _<|.tail _<|.head _) rfl) fun W s => ?_
  rw [show up n gVr q = (up n (gNd [59]) (up n gNu (up n (gNd [61]) (up n (gNd [58]) (up n gNm q)).tl))) by unfold gVr;rw [up_bind Cz.nm hnm.1,up_bind (x := ()) (Cz.nd _) vl_unit,up_altT h13,up_bind (x := ()) (Cz.nd _) vl_unit,up_bind Cz.int (x := nu) (by unfold gInt;exact vl_altF h24 hnu)];unfold gInt;rw [up_altF h24,up_bind (x := ()) (Cz.nd _) vl_unit,up_pure]]
  exact ⟨⟨nm,1,nu⟩,⟨by unfold gVr;exact vl_bind (n := n) hnm.1 (vl_bind (n := n) (x := ()) vl_unit (vl_altT h13 (vl_bind (n := n) (x := ()) vl_unit (vl_bind (n := n) (g := gInt) (x := nu) (by unfold gInt;exact vl_altF h24 hnu) (vl_bind (n := n) (x := ()) vl_unit (vl_pure)))))),hnm.2⟩,rfl,s.pickT (hd := [_,_,_]) (tl := bs) (hd' := [_]) [0] rfl rfl⟩
 rw [acS_F h13]
 refine .sr<|.m Z Z<|.cs (X := Unit) Fx.call54 Z (fun W s => take_r K ((Suf.nd _).up (Suf.nm.up hq)) [98,111,111,108] (s.pickT (hd := [_,_,_]) (tl := bs) (hd' := [_,_,_]) [0,1,2] Z Z)) Z fun _ _ => .a Z Z<|.nt<|.cd Z (fun h29 => ?_) (fun h29 => ?_)
 ·rw [acS_T h29]
  refine .sr<|.yv (.fieldAddr Z Fx.field148_1) Z<|.st (.tail<|.head) Z Z Fx.size3 Z (nb Z) Z<|.ns<|.m Z Z<|.cs (X := Unit) Fx.call96 Z (fun W s => need_r K (Suf.tl ((Suf.nd _).up (Suf.nm.up hq))) [61] (s.pickT (hd := [_,_,_]) (tl := bs) (hd' := [_,_,_]) [0,1,2] Z Z)) Z fun _ _ => .ns<|.m Z Z<|.cs (X := Bool) Fx.call98 Z (fun W s => truth_r K ((Suf.nd _).up (Suf.tl ((Suf.nd _).up (Suf.nm.up hq))))  (s.pickT (hd := [_,_,_]) (tl := bs) (hd' := [_,_,_]) [0,1,2] Z Z)) Z fun tb htb => .nt<|.cd Z (fun h36 => ?_) (fun h36 => ?_)
  ·obtain rfl : tb = true := h36
   refine .rg<|.yv (.fieldAddr Z Fx.field148_2) Z<|.st (.tail<|.head) Z Z Fx.size2 Z (nb Z) Z<|.nl<|.bN<|.tN<|.sr<|.m Z Z<|.cs (X := Unit) Fx.call96 Z (fun W s => need_r K (Suf.tr.up ((Suf.nd _).up (Suf.tl ((Suf.nd _).up (Suf.nm.up hq))))) [59] (s.pickT (hd := [_,_,_]) (tl := bs) (hd' := [_,_,_]) [0,1,2] Z Z)) Z fun _ _ => .ns<|.yv (.loadW Z Fx.agg148 (.tail _<|.head _) Z) Z<|.sW (.tail<|.tail<|.head) Z Z Fx.size148 (by simp [Value.oneCell',strV]) Z<|.nt<|.rt<|?_
   refine Sx.ret1 (.inl rfl) rfl (.cell rfl Fx.agg148 (.tail _<|.tail _<|.head _) rfl) fun W s => ?_
   rw [show up n gVr q = (up n (gNd [59]) (up n gTr (up n (gNd [61]) (up n (gNd [58]) (up n gNm q)).tl))) by unfold gVr;rw [up_bind Cz.nm hnm.1,up_bind (x := ()) (Cz.nd _) vl_unit,up_altF h13,up_altT h29,up_bind (x := ()) (Cz.nd _) vl_unit,up_bind Cz.tr htb,up_bind (x := ()) (Cz.nd _) vl_unit,up_pure]]
   exact ⟨⟨nm,2,1⟩,⟨by unfold gVr;exact vl_bind (n := n) hnm.1 (vl_bind (n := n) (x := ()) vl_unit (vl_altF h13 (vl_altT h29 (vl_bind (n := n) (x := ()) vl_unit (vl_bind (n := n) htb (vl_bind (n := n) (x := ()) vl_unit (vl_pure))))))),hnm.2⟩,rfl,s.pickT (hd := [_,_,_]) (tl := bs) (hd' := [_]) [0] rfl rfl⟩
  obtain rfl : tb = false := h36
  refine .sk<|.bN<|.tN<|.sr<|.m Z Z<|.cs (X := Unit) Fx.call96 Z (fun W s => need_r K (Suf.tr.up ((Suf.nd _).up (Suf.tl ((Suf.nd _).up (Suf.nm.up hq))))) [59] (s.pickT (hd := [_,_,_]) (tl := bs) (hd' := [_,_,_]) [0,1,2] Z Z)) Z fun _ _ => .ns<|.yv (.loadW Z Fx.agg148 (.tail _<|.head _) Z) Z<|.sW (.tail<|.tail<|.head) Z Z Fx.size148 (by simp [Value.oneCell',strV]) Z<|.nt<|.rt<|?_
  refine Sx.ret1 (.inl rfl) rfl (.cell rfl Fx.agg148 (.tail _<|.tail _<|.head _) rfl) fun W s => ?_
  rw [show up n gVr q = (up n (gNd [59]) (up n gTr (up n (gNd [61]) (up n (gNd [58]) (up n gNm q)).tl))) by unfold gVr;rw [up_bind Cz.nm hnm.1,up_bind (x := ()) (Cz.nd _) vl_unit,up_altF h13,up_altT h29,up_bind (x := ()) (Cz.nd _) vl_unit,up_bind Cz.tr htb,up_bind (x := ()) (Cz.nd _) vl_unit,up_pure]]
  exact ⟨⟨nm,2,0⟩,⟨by unfold gVr;exact vl_bind (n := n) hnm.1 (vl_bind (n := n) (x := ()) vl_unit (vl_altF h13 (vl_altT h29 (vl_bind (n := n) (x := ()) vl_unit (vl_bind (n := n) htb (vl_bind (n := n) (x := ()) vl_unit (vl_pure))))))),hnm.2⟩,rfl,s.pickT (hd := [_,_,_]) (tl := bs) (hd' := [_]) [0] rfl rfl⟩
 rw [acS_F h29]
 refine .sr<|.yv (.fieldAddr Z Fx.field148_1) Z<|.st (.tail<|.head) Z Z Fx.size3 Z (nb Z) Z<|.nt<|.rg<|.m Z Z<|.cs (X := Unit) Fx.call96 Z (fun W s => need_r K ((Suf.nd _).up (Suf.nm.up hq)) [116,97,98,108,101] (s.pickT (hd := [_,_,_]) (tl := bs) (hd' := [_,_,_]) [0,1,2] Z Z)) Z fun _ _ => .nl<|.bN<|.tN<|.sr<|.m Z Z<|.cs (X := Unit) Fx.call96 Z (fun W s => need_r K ((Suf.nd _).up ((Suf.nd _).up (Suf.nm.up hq))) [59] (s.pickT (hd := [_,_,_]) (tl := bs) (hd' := [_,_,_]) [0,1,2] Z Z)) Z fun _ _ => .ns<|.yv (.loadW Z Fx.agg148 (.tail _<|.head _) Z) Z<|.sW (.tail<|.tail<|.head) Z Z Fx.size148 (by simp [Value.oneCell',strV]) Z<|.nt<|.rt<|?_
 refine Sx.ret1 (.inl rfl) rfl (.cell rfl Fx.agg148 (.tail _<|.tail _<|.head _) rfl) fun W s => ?_
 rw [show up n gVr q = (up n (gNd [59]) (up n (gNd [116,97,98,108,101]) (up n (gNd [58]) (up n gNm q)))) by unfold gVr;rw [up_bind Cz.nm hnm.1,up_bind (x := ()) (Cz.nd _) vl_unit,up_altF h13,up_altF h29,up_bind (x := ()) (Cz.nd _) vl_unit,up_bind (x := ()) (Cz.nd _) vl_unit,up_pure]]
 exact ⟨⟨nm,3,0⟩,⟨by unfold gVr;exact vl_bind (n := n) hnm.1 (vl_bind (n := n) (x := ()) vl_unit (vl_altF h13 (vl_altF h29 (vl_bind (n := n) (x := ()) vl_unit (vl_bind (n := n) (x := ()) vl_unit (vl_pure)))))),hnm.2⟩,rfl,s.pickT (hd := [_,_,_]) (tl := bs) (hd' := [_]) [0] rfl rfl⟩
theorem Fx.call148 : callN Tryz.prog 148 = Bool.true := by kernel_rfl
theorem Fx.size52 : sizeN Tryz.prog 52 = Option.some 1 := by kernel_rfl
theorem dstr_shut {H : Hp} {x : Str} (h : x.length ≤ 1000000) : Rep H (dStr x) [strV x] := by
 unfold dStr Rep
 exact ⟨rfl,rfl,okS.2 h⟩
set_option maxRecDepth 100000 in
theorem pname_st {H : Hp} {w0 W : World} {bs : List Res} {b n : Nat} {ts : List Tk} {tp : Option Addr} {tc : Nat} {t0 t1 t2 t3 : Value} {q : Sg} (K : Tkm H ts tp tc) (hq : q.r <:+ ts) (bH bP : Nat) (c0 c2 : Value) (ps : List Str) (k0 : Nat) (hk0 : k0 = ps.length) (vp : Option Addr) (vc : Nat) (xs0 : List Value) (hz : RepZ H 1 (ps.map dStr) xs0) (hk : k0 ≤ 1000000) (s : St H w0 (.row 9 1 (.slice vp k0 vc) k0 xs0 :: .box b [.slice tp ts.length tc,.int .i64 (posN ts q : Nat),.int .i64 (n : Nat),t0,t1,t2,t3,.int .i64 (q.o : Nat),.int .i64 (q.e : Nat)] 99 :: .box bH [c0,.slice vp k0 vc,c2] 162 :: .box bP [.pointer (some ⟨b,0,none⟩)] 65 :: bs) W) :
 Calls Tryz.prog 148 #[.pointer (some ⟨bH,0,none⟩),.pointer (some ⟨bP,0,none⟩)] W fun e W' => ∃ z : Str × Nat × Option Addr × Nat × List Value × Hp,(vl gNm q z.1 ∧ z.2.1 = ps.length + 1 ∧ HUp w0 H z.2.2.2.2.2 ∧ RepZ z.2.2.2.2.2 1 ((ps ++ [z.1]).map dStr) z.2.2.2.2.1) ∧ e = .returned (.tuple #[]) ∧ St z.2.2.2.2.2 w0 (.row 9 1 (.slice z.2.2.1 z.2.1 z.2.2.2.1) z.2.1 z.2.2.2.2.1 :: .box b [.slice tp ts.length tc,.int .i64 (posN ts (up n gNm q) : Nat),.int .i64 (n : Nat),t0,t1,t2,t3,.int .i64 ((up n gNm q).o : Nat),.int .i64 ((up n gNm q).e : Nat)] 99 :: .box bH [c0,.slice z.2.2.1 z.2.1 z.2.2.2.1,c2] 162 :: .box bP [.pointer (some ⟨b,0,none⟩)] 65 :: bs) W' := by
 subst hk0
 refine Sx.enterS Tryz.func148 rfl Tryz.ntmps148 rfl s ?_
 refine .fl (trip := [(_,_,_),(_,_,_),(_,_,_),(_,_,_),(_,_,_),(_,_,_)]) 6 [(0,0),(1,0),(2,0),(3,3),(4,1),(5,3)] (by kernel_rfl) (by kernel_rfl) Z<|.yv (.fieldAddr Z Fx.field162_1) Z<|.yv (.load Z Fx.agg52 (.tail _<|.tail _<|.head _) Z) Z<|.yv (.load Z Fx.agg65 (.tail _<|.tail _<|.tail _<|.head _) Z) Z<|.c3 (X := Str) Fx.call74 Z (fun W s => name_st K hq  (s.pickT (hd := [_,_,_,_]) (tl := bs) (hd' := [_,_,_,_]) [1,0,2,3] Z Z)) Z (fun _ _ => (.done (by kernel_rfl)<|.yv (.load Z Fx.agg52 (.tail _<|.tail _<|.head _) Z)<|.yv (.fieldAddr Z Fx.field162_1)<|.nl)) fun nm hnm => .blF Z (Fx.bsl52_1 _) Z fun b6 H2 u2 m2 => .apD Fx.row52 Z (fun _ _ => (.tail<|.head)) Z (Rep.mk (n := 1) (c := 1) (ds := [dStr nm]) m2 (.single (dstr_shut hnm.2) Z) Z (Nat.le_refl _) (by decide)) (by simp only [maxLen];omega) (by omega) Z (fun _ _ => (.done (by kernel_rfl)<|.done (by kernel_rfl)<|.done (by kernel_rfl)<|.nl)) fun xs7 p7 c7 hz7 => .fn (tl := [_,_]) Z<|.yv (.fieldAddr Z Fx.field162_1) Z<|.st (.tail<|.tail<|.head) Z Z Fx.size52 Z (nb Z) Z<|.nl<|?_
 refine Sx.retN (.inr rfl) rfl .nil rfl fun W s => ⟨(nm,ps.length + 1,p7,c7,xs0 ++ xs7,H2),⟨hnm.1,rfl,u2,(by rw [List.map_append];exact (hz.up u2.up).app hz7)⟩,rfl,?_⟩
 exact s.pickT (hd := [_,_,_,_]) (tl := bs) (hd' := [_,_,_,_]) [1,0,2,3] rfl rfl
set_option maxRecDepth 100000 in
theorem names_st {H : Hp} {w0 W : World} {bs : List Res} {b n : Nat} {ts : List Tk} {tp : Option Addr} {tc : Nat} {t0 t1 t2 t3 : Value} {q : Sg} (K : Tkm H ts tp tc) (hq : q.r <:+ ts) (bH bP : Nat) (c0 c2 : Value) (ps : List Str) (k0 : Nat) (hk0 : k0 = ps.length) (vp : Option Addr) (vc : Nat) (xs0 : List Value) (hz : RepZ H 1 (ps.map dStr) xs0) (hk : k0 + q.mu ≤ 900000) (s : St H w0 (.row 9 1 (.slice vp k0 vc) k0 xs0 :: .box b [.slice tp ts.length tc,.int .i64 (posN ts q : Nat),.int .i64 (n : Nat),t0,t1,t2,t3,.int .i64 (q.o : Nat),.int .i64 (q.e : Nat)] 99 :: .box bH [c0,.slice vp k0 vc,c2] 162 :: .box bP [.pointer (some ⟨b,0,none⟩)] 65 :: bs) W) :
 Calls Tryz.prog 147 #[.pointer (some ⟨b,0,none⟩),.func (.func 148) #[] #[.pointer (some ⟨bH,0,none⟩),.pointer (some ⟨bP,0,none⟩)]] W fun e W' => ∃ z : List Str × Nat × Option Addr × Nat × List Value × Hp,(vl (gList gNm) q z.1 ∧ z.2.1 = ps.length + z.1.length ∧ HUp w0 H z.2.2.2.2.2 ∧ RepZ z.2.2.2.2.2 1 ((ps ++ z.1).map dStr) z.2.2.2.2.1) ∧ e = .returned (.tuple #[]) ∧ St z.2.2.2.2.2 w0 (.row 9 1 (.slice z.2.2.1 z.2.1 z.2.2.2.1) z.2.1 z.2.2.2.2.1 :: .box b [.slice tp ts.length tc,.int .i64 (posN ts (up n (gList gNm) q) : Nat),.int .i64 (n : Nat),t0,t1,t2,t3,.int .i64 ((up n (gList gNm) q).o : Nat),.int .i64 ((up n (gList gNm) q).e : Nat)] 99 :: .box bH [c0,.slice z.2.2.1 z.2.1 z.2.2.2.1,c2] 162 :: .box bP [.pointer (some ⟨b,0,none⟩)] 65 :: bs) W' := by
 refine Sx.enterS Tryz.func147 rfl Tryz.ntmps147 rfl s ?_
 refine .sr<|.m Z Z<|.cs (X := Unit) Fx.call73 Z (fun W s => expect_nd K hq [40] (by decide +kernel) (s.pickT (hd := [_,_,_,_]) (tl := bs) (hd' := [_,_,_,_]) [1,0,2,3] Z Z)) Z fun _ _ => .nt<|.sq<|.sr<|.m Z Z<|.cs (X := Unit) Fx.call72 Z (fun W s => accept_ac K ((Suf.nd _).up hq) [41] (by decide +kernel) (s.pickT (hd := [_,_,_,_]) (tl := bs) (hd' := [_,_,_,_]) [0,1,2,3] Z Z)) Z fun _ _ => .nt<|.cd Z (fun h7 => ?_) (fun h7 => ?_)
 ·rw [acS_T h7]
  refine .rt<|.tR<|?_
  refine Sx.retN (.inl rfl) rfl .nil rfl fun W s => ⟨([],k0,vp,vc,xs0,H),⟨(by unfold gList;exact vl_bind (n := n) (x := ()) vl_unit (vl_altT h7 vl_pure)),hk0,.refl,(by rw [List.append_nil];exact hz)⟩,rfl,?_⟩
  rw [show up n (gList gNm) q = (up n (gNd [40]) q).tl by unfold gList;rw [up_bind (x := ()) (Cz.nd _) vl_unit,up_altT h7,up_pure]]
  exact s.pickT (hd := [_,_,_,_]) (tl := bs) (hd' := [_,_,_,_]) [1,0,2,3] rfl rfl
 rw [acS_F h7]
 refine .sk<|.tN<|.sr<|.m Z Z<|.sv (X := Str × Nat × Option Addr × Nat × List Value × Hp) (fi := []) (ca := [.pointer (some ⟨bH,0,none⟩),.pointer (some ⟨bP,0,none⟩)]) Z Fx.call148 Z (fun W s => pname_st K ((Suf.nd _).up hq) bH bP c0 c2 ps k0 hk0 vp vc xs0 hz (by omega) (s.pickT (hd := [_,_,_,_]) (tl := bs) (hd' := [_,_,_,_]) [1,0,2,3] Z Z)) Z fun z1 hz1 => ?_
 obtain ⟨e1,k1,p1,c1',xs1,H1⟩ := z1
 obtain ⟨hv1,hk1,u1,hz1⟩ := hz1
 dsimp only at hv1 hk1 u1 hz1 ⊢
 have K1 := K.up u1.up
 refine .nt<|.sq<|.bk<|.lp (X := List Str × Nat × Option Addr × Nat × List Value × Hp × Sg) [(0,_),(1,_)] ⟨rfl,rfl,trivial⟩ (_ :: bs) (fun y => []) (fun y => y.2.2.2.2.2.1) (fun y => [.row 9 1 (.slice y.2.2.1 y.2.1 y.2.2.2.1) y.2.1 y.2.2.2.2.1,.box b [.slice tp ts.length tc,.int .i64 (posN ts y.2.2.2.2.2.2 : Nat),.int .i64 (n : Nat),t0,t1,t2,t3,.int .i64 (y.2.2.2.2.2.2.o : Nat),.int .i64 (y.2.2.2.2.2.2.e : Nat)] 99,.box bH [c0,.slice y.2.2.1 y.2.1 y.2.2.2.1,c2] 162]) (fun y => ∃ l,y.1 = e1 :: l ∧ MnI n [44] gNm (up n gNm (up n (gNd [40]) q)) l y.2.2.2.2.2.2 ∧ y.2.1 = ps.length + y.1.length ∧ HUp w0 H y.2.2.2.2.2.1 ∧ RepZ y.2.2.2.2.2.1 1 ((ps ++ y.1).map dStr) y.2.2.2.2.1 ∧ y.2.2.2.2.2.2.r <:+ ts) (fun y => y.2.2.2.2.2.2.mu) ([e1],k1,p1,c1',xs1,H1,up n gNm (up n (gNd [40]) q)) (fun _ s => s) trivial ⟨[],rfl,MnI.start,hk1,u1,hz1,Suf.nm.up ((Suf.nd _).up hq)⟩ fun y hC => ?_
 obtain ⟨l0,k,p,c,xs,H2,q2⟩ := y
 obtain ⟨l,hl0,hI,hkl,u2,hzl,hq2⟩ := hC
 dsimp only at hl0 hI hkl u2 hzl hq2 ⊢
 subst hl0
 have K2 := K.up u2.up
 have hlen := hI.len
 have hmu2 := mu_up (n := n) (s := (up n (gNd [40]) q)) Shs.nm.le Cz.nm
 have hmu1 := mu_up (n := n) (s := q) (Shs.nd [40]).le (Cz.nd [40])
 rw [List.length_cons] at hkl
 refine .sq<|.sr<|.m Z Z<|.cs (X := Unit) Fx.call72 Z (fun W s => accept_ac K2 hq2 [44] (by decide +kernel) (s.pickT (hd := [_,_,_,_]) (tl := bs) (hd' := [_,_,_,_]) [1,0,2,3] Z Z)) Z fun _ _ => .nt<|.cd Z (fun h11 => ?_) (fun h11 => ?_)
 ·rw [acS_T h11]
  refine .sk<|.tN<|.bk<|.rg<|.m Z Z<|.sv (X := Str × Nat × Option Addr × Nat × List Value × Hp) (fi := []) (ca := [.pointer (some ⟨bH,0,none⟩),.pointer (some ⟨bP,0,none⟩)]) Z Fx.call148 Z (fun W s => pname_st K2 (Suf.tl hq2) bH bP c0 c2 (ps ++ (e1 :: l)) k (by rw [List.length_append,List.length_cons];exact hkl) p c xs hzl (by omega) (s.pickT (hd := [_,_,_,_]) (tl := bs) (hd' := [_,_,_,_]) [1,0,2,3] Z Z)) Z fun z3 hz3 => ?_
  obtain ⟨e3,k3,p3,c3,xs3,H3⟩ := z3
  obtain ⟨hv3,hk3,u3,hz3⟩ := hz3
  dsimp only at hv3 hk3 u3 hz3 ⊢
  exact .nl<|.bN<|.tN<|.ag (x := (e1 :: l,k,p,c,xs,H2,q2)) ((e1 :: l) ++ [e3],k3,p3,c3,xs3,H3,up n gNm q2.tl) trivial ⟨rfl,rfl,trivial⟩ (fun _ s => s) ⟨l ++ [e3],rfl,(hI.step Shs.nm.le Cz.nm h11 hv3).1,(by dsimp only;rw [List.length_append] at hk3;simp only [List.length_append,List.length_cons,List.length_nil] at *;omega),u2.trans u3,(by dsimp only;rw [← List.append_assoc];exact hz3),Suf.nm.up (Suf.tl hq2)⟩ (hI.step Shs.nm.le Cz.nm h11 hv3).2
 rw [acS_F h11]
 obtain ⟨eS,hvS⟩ := hI.stop Shs.nm.le h11
 refine .ex<|.tE<|.tE<|.bE<|.tN<|.rg<|.m Z Z<|.cs (X := Unit) Fx.call73 Z (fun W s => expect_nd K2 hq2 [41] (by decide +kernel) (s.pickT (hd := [_,_,_,_]) (tl := bs) (hd' := [_,_,_,_]) [0,1,2,3] Z Z)) Z fun _ _ => .nl<|?_
 refine Sx.retN (.inr rfl) rfl .nil rfl fun W s => ⟨(e1 :: l,k,p,c,xs,H2),⟨(by unfold gList;exact vl_bind (n := n) (x := ()) vl_unit (vl_altF h7 (vl_bind (n := n) hv1 (vl_bind (n := n) hvS (vl_bind (n := n) (x := ()) vl_unit vl_pure))))),(by dsimp only;rw [List.length_cons];exact hkl),u2,hzl⟩,rfl,?_⟩
 rw [show up n (gList gNm) q = up n (gNd [41]) q2 by unfold gList;rw [up_bind (x := ()) (Cz.nd _) vl_unit,up_altF h7,up_bind Cz.nm hv1,up_bind (.many Cz.nm) hvS,eS,up_bind (x := ()) (Cz.nd _) vl_unit,up_pure]]
 exact s.pickT (hd := [_,_,_,_]) (tl := bs) (hd' := [_,_,_,_]) [1,0,2,3] rfl rfl
theorem Fx.bld162_0 (x0 : ByteArray) : buildN Tryz.prog 162 [(0,.string x0)] = some [.string x0,.slice none 0 0,.slice none 0 0] := by kernel_rfl
set_option maxRecDepth 100000 in
theorem version_st {H : Hp} {w0 W : World} {bs : List Res} {b n : Nat} {ts : List Tk} {tp : Option Addr} {tc : Nat} {t0 t1 t2 t3 : Value} {q : Sg} (K : Tkm H ts tp tc) (hq : q.r <:+ ts) (hmu : q.mu ≤ 700000) (s : St H w0 (.box b [.slice tp ts.length tc,.int .i64 (posN ts q : Nat),.int .i64 (n : Nat),t0,t1,t2,t3,.int .i64 (q.o : Nat),.int .i64 (q.e : Nat)] 99 :: bs) W) :
 Calls Tryz.prog 122 #[.pointer (some ⟨b,0,none⟩)] W fun e W' => ∃ z : List Hd × Value × Hp,(vl gVs q z.1 ∧ HUp w0 H z.2.2 ∧ Rep z.2.2 (dVs .u8 z.1) [z.2.1]) ∧ e = .returned (.agg ([z.2.1] : List Value).toArray) ∧ St z.2.2 w0 (.box b [.slice tp ts.length tc,.int .i64 (posN ts (up n gVs q) : Nat),.int .i64 (n : Nat),t0,t1,t2,t3,.int .i64 ((up n gVs q).o : Nat),.int .i64 ((up n gVs q).e : Nat)] 99 :: bs) W' := by
 refine Sx.enterS Tryz.func122 rfl Tryz.ntmps122 rfl s ?_
 refine .sr<|.bx Z Z Z fun b1 => .al Fx.zero155 Z fun b2 => .ns<|.al Fx.zero155 Z fun b3 => ?_
 refine Sx.row0 162 3 ?_
 refine .nt<|.sq<|.bk<|.lp (X := List Hd × Nat × Option Addr × Nat × List Value × Hp × Sg) [(1,_),(2,_),(3,_)] ⟨rfl,rfl,rfl,trivial⟩ (_ :: _ :: bs) (fun z => []) (fun z => z.2.2.2.2.2.1) (fun z => [.row 162 3 (.slice z.2.2.1 z.2.1 z.2.2.2.1) z.2.1 z.2.2.2.2.1,.box b [.slice tp ts.length tc,.int .i64 (posN ts z.2.2.2.2.2.2 : Nat),.int .i64 (n : Nat),t0,t1,t2,t3,.int .i64 (z.2.2.2.2.2.2.o : Nat),.int .i64 (z.2.2.2.2.2.2.e : Nat)] 99,.box b3 [.slice z.2.2.1 z.2.1 z.2.2.2.1] 155]) (fun z => MnI n [111,110] gHd q z.1 z.2.2.2.2.2.2 ∧ z.2.1 = z.1.length ∧ HUp w0 H z.2.2.2.2.2.1 ∧ RepZ z.2.2.2.2.2.1 3 (z.1.map (dHd .u8)) z.2.2.2.2.1 ∧ z.2.2.2.2.2.2.r <:+ ts) (fun z => z.2.2.2.2.2.2.mu) ([],0,none,0,[],H,q) (fun _ s => (s.pickT (hd := [_,_,_,_,_]) (tl := bs) (hd' := [_,_,_,_,_]) [0,4,1,2,3] Z Z)) trivial ⟨MnI.start,rfl,.refl,RepZ.nil,hq⟩ fun z hC => ?_
 obtain ⟨l,k,p,c,xs,H1,q1⟩ := z
 obtain ⟨hI,hk1,u1,hz1,hq1⟩ := hC
 dsimp only at hI hk1 u1 hz1 hq1 ⊢
 have K1 := K.up u1.up
 have hlen := hI.len
 refine .sq<|.sr<|.yv (.load Z Fx.agg65 (.tail _<|.tail _<|.tail _<|.tail _<|.head _) Z) Z<|.cs (X := Unit) Fx.call72 Z (fun W s => accept_ac K1 hq1 [111,110] (by decide +kernel) (s.pickT (hd := [_,_,_,_,_]) (tl := bs) (hd' := [_,_,_,_,_]) [1,0,2,3,4] Z Z)) Z fun _ _ => .nt<|.cd Z (fun h6 => ?_) (fun h6 => ?_)
 ·rw [acS_T h6]
  have hlt := mu_tl h6
  have m1 := mu_up (n := n) (s := q1.tl) Shs.nm.le Cz.nm
  have m2 := mu_up (n := n) (s := (up n gNm q1.tl)) (Shs.list Shs.nm.le).le (Cz.list Cz.nm)
  refine .sk<|.tN<|.bk<|.sr<|.yv (.load Z Fx.agg65 (.tail _<|.tail _<|.tail _<|.tail _<|.head _) Z) Z<|.cs (X := Str) Fx.call74 Z (fun W s => name_st K1 (Suf.tl hq1)  (s.pickT (hd := [_,_,_,_,_]) (tl := bs) (hd' := [_,_,_,_,_]) [0,1,2,3,4] Z Z)) Z fun nm8 hnm8 => .yv (.build Z (Fx.bld162_0 _)) Z<|.al Fx.zero162 Z fun b4 => ?_
  refine Sx.row0 9 1 ?_
  refine .sW (.tail<|.head) Z Z Fx.size162 (by simp [Value.oneCell',strV]) Z<|.ns<|.yv (.load Z Fx.agg65 (.tail _<|.tail _<|.tail _<|.tail _<|.tail _<|.tail _<|.head _) Z) Z<|.yv (.mkF Z Z) Z<|.cs (X := List Str × Nat × Option Addr × Nat × List Value × Hp) Fx.call147 Z (fun W s => names_st K1 (Suf.nm.up (Suf.tl hq1)) b4 b1 _ _ [] 0 Z none 0 [] RepZ.nil (by omega) (s.pickT (hd := [_,_,_,_,_,_,_]) (tl := bs) (hd' := [_,_,_,_,_,_,_]) [0,2,1,6,3,4,5] Z Z)) Z fun z12 hz12 => ?_
  obtain ⟨l12,k12,p12,c12',xs12,H12⟩ := z12
  obtain ⟨hv12,hk12,u12,hz12⟩ := hz12
  dsimp only at hv12 hk12 u12 hz12 ⊢
  have K12 := K1.up u12.up
  refine .ns<|.yv (.load Z Fx.agg65 (.tail _<|.tail _<|.tail _<|.head _) Z) Z<|.cs (X := List Sm × Value × Hp) Fx.call149 Z (fun W s => (blocks_all 800000 (Nat.le_refl _)).2 K12 ((Suf.list Suf.nm).up (Suf.nm.up (Suf.tl hq1))) (by omega) (s.pickT (hd := [_,_,_,_,_,_,_]) (tl := bs) (hd' := [_,_,_,_,_,_,_]) [1,0,2,3,4,5,6] Z Z)) Z fun z14 hz14 => ?_
  obtain ⟨l14,v14,H14⟩ := z14
  obtain ⟨hv14,u14,r14⟩ := hz14
  dsimp only at hv14 u14 r14 ⊢
  obtain ⟨p14,c14',e14',_⟩ := r14.sl
  simp only [List.cons.injEq,and_true] at e14'
  subst e14'
  refine Sx.reSt (fun W s => s.pickT (hd := [_,_,_,_,_,_,_]) (tl := bs) (hd' := [_,_,_,_,_,_,_]) [1,0,2,3,4,5,6] rfl rfl) ?_
  refine Sx.freezeSeq (ds := l12.map dStr) (by rw [List.length_map];simpa using hk12.symm) (hz12.up u14.up) fun HF pF cF uF eF hF => ?_
  have KF := K12.up (u14.trans uF).up
  have hvH : vl gHd q1.tl ⟨nm8,l12,l14⟩ := vl_bind (n := n) hnm8.1 (vl_bind (n := n) hv12 (vl_bind (n := n) hv14 vl_pure))
  rw [show (up n (gBlk gB) (up n (gList gNm) (up n gNm q1.tl))) = up n gHd q1.tl by unfold gHd;rw [up_bind Cz.nm hnm8.1,up_bind (Cz.list Cz.nm) hv12,up_bind Cz.blk hv14,up_pure]]
  refine .yv (.fieldAddr Z Fx.field162_2) Z<|.st (.tail<|.head) Z Z Fx.size159 Z (nb Z) Z<|.nt<|.rg<|.yv (.fieldAddr Z Fx.field155_0) Z<|.yv (.load Z Fx.agg153 (.tail _<|.tail _<|.tail _<|.tail _<|.head _) Z) Z<|.yv (.loadW Z Fx.agg162 (.tail _<|.head _) Z) Z<|.bl Z (Fx.bsl153_1 _ _ _) Z fun b19 => ?_
  refine Sx.freezeBox fun H19 u19 m19 => ?_
  refine .apD Fx.row153 Z (fun _ _ => (.tail<|.tail<|.tail<|.head)) Z (Rep.mk (n := 1) (c := 1) (ds := [dHd .u8 ⟨nm8,l12,l14⟩]) m19 (.single (hd_shut (x := ⟨nm8,l12,l14⟩) hnm8.2 (hF.up u19.up) (r14.up (uF.trans u19).up)) Z) Z (Nat.le_refl _) (by decide)) (by simp only [maxLen];omega) (by omega) Z fun xs20 r20 hz20 => ?_
  refine At.ra (.tail _<|.tail _<|.tail _<|.head _) fun p20 c20 e20 => ?_
  subst e20
  exact .yv (.fieldAddr Z Fx.field155_0) Z<|.st (.tail<|.tail<|.tail<|.tail<|.head) Z Z Fx.size153 Z (nb Z) Z<|.nl<|.bN<|.tN<|.ag (x := (l,k,p,c,xs,H1,q1)) (l ++ [⟨nm8,l12,l14⟩],k + 1,p20,c20,xs ++ xs20,H19,up n gHd q1.tl) trivial ⟨rfl,rfl,rfl,trivial⟩ (fun _ s => (s.pickT (hd := [_,_,_,_,_,_]) (tl := bs) (hd' := [_,_,_,_,_]) [3,0,4,5,2] Z Z)) ⟨(hI.step Shs.hd.le Cz.hd h6 hvH).1,by simp [hk1],u1.trans (u12.trans (u14.trans (uF.trans u19))),by dsimp only;rw [List.map_append];exact (hz1.up (u12.trans (u14.trans (uF.trans u19))).up).app hz20,Suf.hd.up (Suf.tl hq1)⟩ (hI.step Shs.hd.le Cz.hd h6 hvH).2
 rw [acS_F h6]
 obtain ⟨eS,hvS⟩ := hI.stop Shs.hd.le h6
 refine .ex<|.tE<|.tE<|.bE<|.tN<|.sr<|.yv (.loadW Z Fx.agg155 (.tail _<|.tail _<|.head _) Z) Z<|.sW (.tail<|.tail<|.tail<|.head) Z Z Fx.size155 (by simp [Value.oneCell',strV]) Z<|.nt<|.rt<|?_
 refine Sx.reSt (fun W s => s.pickT (hd := [_,_,_,_,_]) (tl := bs) (hd' := [_,_,_]) [1,3,0] rfl rfl) ?_
 refine Sx.freezeSeq (ds := l.map (dHd .u8)) (by rw [List.length_map];exact hk1.symm) hz1 fun HZ pZ cZ uZ eZ hZ => ?_
 refine Sx.ret1 (.inl rfl) rfl (.cell rfl Fx.agg155 (.head _) rfl) fun W s => ⟨(l,_,HZ),⟨by unfold gVs;exact hvS,u1.trans uZ,hZ⟩,rfl,?_⟩
 rw [show up n gVs q = q1 by unfold gVs;exact eS]
 exact s.pickT (hd := [_,_]) (tl := bs) (hd' := [_]) [1] rfl rfl
theorem Fx.bld158_0 (x0 : ByteArray) : buildN Tryz.prog 158 [(0,.string x0)] = some [.string x0,.slice none 0 0,.slice none 0 0] := by kernel_rfl
set_option maxRecDepth 100000 in
theorem handlers_r {H : Hp} {w0 W : World} {bs : List Res} {b n : Nat} {t : Str} {ts : List Tk} {tp : Option Addr} {tc : Nat} {q : Sg} (K : Tkr H t n ts tp tc) (hq : q.r <:+ ts) (hmu : q.mu ≤ 500000) (s : St H w0 (.box b [strV t,.slice tp ts.length tc,.int .i64 (posN ts q : Nat),.int .i64 (q.o : Nat),.int .i64 (q.e : Nat)] 75 :: bs) W) :
 Calls Tryz.prog 137 #[.pointer (some ⟨b,0,none⟩)] W fun e W' => ∃ z : List Hd × Value × Hp,(vl gVs q z.1 ∧ HUp w0 H z.2.2 ∧ Rep z.2.2 (.seq 3 (z.1.map (dHd .i64))) [z.2.1]) ∧ e = .returned (z.2.1) ∧ St z.2.2 w0 (.box b [strV t,.slice tp ts.length tc,.int .i64 (posN ts (up n gVs q) : Nat),.int .i64 ((up n gVs q).o : Nat),.int .i64 ((up n gVs q).e : Nat)] 75 :: bs) W' := by
 refine Sx.enterS Tryz.func137 rfl Tryz.ntmps137 rfl s ?_
 refine .sr<|.a Z Z<|.ns<|.a Z Z<|?_
 refine Sx.row0 158 3 ?_
 refine .nt<|.sq<|.bk<|.lp (X := List Hd × Value × List Value × Hp × Sg) [(0,_)] ⟨rfl,trivial⟩ bs (fun z => [(3,z.2.1)]) (fun z => z.2.2.2.1) (fun z => [.row 158 3 z.2.1 z.1.length z.2.2.1,.box b [strV t,.slice tp ts.length tc,.int .i64 (posN ts z.2.2.2.2 : Nat),.int .i64 (z.2.2.2.2.o : Nat),.int .i64 (z.2.2.2.2.e : Nat)] 75]) (fun z => MnI n [111,110] gHd q z.1 z.2.2.2.2 ∧ HUp w0 H z.2.2.2.1 ∧ RepZ z.2.2.2.1 3 (z.1.map (dHd .i64)) z.2.2.1 ∧ z.2.2.2.2.r <:+ ts) (fun z => z.2.2.2.2.mu) ([],.slice none 0 0,[],H,q) (fun _ s => s) ⟨rfl,trivial⟩ ⟨MnI.start,.refl,RepZ.nil,hq⟩ fun z hC => ?_
 obtain ⟨l0,vo,xo,H1,q1⟩ := z
 obtain ⟨hI0,u1,hzo,hq1⟩ := hC
 dsimp only at hI0 u1 hzo hq1 ⊢
 have K1 := K.up u1.up
 have hlen0 := hI0.len
 refine .sq<|.sr<|.m Z Z<|.cs (X := Unit) Fx.call54 Z (fun W s => take_r K1 hq1 [111,110] (s.pickT (hd := [_,_]) (tl := bs) (hd' := [_,_]) [1,0] Z Z)) Z fun _ _ => .nt<|.cd Z (fun h6 => ?_) (fun h6 => ?_)
 ·rw [acS_T h6]
  have hlt := mu_tl h6
  have m1 := mu_up (n := n) (s := q1.tl) Shs.nm.le Cz.nm
  have m2 := mu_up (n := n) (s := (up n gNm q1.tl)) (Shs.list Shs.nm.le).le (Cz.list Cz.nm)
  have m3 := mu_up (n := n) (s := (up n gNm q1.tl)) (Shs.nd [40]).le (Cz.nd [40])
  have m4 := mu_up (n := n) (s := (up n (gNd [40]) (up n gNm q1.tl))) Shs.nm.le Cz.nm
  refine .sk<|.tN<|.bk<|.sr<|.m Z Z<|.cs (X := Str) Fx.call97 Z (fun W s => name_r K1 (Suf.tl hq1)  (s.pickT (hd := [_,_]) (tl := bs) (hd' := [_,_]) [0,1] Z Z)) Z fun nm8 hnm8 => .yv (.build Z (Fx.bld158_0 _)) Z<|.al Fx.zero158 Z fun b4 => ?_
  refine Sx.row0 9 1 ?_
  refine .sW (.tail<|.head) Z Z Fx.size158 (by simp [Value.oneCell',strV]) Z<|.ns<|.m Z Z<|.cs (X := Unit) Fx.call96 Z (fun W s => need_r K1 (Suf.nm.up (Suf.tl hq1)) [40] (s.pickT (hd := [_,_,_,_]) (tl := bs) (hd' := [_,_,_,_]) [2,0,1,3] Z Z)) Z fun _ _ => .nt<|.sq<|.sr<|.m Z Z<|.cs (X := Unit) Fx.call95 Z (fun W s => is_r K1 ((Suf.nd _).up (Suf.nm.up (Suf.tl hq1))) [41] (s.pickT (hd := [_,_,_,_]) (tl := bs) (hd' := [_,_,_,_]) [0,1,2,3] Z Z)) Z fun _ _ => .yv (.not Z) Z<|.nt<|.cd Z (fun h14 => ?_) (fun h14 => ?_)
  ·have hc : ac [41] (up n (gNd [40]) (up n gNm q1.tl)) = false := by simpa using h14
   refine .sq<|.fl (trip := [(_,_,_),(_,_,_),(_,_,_),(_,_,_),(_,_,_),(_,_,_)]) 6 [(0,0),(1,0),(2,0),(3,3),(4,1),(5,3)] (by kernel_rfl) (by kernel_rfl) Z<|.yv (.fieldAddr Z Fx.field158_1) Z<|.yv (.load Z Fx.agg52 (.tail _<|.tail _<|.head _) Z) Z<|.m Z Z<|.c3 (X := Str) Fx.call97 Z (fun W s => name_r K1 ((Suf.nd _).up (Suf.nm.up (Suf.tl hq1)))  (s.pickT (hd := [_,_,_,_]) (tl := bs) (hd' := [_,_,_,_]) [0,1,2,3] Z Z)) Z (fun _ _ => (.done (by kernel_rfl)<|.yv (.load Z Fx.agg52 (.tail _<|.tail _<|.head _) Z)<|.yv (.fieldAddr Z Fx.field158_1)<|.nl)) fun na hna => .blF Z (Fx.bsl52_1 _) Z fun b19 H18 u18 m18 => .apD Fx.row52 Z (fun _ _ => (.tail<|.head)) Z (Rep.mk (n := 1) (c := 1) (ds := [dStr na]) m18 (.single (dstr_shut hna.2) Z) Z (Nat.le_refl _) (by decide)) (by simp only [maxLen];omega) (by omega) Z (fun _ _ => (.done (by kernel_rfl)<|.done (by kernel_rfl)<|.done (by kernel_rfl)<|.nl)) fun xs20 p20 c20 hz20 => .fn (tl := [_,_]) Z<|.yv (.fieldAddr Z Fx.field158_1) Z<|.st (.tail<|.tail<|.head) Z Z Fx.size52 Z (nb Z) Z<|.nt<|.bk<|.lp (X := List Str × Nat × Option Addr × Nat × List Value × Hp × Sg) [(0,_),(3,_),(4,_)] ⟨rfl,rfl,rfl,trivial⟩ (_ :: bs) (fun y => []) (fun y => y.2.2.2.2.2.1) (fun y => [.row 9 1 (.slice y.2.2.1 y.2.1 y.2.2.2.1) y.2.1 y.2.2.2.2.1,.box b [strV t,.slice tp ts.length tc,.int .i64 (posN ts y.2.2.2.2.2.2 : Nat),.int .i64 (y.2.2.2.2.2.2.o : Nat),.int .i64 (y.2.2.2.2.2.2.e : Nat)] 75,.box b4 [strV nm8,.slice y.2.2.1 y.2.1 y.2.2.2.1,.slice none 0 0] 158]) (fun y => MnI n [44] gNm (up n gNm (up n (gNd [40]) (up n gNm q1.tl))) y.1 y.2.2.2.2.2.2 ∧ y.2.1 = y.1.length + 1 ∧ HUp w0 H18 y.2.2.2.2.2.1 ∧ RepZ y.2.2.2.2.2.1 1 ((na :: y.1).map dStr) y.2.2.2.2.1 ∧ y.2.2.2.2.2.2.r <:+ ts) (fun y => y.2.2.2.2.2.2.mu) ([],0 + 1,p20,c20,[] ++ xs20,H18,up n gNm (up n (gNd [40]) (up n gNm q1.tl))) (fun _ s => (s.pickT (hd := [_,_,_,_]) (tl := bs) (hd' := [_,_,_,_]) [1,0,2,3] Z Z)) trivial ⟨MnI.start,rfl,.refl,hz20,Suf.nm.up ((Suf.nd _).up (Suf.nm.up (Suf.tl hq1)))⟩ fun y hC => ?_
   obtain ⟨l,k,p,c,xs,H2,q2⟩ := y
   obtain ⟨hI,hkl,u2,hzl,hq2⟩ := hC
   dsimp only at hI hkl u2 hzl hq2 ⊢
   have uL := u18.trans u2
   have K2 := K1.up uL.up
   have hlen := hI.len
   refine .sq<|.sr<|.m Z Z<|.cs (X := Unit) Fx.call54 Z (fun W s => take_r K2 hq2 [44] (s.pickT (hd := [_,_,_,_]) (tl := bs) (hd' := [_,_,_,_]) [1,0,2,3] Z Z)) Z fun _ _ => .nt<|.cd Z (fun h23 => ?_) (fun h23 => ?_)
   ·rw [acS_T h23]
    exact .sk<|.tN<|.bk<|.fl (trip := [(_,_,_),(_,_,_),(_,_,_),(_,_,_),(_,_,_),(_,_,_)]) 6 [(0,0),(1,0),(2,0),(3,3),(4,1),(5,3)] (by kernel_rfl) (by kernel_rfl) Z<|.yv (.fieldAddr Z Fx.field158_1) Z<|.yv (.load Z Fx.agg52 (.tail _<|.tail _<|.head _) Z) Z<|.m Z Z<|.c3 (X := Str) Fx.call97 Z (fun W s => name_r K2 (Suf.tl hq2)  (s.pickT (hd := [_,_,_,_]) (tl := bs) (hd' := [_,_,_,_]) [0,1,2,3] Z Z)) Z (fun _ _ => (.done (by kernel_rfl)<|.yv (.load Z Fx.agg52 (.tail _<|.tail _<|.head _) Z)<|.yv (.fieldAddr Z Fx.field158_1)<|.nl)) fun nk hnk => .blF Z (Fx.bsl52_1 _) Z fun b28 H3 u3 m3 => .apD Fx.row52 Z (fun _ _ => (.tail<|.head)) Z (Rep.mk (n := 1) (c := 1) (ds := [dStr nk]) m3 (.single (dstr_shut hnk.2) Z) Z (Nat.le_refl _) (by decide)) (by simp only [maxLen];omega) (by omega) Z (fun _ _ => (.done (by kernel_rfl)<|.done (by kernel_rfl)<|.done (by kernel_rfl)<|.nl)) fun xs29 p29 c29 hz29 => .fn (tl := [_,_]) Z<|.yv (.fieldAddr Z Fx.field158_1) Z<|.st (.tail<|.tail<|.head) Z Z Fx.size52 Z (nb Z) Z<|.nl<|.bN<|.tN<|.ag (x := (l,k,p,c,xs,H2,q2)) (l ++ [nk],k + 1,p29,c29,xs ++ xs29,H3,up n gNm q2.tl) trivial ⟨rfl,rfl,rfl,trivial⟩ (fun _ s => (s.pickT (hd := [_,_,_,_]) (tl := bs) (hd' := [_,_,_,_]) [1,0,2,3] Z Z)) ⟨(hI.step Shs.nm.le Cz.nm h23 hnk.1).1,(by dsimp only;rw [List.length_append,List.length_singleton];omega),u2.trans u3,(by dsimp only;rw [← List.cons_append,List.map_append];exact (hzl.up u3.up).app hz29),Suf.nm.up (Suf.tl hq2)⟩ (hI.step Shs.nm.le Cz.nm h23 hnk.1).2
   rw [acS_F h23]
   obtain ⟨eS,hvS⟩ := hI.stop Shs.nm.le h23
   refine .ex<|.tE<|.tE<|.bE<|.tN<|.sr<|.m Z Z<|.cs (X := Unit) Fx.call96 Z (fun W s => need_r K2 hq2 [41] (s.pickT (hd := [_,_,_,_]) (tl := bs) (hd' := [_,_,_,_]) [0,1,2,3] Z Z)) Z fun _ _ => ?_
   have hv12 : vl (gList gNm) (up n gNm q1.tl) (na :: l) := by unfold gList;exact vl_bind (n := n) (x := ()) vl_unit (vl_altF hc (vl_bind (n := n) hna.1 (vl_bind (n := n) hvS (vl_bind (n := n) (x := ()) vl_unit vl_pure))))
   rw [show up n (gNd [41]) q2 = (up n (gList gNm) (up n gNm q1.tl)) by unfold gList;rw [up_bind (x := ()) (Cz.nd _) vl_unit,up_altF hc,up_bind Cz.nm hna.1,up_bind (.many Cz.nm) hvS,eS,up_bind (x := ()) (Cz.nd _) vl_unit,up_pure]]
   refine .ns<|.m Z Z<|.cs (X := List Sm × Value × Hp) Fx.call158 Z (fun W s => (blocks_r 600000 (Nat.le_refl _)).2 K2 ((Suf.list Suf.nm).up (Suf.nm.up (Suf.tl hq1))) (by omega) (s.pickT (hd := [_,_,_,_]) (tl := bs) (hd' := [_,_,_,_]) [0,1,2,3] Z Z)) Z fun z14 hz14 => ?_
   obtain ⟨l14,v14,H14⟩ := z14
   obtain ⟨hv14,u14,r14⟩ := hz14
   dsimp only at hv14 u14 r14 ⊢
   obtain ⟨p14,c14',e14',_⟩ := r14.sl
   simp only [List.cons.injEq,and_true] at e14'
   subst e14'
   refine Sx.reSt (fun W s => s.pickT (hd := [_,_,_,_]) (tl := bs) (hd' := [_,_,_,_]) [1,0,2,3] rfl rfl) ?_
   refine Sx.freezeSeq (ds := (na :: l).map dStr) (by simp;omega) (hzl.up u14.up) fun HF pF cF uF eF hF => ?_
   have KF := K2.up (u14.trans uF).up
   have hvH : vl gHd q1.tl ⟨nm8,(na :: l),l14⟩ := vl_bind (n := n) hnm8.1 (vl_bind (n := n) hv12 (vl_bind (n := n) hv14 vl_pure))
   rw [show (up n (gBlk gB) (up n (gList gNm) (up n gNm q1.tl))) = up n gHd q1.tl by unfold gHd;rw [up_bind Cz.nm hnm8.1,up_bind (Cz.list Cz.nm) hv12,up_bind Cz.blk hv14,up_pure]]
   refine .yv (.fieldAddr Z Fx.field158_2) Z<|.st (.tail<|.head) Z Z Fx.size156 Z (nb Z) Z<|.nt<|.rg<|.m Z Z<|.yv (.loadW Z Fx.agg158 (.tail _<|.head _) Z) Z<|.bl Z (Fx.bsl152_1 _ _ _) Z fun b38 => ?_
   refine Sx.freezeBox fun H19 u19 m19 => ?_
   exact .apD Fx.row152 Z (fun _ _ => (.tail<|.tail<|.head)) Z (Rep.mk (n := 1) (c := 1) (ds := [dHd .i64 ⟨nm8,(na :: l),l14⟩]) m19 (.single (hd_shut (x := ⟨nm8,(na :: l),l14⟩) hnm8.2 (hF.up u19.up) (r14.up (uF.trans u19).up)) Z) Z (Nat.le_refl _) (by decide)) (by simp only [maxLen];omega) (by omega) Z fun xs39 r39 hz39 => .a Z Z<|.nl<|.bN<|.tN<|.ag (x := (l0,vo,xo,H1,q1)) (l0 ++ [⟨nm8,(na :: l),l14⟩],r39,xo ++ xs39,H19,up n gHd q1.tl) ⟨rfl,trivial⟩ ⟨rfl,trivial⟩ (fun _ s => by have s2 := (s.pickT (hd := [_,_,_]) (tl := bs) (hd' := [_,_]) [2,0] Z Z);simpa using s2) ⟨(hI0.step Shs.hd.le Cz.hd h6 hvH).1,u1.trans (u18.trans (u2.trans (u14.trans (uF.trans u19)))),by dsimp only;rw [List.map_append];exact (hzo.up (u18.trans (u2.trans (u14.trans (uF.trans u19)))).up).app hz39,Suf.hd.up (Suf.tl hq1)⟩ (hI0.step Shs.hd.le Cz.hd h6 hvH).2
  have hc : ac [41] (up n (gNd [40]) (up n gNm q1.tl)) = true := by simpa using h14
  refine .sk<|.tN<|.sr<|.m Z Z<|.cs (X := Unit) Fx.call96 Z (fun W s => need_r K1 ((Suf.nd _).up (Suf.nm.up (Suf.tl hq1))) [41] (s.pickT (hd := [_,_,_,_]) (tl := bs) (hd' := [_,_,_,_]) [0,1,2,3] Z Z)) Z fun _ _ => ?_
  have hv12 : vl (gList gNm) (up n gNm q1.tl) [] := by unfold gList;exact vl_bind (n := n) (x := ()) vl_unit (vl_altT hc vl_pure)
  rw [show up n (gNd [41]) (up n (gNd [40]) (up n gNm q1.tl)) = (up n (gList gNm) (up n gNm q1.tl)) by unfold gList;rw [up_bind (x := ()) (Cz.nd _) vl_unit,up_altT hc,up_pure,up_ndT hc]]
  refine .ns<|.m Z Z<|.cs (X := List Sm × Value × Hp) Fx.call158 Z (fun W s => (blocks_r 600000 (Nat.le_refl _)).2 K1 ((Suf.list Suf.nm).up (Suf.nm.up (Suf.tl hq1))) (by omega) (s.pickT (hd := [_,_,_,_]) (tl := bs) (hd' := [_,_,_,_]) [0,1,2,3] Z Z)) Z fun z14 hz14 => ?_
  obtain ⟨l14,v14,H14⟩ := z14
  obtain ⟨hv14,u14,r14⟩ := hz14
  dsimp only at hv14 u14 r14 ⊢
  obtain ⟨p14,c14',e14',_⟩ := r14.sl
  simp only [List.cons.injEq,and_true] at e14'
  subst e14'
  refine Sx.reSt (fun W s => s.pickT (hd := [_,_,_,_]) (tl := bs) (hd' := [_,_,_,_]) [1,0,2,3] rfl rfl) ?_
  refine Sx.freezeSeq (ds := [].map dStr) rfl RepZ.nil fun HF pF cF uF eF hF => ?_
  have KF := K1.up (u14.trans uF).up
  have hvH : vl gHd q1.tl ⟨nm8,[],l14⟩ := vl_bind (n := n) hnm8.1 (vl_bind (n := n) hv12 (vl_bind (n := n) hv14 vl_pure))
  rw [show (up n (gBlk gB) (up n (gList gNm) (up n gNm q1.tl))) = up n gHd q1.tl by unfold gHd;rw [up_bind Cz.nm hnm8.1,up_bind (Cz.list Cz.nm) hv12,up_bind Cz.blk hv14,up_pure]]
  refine .yv (.fieldAddr Z Fx.field158_2) Z<|.st (.tail<|.head) Z Z Fx.size156 Z (nb Z) Z<|.nt<|.rg<|.m Z Z<|.yv (.loadW Z Fx.agg158 (.tail _<|.head _) Z) Z<|.bl Z (Fx.bsl152_1 _ _ _) Z fun b38 => ?_
  refine Sx.freezeBox fun H19 u19 m19 => ?_
  exact .apD Fx.row152 Z (fun _ _ => (.tail<|.tail<|.head)) Z (Rep.mk (n := 1) (c := 1) (ds := [dHd .i64 ⟨nm8,[],l14⟩]) m19 (.single (hd_shut (x := ⟨nm8,[],l14⟩) hnm8.2 (hF.up u19.up) (r14.up (uF.trans u19).up)) Z) Z (Nat.le_refl _) (by decide)) (by simp only [maxLen];omega) (by omega) Z fun xs39 r39 hz39 => .a Z Z<|.nl<|.bN<|.tN<|.ag (x := (l0,vo,xo,H1,q1)) (l0 ++ [⟨nm8,[],l14⟩],r39,xo ++ xs39,H19,up n gHd q1.tl) ⟨rfl,trivial⟩ ⟨rfl,trivial⟩ (fun _ s => by have s2 := (s.pickT (hd := [_,_,_]) (tl := bs) (hd' := [_,_]) [2,0] Z Z);simpa using s2) ⟨(hI0.step Shs.hd.le Cz.hd h6 hvH).1,u1.trans (u14.trans (uF.trans u19)),by dsimp only;rw [List.map_append];exact (hzo.up (u14.trans (uF.trans u19)).up).app hz39,Suf.hd.up (Suf.tl hq1)⟩ (hI0.step Shs.hd.le Cz.hd h6 hvH).2
 rw [acS_F h6]
 obtain ⟨eS0,hvS0⟩ := hI0.stop Shs.hd.le h6
 refine .ex<|.tE<|.tE<|.bE<|.tN<|.sr<|.m Z Z<|.a Z Z<|.nt<|.rt<|?_
 refine Sx.reSt (fun W s => s.pickT (hd := [_,_]) (tl := bs) (hd' := [_,_]) [1,0] rfl rfl) ?_
 refine Sx.freezeSeq (ds := l0.map (dHd .i64)) (by rw [List.length_map]) hzo fun HZ pZ cZ uZ eZ hZ => ?_
 exact Sx.ret1 (.inl rfl) rfl (.tmp rfl) fun W s => ⟨(l0,vo,HZ),⟨by unfold gVs;exact hvS0,u1.trans uZ,hZ⟩,rfl,by rw [show up n gVs q = q1 by unfold gVs;exact eS0];exact s⟩
theorem Fx.call121 : callN Tryz.prog 121 = Bool.true := by kernel_rfl
theorem Fx.call122 : callN Tryz.prog 122 = Bool.true := by kernel_rfl
end Go.Proofs.YthhoebdlfjffkaaGreatDoor
