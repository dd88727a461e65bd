/- Texts of the proof, one behind the other. -/
import Derived.Test.YtmbiojpcidccjaaGreatDoorMf
import Derived.Test.YtmbiojpcidccjaaGreatDoorTie
import Derived.ProofKit
import Derived.OpenShut
import Derived.ShutString
import Derived.Lay
import Derived.Stop.LaidErr
import Derived.Stop.Joined
import Derived.Shelf.Vars
import Derived.Lib.LaidTab
import Derived.Lib.SmallJoins
import Derived.SevenTiedAt
set_option linter.all false
namespace Go.Proofs.YtmbiojpcidccjaaGreatDoor
open Go.RowKit Go.Par Go.Sx
def zeroE : Ex := .mk 0 [] 0 []
theorem zeroE_rep (H : Hp) : Rep H (dEx .i64 zeroE) [.int .i64 0,.string ⟨#[]⟩,.int .i64 0,.slice none 0 0] := ex_shut (by decide) (Rep.empty (Nat.zero_le _))
set_option maxHeartbeats 2000000 in
set_option maxRecDepth 100000 in
theorem syntaxEquals_any (H : Hp) (G : Gl H) (g : Gt H) (p : Pln) (l m : List Sp) (cs : List Value) (v0 v1 : Value) (h : Rep H (dPln p) cs) (hl : Rep H (.seq 5 (l.map dSp)) [v0]) (hm : Rep H (.seq 5 (m.map dSp)) [v1]) (w : World) (hA : Agr H w) :
 Calls Tryz.prog 6 #[.agg cs.toArray,v0,v1] w fun r w' => r = .returned (.bool true) ∧ Ext w w' := by
 obtain ⟨p1,c1,p2,c2,rfl,_,_⟩ := pln_open h
 obtain ⟨pl,cl,e,_⟩ := hl.sl
 simp only [List.cons.injEq,and_true,List.length_map] at e
 subst e
 obtain ⟨pm,cm,e,_⟩ := hm.sl
 simp only [List.cons.injEq,and_true,List.length_map] at e
 subst e
 have hcap := hl.cap
 have hcap2 := hm.cap
 refine Sx.enter (H := H) Tryz.func6 rfl Tryz.ntmps6 rfl hA ?_
 refine .sr<|.bx Z Z Z fun b3 => .a Z Z<|.nt<|.sq<|.sr<|.yv (.call Fx.call7 Z (fun W t => awake_any H G g W t.agr)) Z<|.yv (.not Z) Z<|.nt<|.cF Z<|.sk<|.tN<|.cu (X := Nat × Nat × Hp × List Value × List Value) [(1,_),(2,_)] ⟨rfl,rfl,trivial⟩ (fun z => [(7,.pointer (some ⟨z.1,0,none⟩)),(8,.pointer (some ⟨z.2.1,0,none⟩))]) (fun z => z.2.2.1) (fun z => [.box z.1 z.2.2.2.1 32,.box z.2.1 z.2.2.2.2 32]) (fun z => ∃ f g0 : Ft,HUp w H z.2.2.1 ∧ Rep z.2.2.1 (dFt .i64 f) z.2.2.2.1 ∧ okFt 50000 f ∧ Rep z.2.2.1 (dFt .i64 g0) z.2.2.2.2 ∧ okFt 50000 g0) ?_ fun z hC => ?_
 ·
  refine .ft (p := .light _ _ (.light _ _ (.light _ _ (.light _ _ (.alt _ _ _ (.alt _ _ _ (.alt _ _ _ (.alt _ _ _ (.done) (.no)) (.alt _ _ _ (.alt _ _ _ (.done) (.no)) (.no))) (.alt _ _ _ (.alt _ _ _ (.alt _ _ _ (.done) (.no)) (.alt _ _ _ (.alt _ _ _ (.done) (.no)) (.no))) (.alt _ _ _ (.alt _ _ _ (.alt _ _ _ (.done) (.no)) (.alt _ _ _ (.alt _ _ _ (.done) (.no)) (.no))) (.no)))) (.alt _ _ _ (.alt _ _ _ (.alt _ _ _ (.alt _ _ _ (.done) (.no)) (.alt _ _ _ (.alt _ _ _ (.done) (.no)) (.no))) (.alt _ _ _ (.alt _ _ _ (.alt _ _ _ (.done) (.no)) (.no)) (.no))) (.alt _ _ _ (.alt _ _ _ (.alt _ _ _ (.alt _ _ _ (.done) (.no)) (.alt _ _ _ (.alt _ _ _ (.done) (.no)) (.no))) (.alt _ _ _ (.alt _ _ _ (.alt _ _ _ (.done) (.no)) (.no)) (.no))) (.no)))))))) 8 (.light 0 (.light 1 (.light 3 (.light 4 (.alt 2 0 (.alt 5 0 (.alt 6 0 (.alt 7 0 (.done) (.no)) (.alt 7 0 (.alt 6 0 (.done) (.no)) (.no))) (.alt 6 0 (.alt 5 0 (.alt 7 0 (.done) (.no)) (.alt 7 0 (.alt 5 0 (.done) (.no)) (.no))) (.alt 7 0 (.alt 5 0 (.alt 6 0 (.done) (.no)) (.alt 6 0 (.alt 5 0 (.done) (.no)) (.no))) (.no)))) (.alt 6 0 (.alt 2 0 (.alt 5 0 (.alt 7 0 (.done) (.no)) (.alt 7 0 (.alt 5 0 (.done) (.no)) (.no))) (.alt 7 0 (.alt 2 0 (.alt 5 0 (.done) (.no)) (.no)) (.no))) (.alt 7 0 (.alt 2 0 (.alt 5 0 (.alt 6 0 (.done) (.no)) (.alt 6 0 (.alt 5 0 (.done) (.no)) (.no))) (.alt 6 0 (.alt 2 0 (.alt 5 0 (.done) (.no)) (.no)) (.no))) (.no)))))))) (by kernel_rfl) (by kernel_rfl) Z<|.yv (.loadW Z Fx.agg25 (.head _) Z) Z<|.m Z Z<|.yv (.loadW Z Fx.agg25 (.head _) Z) Z<|.m Z Z<|.h ?_ (.h ?_ (.h ?_ .nn))
  ·
   refine .ct (X := List Value) Fx.call8 Z (fun W t => spoilt_any H p l _ _ W h hl t.agr) Z fun x1 H1 hc1 u1 => ?_
   obtain ⟨f,hf,hok⟩ := hc1
   refine .h ?_ (.h ?_ (.h ?_ .nn))
   ·
    refine .ct (X := List Value) Fx.call8 Z (fun W t => spoilt_any H1 p m _ _ W (h.up u1.up) (hm.up u1.up) t.agr) Z fun x2 H2 hc2 u2 => ?_
    obtain ⟨g0,hg,hokg⟩ := hc2
    refine .h ?_ (.h ?_ .nn)
    ·
     exact .al Fx.zero32 Z fun b7 => .h1<|.al Fx.zero32 Z fun b8 => .fn (tl := [_,_]) Z<|.sV (.tail<|.head) Z Z Fx.size32 (ft_len hf) hf.one Z<|.sV .head Z Z Fx.size32 (ft_len hg) hg.one Z<|.nt<|.me (b7,b8,H2,x1,x2) ⟨rfl,rfl,trivial⟩ ⟨rfl,rfl,trivial⟩ (fun _ s => s.pick [1,0] [_,_] Z Z) ⟨f,g0,u1.trans u2,hf.up u2.up,hok,hg,hokg⟩
    exact .al Fx.zero32 Z fun b8 => .h1<|.al Fx.zero32 Z fun b7 => .fn (tl := [_,_]) Z<|.sV .head Z Z Fx.size32 (ft_len hf) hf.one Z<|.sV (.tail<|.head) Z Z Fx.size32 (ft_len hg) hg.one Z<|.nt<|.me (b7,b8,H2,x1,x2) ⟨rfl,rfl,trivial⟩ ⟨rfl,rfl,trivial⟩ (fun _ s => s.pick [0,1] [_,_] Z Z) ⟨f,g0,u1.trans u2,hf.up u2.up,hok,hg,hokg⟩
   ·
    refine .al Fx.zero32 Z fun b7 => .h ?_ (.h ?_ .nn)
    ·
     refine .ct (X := List Value) Fx.call8 Z (fun W t => spoilt_any H1 p m _ _ W (h.up u1.up) (hm.up u1.up) t.agr) Z fun x2 H2 hc2 u2 => ?_
     obtain ⟨g0,hg,hokg⟩ := hc2
     exact .h1<|.al Fx.zero32 Z fun b8 => .fn (tl := [_,_]) Z<|.sV (.tail<|.head) Z Z Fx.size32 (ft_len hf) hf.one Z<|.sV .head Z Z Fx.size32 (ft_len hg) hg.one Z<|.nt<|.me (b7,b8,H2,x1,x2) ⟨rfl,rfl,trivial⟩ ⟨rfl,rfl,trivial⟩ (fun _ s => s.pick [1,0] [_,_] Z Z) ⟨f,g0,u1.trans u2,hf.up u2.up,hok,hg,hokg⟩
    refine .al Fx.zero32 Z fun b8 => .h1<|.ct (X := List Value) Fx.call8 Z (fun W t => spoilt_any H1 p m _ _ W (h.up u1.up) (hm.up u1.up) t.agr) Z fun x2 H2 hc2 u2 => ?_
    obtain ⟨g0,hg,hokg⟩ := hc2
    exact .fn (tl := [_,_]) Z<|.sV (.tail<|.head) Z Z Fx.size32 (ft_len hf) hf.one Z<|.sV .head Z Z Fx.size32 (ft_len hg) hg.one Z<|.nt<|.me (b7,b8,H2,x1,x2) ⟨rfl,rfl,trivial⟩ ⟨rfl,rfl,trivial⟩ (fun _ s => s.pick [1,0] [_,_] Z Z) ⟨f,g0,u1.trans u2,hf.up u2.up,hok,hg,hokg⟩
   refine .al Fx.zero32 Z fun b8 => .h ?_ (.h ?_ .nn)
   ·
    refine .ct (X := List Value) Fx.call8 Z (fun W t => spoilt_any H1 p m _ _ W (h.up u1.up) (hm.up u1.up) t.agr) Z fun x2 H2 hc2 u2 => ?_
    obtain ⟨g0,hg,hokg⟩ := hc2
    exact .h1<|.al Fx.zero32 Z fun b7 => .fn (tl := [_,_]) Z<|.sV .head Z Z Fx.size32 (ft_len hf) hf.one Z<|.sV (.tail<|.head) Z Z Fx.size32 (ft_len hg) hg.one Z<|.nt<|.me (b7,b8,H2,x1,x2) ⟨rfl,rfl,trivial⟩ ⟨rfl,rfl,trivial⟩ (fun _ s => s.pick [0,1] [_,_] Z Z) ⟨f,g0,u1.trans u2,hf.up u2.up,hok,hg,hokg⟩
   refine .al Fx.zero32 Z fun b7 => .h1<|.ct (X := List Value) Fx.call8 Z (fun W t => spoilt_any H1 p m _ _ W (h.up u1.up) (hm.up u1.up) t.agr) Z fun x2 H2 hc2 u2 => ?_
   obtain ⟨g0,hg,hokg⟩ := hc2
   exact .fn (tl := [_,_]) Z<|.sV .head Z Z Fx.size32 (ft_len hf) hf.one Z<|.sV (.tail<|.head) Z Z Fx.size32 (ft_len hg) hg.one Z<|.nt<|.me (b7,b8,H2,x1,x2) ⟨rfl,rfl,trivial⟩ ⟨rfl,rfl,trivial⟩ (fun _ s => s.pick [0,1] [_,_] Z Z) ⟨f,g0,u1.trans u2,hf.up u2.up,hok,hg,hokg⟩
  ·
   refine .al Fx.zero32 Z fun b7 => .h ?_ (.h ?_ .nn)
   ·
    refine .ct (X := List Value) Fx.call8 Z (fun W t => spoilt_any H p l _ _ W h hl t.agr) Z fun x1 H1 hc1 u1 => ?_
    obtain ⟨f,hf,hok⟩ := hc1
    refine .h ?_ (.h ?_ .nn)
    ·
     refine .ct (X := List Value) Fx.call8 Z (fun W t => spoilt_any H1 p m _ _ W (h.up u1.up) (hm.up u1.up) t.agr) Z fun x2 H2 hc2 u2 => ?_
     obtain ⟨g0,hg,hokg⟩ := hc2
     exact .h1<|.al Fx.zero32 Z fun b8 => .fn (tl := [_,_]) Z<|.sV (.tail<|.head) Z Z Fx.size32 (ft_len hf) hf.one Z<|.sV .head Z Z Fx.size32 (ft_len hg) hg.one Z<|.nt<|.me (b7,b8,H2,x1,x2) ⟨rfl,rfl,trivial⟩ ⟨rfl,rfl,trivial⟩ (fun _ s => s.pick [1,0] [_,_] Z Z) ⟨f,g0,u1.trans u2,hf.up u2.up,hok,hg,hokg⟩
    refine .al Fx.zero32 Z fun b8 => .h1<|.ct (X := List Value) Fx.call8 Z (fun W t => spoilt_any H1 p m _ _ W (h.up u1.up) (hm.up u1.up) t.agr) Z fun x2 H2 hc2 u2 => ?_
    obtain ⟨g0,hg,hokg⟩ := hc2
    exact .fn (tl := [_,_]) Z<|.sV (.tail<|.head) Z Z Fx.size32 (ft_len hf) hf.one Z<|.sV .head Z Z Fx.size32 (ft_len hg) hg.one Z<|.nt<|.me (b7,b8,H2,x1,x2) ⟨rfl,rfl,trivial⟩ ⟨rfl,rfl,trivial⟩ (fun _ s => s.pick [1,0] [_,_] Z Z) ⟨f,g0,u1.trans u2,hf.up u2.up,hok,hg,hokg⟩
   refine .al Fx.zero32 Z fun b8 => .h1<|.ct (X := List Value) Fx.call8 Z (fun W t => spoilt_any H p l _ _ W h hl t.agr) Z fun x1 H1 hc1 u1 => ?_
   obtain ⟨f,hf,hok⟩ := hc1
   refine .h1<|.ct (X := List Value) Fx.call8 Z (fun W t => spoilt_any H1 p m _ _ W (h.up u1.up) (hm.up u1.up) t.agr) Z fun x2 H2 hc2 u2 => ?_
   obtain ⟨g0,hg,hokg⟩ := hc2
   exact .fn (tl := [_,_]) Z<|.sV (.tail<|.head) Z Z Fx.size32 (ft_len hf) hf.one Z<|.sV .head Z Z Fx.size32 (ft_len hg) hg.one Z<|.nt<|.me (b7,b8,H2,x1,x2) ⟨rfl,rfl,trivial⟩ ⟨rfl,rfl,trivial⟩ (fun _ s => s.pick [1,0] [_,_] Z Z) ⟨f,g0,u1.trans u2,hf.up u2.up,hok,hg,hokg⟩
  refine .al Fx.zero32 Z fun b8 => .h ?_ (.h ?_ .nn)
  ·
   refine .ct (X := List Value) Fx.call8 Z (fun W t => spoilt_any H p l _ _ W h hl t.agr) Z fun x1 H1 hc1 u1 => ?_
   obtain ⟨f,hf,hok⟩ := hc1
   refine .h ?_ (.h ?_ .nn)
   ·
    refine .ct (X := List Value) Fx.call8 Z (fun W t => spoilt_any H1 p m _ _ W (h.up u1.up) (hm.up u1.up) t.agr) Z fun x2 H2 hc2 u2 => ?_
    obtain ⟨g0,hg,hokg⟩ := hc2
    exact .h1<|.al Fx.zero32 Z fun b7 => .fn (tl := [_,_]) Z<|.sV .head Z Z Fx.size32 (ft_len hf) hf.one Z<|.sV (.tail<|.head) Z Z Fx.size32 (ft_len hg) hg.one Z<|.nt<|.me (b7,b8,H2,x1,x2) ⟨rfl,rfl,trivial⟩ ⟨rfl,rfl,trivial⟩ (fun _ s => s.pick [0,1] [_,_] Z Z) ⟨f,g0,u1.trans u2,hf.up u2.up,hok,hg,hokg⟩
   refine .al Fx.zero32 Z fun b7 => .h1<|.ct (X := List Value) Fx.call8 Z (fun W t => spoilt_any H1 p m _ _ W (h.up u1.up) (hm.up u1.up) t.agr) Z fun x2 H2 hc2 u2 => ?_
   obtain ⟨g0,hg,hokg⟩ := hc2
   exact .fn (tl := [_,_]) Z<|.sV .head Z Z Fx.size32 (ft_len hf) hf.one Z<|.sV (.tail<|.head) Z Z Fx.size32 (ft_len hg) hg.one Z<|.nt<|.me (b7,b8,H2,x1,x2) ⟨rfl,rfl,trivial⟩ ⟨rfl,rfl,trivial⟩ (fun _ s => s.pick [0,1] [_,_] Z Z) ⟨f,g0,u1.trans u2,hf.up u2.up,hok,hg,hokg⟩
  refine .al Fx.zero32 Z fun b7 => .h1<|.ct (X := List Value) Fx.call8 Z (fun W t => spoilt_any H p l _ _ W h hl t.agr) Z fun x1 H1 hc1 u1 => ?_
  obtain ⟨f,hf,hok⟩ := hc1
  refine .h1<|.ct (X := List Value) Fx.call8 Z (fun W t => spoilt_any H1 p m _ _ W (h.up u1.up) (hm.up u1.up) t.agr) Z fun x2 H2 hc2 u2 => ?_
  obtain ⟨g0,hg,hokg⟩ := hc2
  exact .fn (tl := [_,_]) Z<|.sV .head Z Z Fx.size32 (ft_len hf) hf.one Z<|.sV (.tail<|.head) Z Z Fx.size32 (ft_len hg) hg.one Z<|.nt<|.me (b7,b8,H2,x1,x2) ⟨rfl,rfl,trivial⟩ ⟨rfl,rfl,trivial⟩ (fun _ s => s.pick [0,1] [_,_] Z Z) ⟨f,g0,u1.trans u2,hf.up u2.up,hok,hg,hokg⟩
 obtain ⟨b7,b8,H2,y1,y2⟩ := z
 obtain ⟨f,g0,u2,hf,hok,hg,hokg⟩ := hC
 dsimp only at u2 hf hg ⊢
 refine .sq<|.sq<|.fl (trip := [(_,_,_),(_,_,_),(_,_,_),(_,_,_),(_,_,_),(_,_,_),(_,_,_),(_,_,_),(_,_,_),(_,_,_),(_,_,_),(_,_,_),(_,_,_),(_,_,_),(_,_,_),(_,_,_)]) 16 [(0,0),(2,0),(5,0),(6,0),(1,1),(3,1),(4,0),(7,0),(8,0),(9,0),(10,0),(12,0),(11,1),(13,1),(14,0),(15,0)] (by kernel_rfl) (by kernel_rfl) Z<|.yv (.loadW Z Fx.agg32 (.head _) (ft_len hf)) Z<|.yv (.loadW Z Fx.agg32 (.tail _<|.head _) (ft_len hg)) Z<|.yv (.loadW Z Fx.agg32 (.head _) (ft_len hf)) Z<|.yv (.loadW Z Fx.agg32 (.tail _<|.head _) (ft_len hg)) Z<|.ct (X := List Value) Fx.call10 Z (fun W t => syntax_any 50000 (by decide) H2 f hok y1 W hf t.agr) Z fun x3 H3 hx3 u3 => .ct (X := List Value) Fx.call10 Z (fun W t => syntax_any 50000 (by decide) H3 g0 hokg y2 W (hg.up u3.up) t.agr) Z fun x4 H4 hx4 u4 => .yv (.call Fx.call15 Z (fun W t => equal_any H4 f g0 x3 x4 W (hx3.up u4.up) hx4 t.agr)) Z<|.yv (.call Fx.call16 Z (fun W t => same_any H4 f g0 y1 y2 W (hf.up (u3.up.trans u4.up)) (hg.up (u3.up.trans u4.up)) t.agr)) Z<|.yv (.cast (v' := .bool false) (.neqB Fx.bool4 Z Z) (by simp)) Z<|.m Z Z<|.yg Z Z (.loadW Z Fx.agg32 (.head _) (ft_len hf)) Z<|.yg Z Z (.loadW Z Fx.agg32 (.head _) (ft_len hf)) Z<|.gd Z Z<|.ct (X := List Value) Fx.call10 Z (fun W t => syntax_any 50000 (by decide) H4 f hok y1 W (hf.up (u3.up.trans u4.up)) t.agr) Z fun x5 H5 hx5 u5 => .gd Z Z<|.ct (X := List Value) Fx.call10 Z (fun W t => syntax_any 50000 (by decide) H5 f hok y1 W (hf.up ((u3.up.trans u4.up).trans u5.up)) t.agr) Z fun x6 H6 hx6 u6 => ?_
 have v6 := u2.trans ((u3.trans u4).trans (u5.trans u6))
 refine .yg Z Z (.call Fx.call15 Z (fun W t => equal_any H6 f f x5 x6 W (hx5.up u6.up) hx6 t.agr)) Z<|.yg Z Z (.cast (v' := .bool false) (.not Z) (by rw [eqP_iff.2 Z];rfl)) Z<|.fn (tl := [_]) Z<|.yv (.pickF Z Z) Z<|.nt<|.cF Z<|.sk<|.tN<|.sr<|.al Fx.zero51 Z fun b9 => .al Fx.zero51 Z fun b10 => .nt<|.cu (X := Hp × List Value) [(2,_),(9,_),(10,_)] ⟨rfl,rfl,rfl,trivial⟩ (fun z => []) (fun z => z.1) (fun z => [.box b9 z.2 51,.box b10 [.int .i64 0,.string ⟨#[]⟩,.int .i64 0,.slice none 0 0] 51]) (fun z => HUp w H z.1 ∧ ∃ e : Ex,Rep z.1 (dEx .i64 e) z.2 ∧ Ex.all narrow e = true) ?_ fun z hC => ?_
 ·
  refine .sr<|.m Z Z<|.yv (.lenSl Fx.sl26 Z) Z<|.yv (.gtr Z Z) Z<|.nt<|.cd Z (fun h38 => ?_) (fun h38 => ?_)
  ·try simp only [dt] at h38
   have h0a : 0 < l.length := by omega
   obtain ⟨bE,oE,cE,hpE,rE,lE,mE⟩ := (hl.up v6.up).elem (map_at (f := dSp) h0a)
   cases hpE
   obtain ⟨qp,qc,rfl,hnd⟩ := sp_open rE
   refine .rg<|.m Z Z<|.yv (.indexSl Fx.sl26 Z Z (i := 0) Z h0a (q := oE + 0 * 5) Z) Z<|.yv (.fieldAddr Z Fx.field55_4) Z<|.yv (.loadM Z Fx.agg53 mE (k := 4) Z Z) Z<|.ct (X := List Value) Fx.call17 Z (fun W t => buildR_any H6 _ _ hnd W t.agr) Z fun x7 H7 hc7 u7 => ?_
   obtain ⟨e7,he7,hn7⟩ := hc7
   exact .sV (.tail<|.head) Z Z Fx.size51 (ex_len he7) he7.one Z<|.nt<|.me (H7,x7) trivial ⟨rfl,rfl,rfl,trivial⟩ (fun _ s => s.pick [1,0] [_,_] Z Z) ⟨(v6).trans u7,e7,he7,hn7.2⟩
  try simp only [df] at h38
  exact .sk<|.tN<|.me (H6,[.int .i64 0,.string ⟨#[]⟩,.int .i64 0,.slice none 0 0]) trivial ⟨rfl,rfl,rfl,trivial⟩ (fun _ s => s.pick [1,0] [_,_] Z Z) ⟨v6,zeroE,⟨zeroE_rep _,rfl⟩⟩
 obtain ⟨H7,x9⟩ := z
 obtain ⟨v7,e9,he9,hn9⟩ := hC
 dsimp only at v7 he9 ⊢
 refine .cu (X := Hp × List Value) [(9,_),(10,_)] ⟨rfl,rfl,trivial⟩ (fun z => []) (fun z => z.1) (fun z => [.box b9 x9 51,.box b10 z.2 51]) (fun z => HUp w H z.1 ∧ Rep z.1 (dEx .i64 e9) x9 ∧ ∃ e : Ex,Rep z.1 (dEx .i64 e) z.2 ∧ Ex.all narrow e = true) ?_ fun z hC => ?_
 ·
  refine .sr<|.m Z Z<|.yv (.lenSl Fx.sl26 Z) Z<|.yv (.gtr Z Z) Z<|.nt<|.cd Z (fun h46 => ?_) (fun h46 => ?_)
  ·try simp only [dt] at h46
   have h0b : 0 < m.length := by omega
   obtain ⟨bE,oE,cE,hpE,rE,lE,mE⟩ := (hm.up v7.up).elem (map_at (f := dSp) h0b)
   cases hpE
   obtain ⟨qp,qc,rfl,hnd⟩ := sp_open rE
   refine .rg<|.m Z Z<|.yv (.indexSl Fx.sl26 Z Z (i := 0) Z h0b (q := oE + 0 * 5) Z) Z<|.yv (.fieldAddr Z Fx.field55_4) Z<|.yv (.loadM Z Fx.agg53 mE (k := 4) Z Z) Z<|.ct (X := List Value) Fx.call17 Z (fun W t => buildR_any H7 _ _ hnd W t.agr) Z fun x8 H8 hc8 u8 => ?_
   obtain ⟨e8,he8,hn8⟩ := hc8
   have he9 := he9.up u8.up
   exact .sV (.tail<|.head) Z Z Fx.size51 (ex_len he8) he8.one Z<|.nt<|.me (H8,x8) trivial ⟨rfl,rfl,trivial⟩ (fun _ s => s) ⟨(v7).trans u8,he9,e8,he8,hn8.2⟩
  try simp only [df] at h46
  exact .sk<|.tN<|.me (H7,[.int .i64 0,.string ⟨#[]⟩,.int .i64 0,.slice none 0 0]) trivial ⟨rfl,rfl,trivial⟩ (fun _ s => s) ⟨v7,he9,zeroE,⟨zeroE_rep _,rfl⟩⟩
 obtain ⟨H8,x10⟩ := z
 obtain ⟨v8,he9,e10,he10,hn10⟩ := hC
 dsimp only at v8 he9 he10 ⊢
 refine .sq<|.fl (trip := [(_,_,_),(_,_,_),(_,_,_),(_,_,_),(_,_,_),(_,_,_),(_,_,_),(_,_,_),(_,_,_)]) 9 [(0,0),(2,0),(5,0),(6,0),(1,1),(3,1),(4,0),(7,0),(8,0)] (by kernel_rfl) (by kernel_rfl) Z<|.yv (.loadW Z Fx.agg51 (.head _) (ex_len he9)) Z<|.yv (.loadW Z Fx.agg51 (.tail _<|.head _) (ex_len he10)) Z<|.yv (.loadW Z Fx.agg51 (.head _) (ex_len he9)) Z<|.yv (.loadW Z Fx.agg51 (.tail _<|.head _) (ex_len he10)) Z<|.ct (X := List Value) Fx.call19 Z (fun W t => expr_any e9 hn9 H8 x9 W he9 t.agr) Z fun y9 H9 hy9 u9 => .ct (X := List Value) Fx.call19 Z (fun W t => expr_any e10 hn10 H9 x10 W (he10.up u9.up) t.agr) Z fun y10 HX hy10 u10 => ?_
 have vX := v8.trans (u9.trans u10)
 refine .yv (.call Fx.call18 Z (fun W t => equalExpr_any HX e9 e10 y9 y10 W (hy9.up u10.up) hy10 t.agr)) Z<|.yv (.call Fx.call20 Z (fun W t => sameExpr_any HX e9 e10 x9 x10 W (he9.up (u9.up.trans u10.up)) (he10.up (u9.up.trans u10.up)) t.agr)) Z<|.yv (.cast (v' := .bool true) (.eqlB Fx.bool4 Z Z) (by simp)) Z<|.fn (tl := [_]) Z<|.a Z Z<|.nt<|.rt<|?_
 exact Sx.ret1 (.inl rfl) rfl (.tmp rfl) fun W t => ⟨rfl,(vX.grow t).ext⟩
variable {H : Type} {enc : TypeId × Value → H}
theorem wrap {a : Assume} {C : Checked} {os : Os} {f : FuncId} {fn : Func} {s : ChangeSpec} {conds : List PathCond} {apart fresh handsOn again : Bool} {X : World → Array Value → Prop}
 (hX : ∀ (w w' : World) (args : Array Value),w.heap = w'.heap → X w args → X w' args)
 (own : ownKnob C.prog.godebug = none) (started : os.Started) (noInit : C.prog.inits.idxOf? f = none) (hfn : C.prog.funcs[f]? = some fn)
 (witness : ∃ (w : World) (tape : Tape) (i : Input),w.os = os ∧ (w.forCall tape i).Shaped C.prog ∧ i.vars = [] ∧ Input.okWide C.prog (w.forCall tape i) .any w.heap.size f i ∧
  ((s.pre enc C.prog fn conds apart (w.forCall tape i).memory i.args ∧ X (w.forCall tape i).memory i.args) ∧ sizedMet enc C.prog fn (OpenSpec.ofChange s) apart (w.forCall tape i).memory i.args) ∧ a.holds C.prog (lone (Frame.enter C.prog f i.args .normal) [] (w.forCall tape i)))
 (contract : ∀ (W : World) (base : Nat) (args : Array Value) (ds gs : List (DataW H)) (before : List MemPlace),
  (∀ (j : Nat) t v,fn.params[j]? = some t → args[j]? = some v → Value.okWide C.prog W .any base t v) →
  DataW.Whole enc C.prog fn.params.toList s.vars apart W args.toList ds gs before →
  X W args → W.ShapedOpen C.prog →
  Calls C.prog f args W fun e W' => ∃ v,e = .returned v ∧ s.post enc C.prog fn apart fresh handsOn again W args v W') :
 ReturnsInHanded a C os f .any (fun w args => (s.pre enc C.prog fn conds apart w args ∧ X w args) ∧ sizedMet enc C.prog fn (OpenSpec.ofChange s) apart w args) (s.post enc C.prog fn apart fresh handsOn again) := by
 refine returnsInHanded_of_calls own started noInit witness ?_
 intro w tape i _ hsh _ hok hpre _
 obtain ⟨_,_,_,fn',hfn',_,_,_,_,hval⟩ := hok
 have e : fn' = fn := Option.some.inj (hfn'.symm.trans hfn)
 subst e
 obtain ⟨⟨⟨ds,gs,before,hw,_⟩,hx⟩,_⟩ := hpre
 have hw' := DataW.Whole.of_heap (w' := w.forCall tape i) (by rfl) hw
 refine (contract (w.forCall tape i) w.heap.size i.args ds gs before hval hw' (hX _ _ _ (by rfl) hx) hsh).mono fun e W' ⟨v,he,hp⟩ => ?_
 subst he
 exact ChangeSpec.post_blind hp

theorem own : ownKnob Tryz.prog.godebug = none := by kernel_rfl
def laids : List (String × DataW Unit) := [("math/bits.deBruijn32tab",Rows.laid_math_bits_deBruijn32tab),("math/bits.deBruijn64tab",Rows.laid_math_bits_deBruijn64tab),("internal/strconv.uint64pow10",Rows.laid_internal_strconv_uint64pow10),("rootcause/lexer.words",Rows.laid_rootcause_lexer_words),("rootcause/lexer.symbols",Rows.laid_rootcause_lexer_symbols),("rootcause/syntax.shapes",Rows.laid_rootcause_syntax_shapes),("rootcause/syntax.forms",Rows.laid_rootcause_syntax_forms)]
theorem gTab : Tryz.prog.globalNamed "internal/strconv.uint64pow10" = some 4 := by kernel_rfl
theorem gTabT : (Tryz.prog.globals[4]?).map (·.type) = some 237 := by kernel_rfl
theorem cellsTab : Tryz.prog.cellsOf 237 = 20 := by kernel_rfl
theorem cellsTabE : Tryz.prog.cellsOf 139 = 1 := by kernel_rfl
theorem tabEq : (Rows.laid_internal_strconv_uint64pow10 : DataW Unit) = Lib.tabData .u64 Lib.pow10Tab := by kernel_rfl
theorem gt_of {W : World} (h : laidMet Tryz.prog laids W) : Gt (allH W) := by
 intro W' hA
 have h1 : Lib.TabIs Tryz.prog W "internal/strconv.uint64pow10" .u64 Lib.pow10Tab := Lib.tabIs_of_head gTab gTabT Tryz.underlying237 Tryz.underlying139 cellsTabE cellsTab (tabEq ▸ h.tail.tail)
 unfold Lib.TabIs World.var? at *
 rw [gTab] at *
 simp only [Option.bind_some] at *
 split at h1
 ·rename_i cs T m hb
  rw [hA 4 _ hb]
  exact h1
 ·cases h1
theorem gl_of {W : World} (h : laidMet Tryz.prog laids W) : Gl (allH W) :=
 ⟨laid_mem (t := 213) (.arr 24 (.str [.int .i64,.bool,.int .i64,.strg])) _ (by kernel_rfl) (by kernel_rfl) (by kernel_rfl) (by kernel_rfl) (by kernel_rfl) h.tail.tail.tail.tail.tail,
  laid_mem (t := 218) (.arr 11 (.str [.bool,.bool,.int .i64,.int .i64,.bool,.bool])) _ (by kernel_rfl) (by kernel_rfl) (by kernel_rfl) (by kernel_rfl) (by kernel_rfl) h.tail.tail.tail.tail.tail.tail,
  laid_mem (t := 233) (.arr 39 .strg) _ (by kernel_rfl) (by kernel_rfl) (by kernel_rfl) (by kernel_rfl) (by kernel_rfl) h.tail.tail.tail,
  laid_mem (t := 216) (.arr 25 .strg) _ (by kernel_rfl) (by kernel_rfl) (by kernel_rfl) (by kernel_rfl) (by kernel_rfl) h.tail.tail.tail.tail⟩
theorem laid_met (os : Os) (args : Array Value) : laidMet Tryz.prog laids ((World.laidAll Tryz.prog os laids).forCall (fun _ _ => 0) ⟨#[],args,[]⟩).memory :=
 laidMet_laidAll _ (by kernel_rfl) (by kernel_rfl)
theorem laid_shaped (os : Os) (args : Array Value) : ((World.laidAll Tryz.prog os laids).forCall (fun _ _ => 0) ⟨#[],args,[]⟩).Shaped Tryz.prog :=
 World.shaped_of_ZipB (by kernel_rfl) (by kernel_rfl)
theorem ext_kept {W W' : World} (h : Ext W W') : ∀ may,W.keptBut W' may := fun may => (Ext.below h).frame may
theorem laidOut : laidOutB Tryz.prog = true := by kernel_rfl
end Go.Proofs.YtmbiojpcidccjaaGreatDoor
