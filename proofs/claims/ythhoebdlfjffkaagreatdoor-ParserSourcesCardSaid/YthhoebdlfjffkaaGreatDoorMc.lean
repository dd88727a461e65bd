/- Texts of the proof, one behind the other. -/
import Derived.Test.YthhoebdlfjffkaaGreatDoorMb
import Derived.Shelf.Strings.Builder1
import Derived.Shelf.Strings.Builder2
import Derived.Shelf.Strings.OnBuilder
import Derived.Shelf.Small.Wraps
import Derived.Shelf.Strings.BuilderF
import Derived.Shelf.Strings.BuilderK
import Derived.Shelf.Strings.Builder2Cap
import Derived.Shelf.Strconv.Itoa0
import Derived.Shelf.Strconv.Itoa1
import Derived.Shelf.LaysM
import Derived.Shelf.Strconv.Itoa2
import Derived.Shelf.Strconv.Itoa3
import Derived.Shelf.Strconv.Itoa4
import Derived.Shelf.Strings.Prefix
import Derived.Shelf.Strings.BuilderCap
import Derived.Test.YthhoebdlfjffkaaGreatDoorProg
import Derived.ProofKit
import Derived.Lib.LaidTab
import Derived.Deep.Slices
import Derived.Deep.Fields
import Derived.OpenShut
set_option linter.all false
namespace Go.Proofs.YthhoebdlfjffkaaGreatDoor
open Go.RowKit Go.Par Go.Sx
set_option maxRecDepth 100000 in
theorem checkExpr_any (H : Hp) (G : Gl H) (e : Ex) (cs : List Value) (h : Rep H (dEx .u8 e) cs) (he : e.depth ≤ 1000000) (w : World) (hA : Agr H w) :
 Calls Tryz.prog 15 #[.agg cs.toArray] w fun r w' => r = .returned (.int .i64 (checkE e : Nat)) ∧ Ext w w' := by
 obtain ⟨op,nm,nn,args⟩ := e
 obtain ⟨p,c,rfl,hs,hnm⟩ := ex_open h
 refine Sx.enter (H := H) Tryz.func15 rfl Tryz.ntmps15 rfl hA ?_
 refine .sr<|.bx Z Z Z fun b1 => ?_
 refine Sx.freezeBox fun H1 u1 m1 => ?_
 refine .a Z Z<|.nt<|.sq<|.bk<|.sr<|.yv (.loadMW Z Fx.agg27 m1 Z) Z<|.yv (.call Fx.call29 Z (fun W s => exprDepth_any _ H1 _ W (h.up u1.up) he s.agr)) Z<|.yv (.gtr Z Z) Z<|.a Z Z<|.nt<|.cd Z (fun h3 => ?_) (fun h3 => ?_)
 ·try simp only [dt] at h3
  refine .sr<|.a Z Z<|.nt<|.rt<|.bR<|.tR<|?_
  refine Sx.ret1 (.inl rfl) rfl (.tmp rfl) fun W s => ⟨?_,s.ext⟩
  first
   | (rw [checkE,if_pos (by omega)];rfl)
   | (rw [checkE,if_neg (by omega),if_pos (by simpa using h7)];rfl)
   | (rw [checkE,if_neg (by omega),if_neg (by simpa using h7),if_pos (by simpa using h10)];rfl)
   | (rw [checkE,if_neg (by omega),if_neg (by simpa using h7),if_neg (by simpa using h10)];rfl)
 try simp only [df] at h3
 refine .sr<|.yv (.call Fx.call30 Z (fun W s => everyExpr_any 31 namE namedExpr_any H1 (G.up u1.up) _ _ b1 0 W (h.up u1.up) m1 s.agr)) Z<|.yv (.not Z) Z<|.a Z Z<|.nt<|.cd Z (fun h7 => ?_) (fun h7 => ?_)
 ·skip
  refine .sr<|.a Z Z<|.nt<|.rt<|.bR<|.tR<|?_
  refine Sx.ret1 (.inl rfl) rfl (.tmp rfl) fun W s => ⟨?_,s.ext⟩
  first
   | (rw [checkE,if_pos (by omega)];rfl)
   | (rw [checkE,if_neg (by omega),if_pos (by simpa using h7)];rfl)
   | (rw [checkE,if_neg (by omega),if_neg (by simpa using h7),if_pos (by simpa using h10)];rfl)
   | (rw [checkE,if_neg (by omega),if_neg (by simpa using h7),if_neg (by simpa using h10)];rfl)
 skip
 refine .sr<|.yv (.call Fx.call30 Z (fun W s => everyExpr_any 32 frmE formedExpr_any H1 (G.up u1.up) _ _ b1 0 W (h.up u1.up) m1 s.agr)) Z<|.yv (.not Z) Z<|.a Z Z<|.nt<|.cd Z (fun h10 => ?_) (fun h10 => ?_)
 ·skip
  refine .sr<|.a Z Z<|.nt<|.rt<|.bR<|.tR<|?_
  refine Sx.ret1 (.inl rfl) rfl (.tmp rfl) fun W s => ⟨?_,s.ext⟩
  first
   | (rw [checkE,if_pos (by omega)];rfl)
   | (rw [checkE,if_neg (by omega),if_pos (by simpa using h7)];rfl)
   | (rw [checkE,if_neg (by omega),if_neg (by simpa using h7),if_pos (by simpa using h10)];rfl)
   | (rw [checkE,if_neg (by omega),if_neg (by simpa using h7),if_neg (by simpa using h10)];rfl)
 skip
 refine .sk<|.bN<|.tN<|.sr<|.a Z Z<|.nt<|.rt<|?_
 refine Sx.ret1 (.inl rfl) rfl (.tmp rfl) fun W s => ⟨?_,s.ext⟩
 first
  | (rw [checkE,if_pos (by omega)];rfl)
  | (rw [checkE,if_neg (by omega),if_pos (by simpa using h7)];rfl)
  | (rw [checkE,if_neg (by omega),if_neg (by simpa using h7),if_pos (by simpa using h10)];rfl)
  | (rw [checkE,if_neg (by omega),if_neg (by simpa using h7),if_neg (by simpa using h10)];rfl)
set_option maxRecDepth 100000 in
theorem within_any (gf : FuncId) (q : Ex → Bool) (hg : ExFn gf q) (H : Hp) (G : Gl H) (kd : UInt8) (nm hd : Str) (ex : List Ex) (th el : List Sm) (cs : List Value) (b o : Nat) (w : World) (h : Rep H (dSm .u8 (.mk kd nm hd ex th el)) cs) (hm : MemAt H b o cs) (hA : Agr H w) :
 Calls Tryz.prog 142 #[.pointer (some ⟨b,o,none⟩),.func (.func gf) #[] #[]] w fun r w' => r = .returned (.bool (Ex.alls q ex)) ∧ Ext w w' := by
 obtain ⟨p,c,p1,c1,p2,c2,rfl,hs,hs1,hs2,hn1,hn2⟩ := sm_open h
 have hcap := hs.cap
 refine Sx.enter (H := H) Tryz.func142 rfl Tryz.ntmps142 rfl hA ?_
 refine .sr<|.a Z Z<|.nt<|.sq<|.sr<|.m Z Z<|.yv (.nilCheck Z) Z<|.yv (.fieldAddr Z Fx.field208_3) Z<|.yv (.loadM Z Fx.agg25 hm (k := 3) Z Z) Z<|.yv (.lenSl Fx.sl25 Z) Z<|.m Z Z<|.nt<|.bk<|.lp (X := Nat) [(0,_),(1,_),(10,_)] ⟨rfl,rfl,rfl,trivial⟩ [] (fun k => [(11,.int .i64 (k : Nat))]) (fun k => H) (fun k => []) (fun k => k ≤ ex.length ∧ Ex.alls q (ex.take k) = true) (fun k => ex.length - k) 0 (fun _ s => s) ⟨rfl,trivial⟩ ⟨by omega,rfl⟩ fun k hC => ?_
 obtain ⟨hk0,hal⟩ := hC
 refine .sr<|.yv (.lss Z Z) Z<|.nt<|.sq<|.cd Z (fun h12 => ?_) (fun h12 => ?_)
 ·try simp only [dt] at h12
  have hk : k < ex.length := by omega
  obtain ⟨b5,o5,c5,hp5,r5,l5,m5⟩ := hs.elem (map_at hk)
  cases hp5
  refine .sk<|.tN<|.sq<|.bk<|.sr<|.m Z Z<|.a Z Z<|.ns<|.m Z Z<|.yv (.nilCheck Z) Z<|.yv (.fieldAddr Z Fx.field208_3) Z<|.yv (.loadM Z Fx.agg25 hm (k := 3) Z Z) Z<|.m Z Z<|.yv (.indexSl Fx.sl25 Z Z Z (by omega) (q := o5 + k * 4) Z) Z<|.m Z Z<|.yv (.call Fx.call30 Z (fun W s => everyExpr_any gf q hg H G _ c5 b5 (o5 + k * 4) W r5 m5 s.agr)) Z<|.yv (.not Z) Z<|.nt<|.cd Z (fun h22 => ?_) (fun h22 => ?_)
  ·skip
   refine .sr<|.a Z Z<|.nt<|.rt<|.bR<|.tR<|.tR<|.bR<|.tR<|?_
   refine Sx.ret1 (.inl rfl) rfl (.tmp rfl) fun W s => ⟨retB ?_,s.ext⟩
   first
    | (rw [alls_bad hk (by simpa using h22)])
    | (rw [hal])
  skip
  exact .sk<|.bN<|.tN<|.rg<|.yv (.add Z Z (w6 (by omega))) Z<|.m Z Z<|.nt<|.ag (k + 1) ⟨rfl,trivial⟩ ⟨rfl,rfl,rfl,trivial⟩ (fun _ s => s) ⟨by omega,by rw [alls_succ hk,hal];simpa using h22⟩ (by omega)
 try simp only [df] at h12
 obtain rfl : k = ex.length := by omega
 rw [List.take_length] at hal
 refine .ex<|.tE<|.tE<|.bE<|.tN<|.sr<|.a Z Z<|.nt<|.rt<|?_
 refine Sx.ret1 (.inl rfl) rfl (.tmp rfl) fun W s => ⟨retB ?_,s.ext⟩
 first
  | (rw [alls_bad hk (by simpa using h22)])
  | (rw [hal])
def SmFn (gf : FuncId) (q : Sm → Bool) : Prop := callN Tryz.prog gf = true ∧ ∀ (H : Hp),Gl H → ∀ (e : Sm) (cs : List Value) (b o : Nat) (w : World),Rep H (dSm .u8 e) cs → MemAt H b o cs → okS1 e = true → Agr H w →
 Calls Tryz.prog gf #[.pointer (some ⟨b,o,none⟩)] w fun r w' => r = .returned (.bool (q e)) ∧ Ext w w'
set_option maxRecDepth 100000 in
theorem namedStmt_any : SmFn 105 namS := by
 refine ⟨Fx.call105,fun H G e cs b o w h hm hok hA => ?_⟩
 obtain ⟨kd,nm,hd,ex,th,el⟩ := e
 obtain ⟨p,c,p1,c1,p2,c2,rfl,hs,hs1,hs2,hn1,hn2⟩ := sm_open h
 have hcap := hs.cap
 have hcap1 := hs1.cap
 have hcap2 := hs2.cap
 refine Sx.enter (H := H) Tryz.func105 rfl Tryz.ntmps105 rfl hA ?_
 refine .sr<|.a Z Z<|.ns<|.m Z Z<|.yv (.nilCheck Z) Z<|.yv (.fieldAddr Z Fx.field208_0) Z<|.yv (.loadM Z Fx.agg206 hm (k := 0) Z Z) Z<|.yv (.call Fx.call141 Z (fun W s => form_any H G kd W s.agr)) Z<|.m Z Z<|.yv (.extract Z Z) Z<|.yv (.extract Z Z) Z<|.al Fx.zero236 Z fun b3 => .sV .head Z Z Fx.size236 Z (by simp [formC,Value.oneCell']) Z<|.a Z Z<|.nt<|.sq<|.sr<|.yv (.fieldAddr Z Fx.field236_0) Z<|.yv (.load Z Fx.agg4 (.head _) Z) Z<|.m Z Z<|.b2 (fun h15 => ?_) (fun h15 => ?_)
 ·skip
  refine .gd Z Z<|.yv (.move Z) Z<|.gd Z Z<|.yv (.nilCheck Z) Z<|.gd Z Z<|.yv (.fieldAddr Z Fx.field208_1) Z<|.gd Z Z<|.yv (.loadM Z Fx.agg9 hm (k := 1) Z Z) Z<|.gd Z Z<|.yv (.call Fx.call58 Z (fun W s => isName_any H G nm (by omega) W s.agr)) Z<|.gd Z Z<|.yv (.not Z) Z<|.yv (.pickT Z Z) Z<|.m Z Z<|.b2 (fun h23 => ?_) (fun h23 => ?_)
  ·skip
   refine .gF Z Z Z Z<|.gF Z Z Z Z<|.gF Z Z Z Z<|.gU Z Z Z<|.gU Z Z Z<|.gU Z Z Z<|.gU Z Z Z<|.gU Z Z Z<|.gU Z Z Z<|.gF Z Z Z Z<|.yv (.pickT Z Z) Z<|.nt<|.cT Z<|.sr<|.a Z Z<|.nt<|.rt<|.tR<|?_
   refine Sx.ret1 (.inl rfl) rfl (.tmp rfl) fun W s => ⟨retB ?_,s.ext⟩
   first
    | (simp only [namS];simp_all)
  skip
  refine .gd Z Z<|.yv (.fieldAddr Z Fx.field236_1) Z<|.gd Z Z<|.yv (.load Z Fx.agg4 (.head _) Z) Z<|.gd Z Z<|.yv (.move Z) Z<|.b2 (fun h26 => ?_) (fun h26 => ?_)
  ·skip
   refine .gd Z Z<|.yv (.move Z) Z<|.gd Z Z<|.yv (.nilCheck Z) Z<|.gd Z Z<|.yv (.fieldAddr Z Fx.field208_2) Z<|.gd Z Z<|.yv (.loadM Z Fx.agg9 hm (k := 2) Z Z) Z<|.gd Z Z<|.yv (.call Fx.call58 Z (fun W s => isName_any H G hd (by omega) W s.agr)) Z<|.gd Z Z<|.yv (.not Z) Z<|.gd Z Z<|.yv (.pickT Z Z) Z<|.yv (.pickF Z Z) Z<|.nt<|.cd Z (fun h34 => ?_) (fun h34 => ?_)
   ·skip
    refine .sr<|.a Z Z<|.nt<|.rt<|.tR<|?_
    refine Sx.ret1 (.inl rfl) rfl (.tmp rfl) fun W s => ⟨retB ?_,s.ext⟩
    first
     | (simp only [namS];simp_all)
   skip
   refine .sk<|.tN<|.sr<|.m Z Z<|.yv (.call Fx.call142 Z (fun W s => within_any 31 namE namedExpr_any H G _ _ _ _ _ _ _ b o W h hm s.agr)) Z<|.a Z Z<|.nt<|.rt<|?_
   refine Sx.ret1 (.inl rfl) rfl (.tmp rfl) fun W s => ⟨retB ?_,s.ext⟩
   first
    | (simp only [namS];simp_all)
  skip
  refine .gF Z Z Z Z<|.gF Z Z Z Z<|.gF Z Z Z Z<|.gF Z Z Z Z<|.gF Z Z Z Z<|.gF Z Z Z Z<|.gd Z Z<|.yv (.pickF Z Z) Z<|.yv (.pickF Z Z) Z<|.nt<|.cF Z<|.sk<|.tN<|.sr<|.m Z Z<|.yv (.call Fx.call142 Z (fun W s => within_any 31 namE namedExpr_any H G _ _ _ _ _ _ _ b o W h hm s.agr)) Z<|.a Z Z<|.nt<|.rt<|?_
  refine Sx.ret1 (.inl rfl) rfl (.tmp rfl) fun W s => ⟨retB ?_,s.ext⟩
  first
   | (simp only [namS];simp_all)
 skip
 refine .gF Z Z Z Z<|.gF Z Z Z Z<|.gF Z Z Z Z<|.gF Z Z Z Z<|.gF Z Z Z Z<|.gF Z Z Z Z<|.yv (.pickF Z Z) Z<|.m Z Z<|.gd Z Z<|.yv (.fieldAddr Z Fx.field236_1) Z<|.gd Z Z<|.yv (.load Z Fx.agg4 (.head _) Z) Z<|.gd Z Z<|.yv (.move Z) Z<|.b2 (fun h26 => ?_) (fun h26 => ?_)
 ·skip
  refine .gd Z Z<|.yv (.move Z) Z<|.gd Z Z<|.yv (.nilCheck Z) Z<|.gd Z Z<|.yv (.fieldAddr Z Fx.field208_2) Z<|.gd Z Z<|.yv (.loadM Z Fx.agg9 hm (k := 2) Z Z) Z<|.gd Z Z<|.yv (.call Fx.call58 Z (fun W s => isName_any H G hd (by omega) W s.agr)) Z<|.gd Z Z<|.yv (.not Z) Z<|.gd Z Z<|.yv (.pickT Z Z) Z<|.yv (.pickF Z Z) Z<|.nt<|.cd Z (fun h34 => ?_) (fun h34 => ?_)
  ·skip
   refine .sr<|.a Z Z<|.nt<|.rt<|.tR<|?_
   refine Sx.ret1 (.inl rfl) rfl (.tmp rfl) fun W s => ⟨retB ?_,s.ext⟩
   first
    | (simp only [namS];simp_all)
  skip
  refine .sk<|.tN<|.sr<|.m Z Z<|.yv (.call Fx.call142 Z (fun W s => within_any 31 namE namedExpr_any H G _ _ _ _ _ _ _ b o W h hm s.agr)) Z<|.a Z Z<|.nt<|.rt<|?_
  refine Sx.ret1 (.inl rfl) rfl (.tmp rfl) fun W s => ⟨retB ?_,s.ext⟩
  first
   | (simp only [namS];simp_all)
 skip
 refine .gF Z Z Z Z<|.gF Z Z Z Z<|.gF Z Z Z Z<|.gF Z Z Z Z<|.gF Z Z Z Z<|.gF Z Z Z Z<|.gd Z Z<|.yv (.pickF Z Z) Z<|.yv (.pickF Z Z) Z<|.nt<|.cF Z<|.sk<|.tN<|.sr<|.m Z Z<|.yv (.call Fx.call142 Z (fun W s => within_any 31 namE namedExpr_any H G _ _ _ _ _ _ _ b o W h hm s.agr)) Z<|.a Z Z<|.nt<|.rt<|?_
 refine Sx.ret1 (.inl rfl) rfl (.tmp rfl) fun W s => ⟨retB ?_,s.ext⟩
 first
  | (simp only [namS];simp_all)
set_option maxRecDepth 100000 in
theorem formedStmt_any : SmFn 108 frmS := by
 refine ⟨Fx.call108,fun H G e cs b o w h hm hok hA => ?_⟩
 obtain ⟨kd,nm,hd,ex,th,el⟩ := e
 obtain ⟨p,c,p1,c1,p2,c2,rfl,hs,hs1,hs2,hn1,hn2⟩ := sm_open h
 have hcap := hs.cap
 have hcap1 := hs1.cap
 have hcap2 := hs2.cap
 refine Sx.enter (H := H) Tryz.func108 rfl Tryz.ntmps108 rfl hA ?_
 refine .sr<|.a Z Z<|.ns<|.m Z Z<|.yv (.nilCheck Z) Z<|.yv (.fieldAddr Z Fx.field208_0) Z<|.yv (.loadM Z Fx.agg206 hm (k := 0) Z Z) Z<|.yv (.call Fx.call141 Z (fun W s => form_any H G kd W s.agr)) Z<|.m Z Z<|.yv (.extract Z Z) Z<|.yv (.extract Z Z) Z<|.al Fx.zero236 Z fun b3 => .sV .head Z Z Fx.size236 Z (by simp [formC,Value.oneCell']) Z<|.a Z Z<|.nt<|.sq<|.sr<|.m Z Z<|.yv (.nilCheck Z) Z<|.yv (.fieldAddr Z Fx.field208_3) Z<|.yv (.loadM Z Fx.agg25 hm (k := 3) Z Z) Z<|.yv (.lenSl Fx.sl25 Z) Z<|.a Z Z<|.nt<|.bk<|.cu (X := Bool) [(0,_),(3,_)] ⟨rfl,rfl,trivial⟩ (fun z => [(19,.bool z)]) (fun z => H) (fun z => [.box b3 (formC (formOf kd)) 236]) (fun z => z = (!okKd kd || decide ((ex.length : Int) < ((formOf kd).lo : Nat)) || decide (((formOf kd).hi : Nat) < (ex.length : Int)))) ?_ fun z hC => ?_
 ·
  refine .sr<|.m Z Z<|.yv (.not Z) Z<|.a Z Z<|.nt<|.cd Z (fun h19 => ?_) (fun h19 => ?_)
  ·skip
   exact .sk<|.tN<|.me _ ⟨rfl,trivial⟩ ⟨rfl,rfl,trivial⟩ (fun _ s => s) (by first | (simp_all;done) | (simp_all;omega) | (simp_all;intros;omega))
  skip
  refine .sr<|.m Z Z<|.yv (.fieldAddr Z Fx.field236_2) Z<|.yv (.load Z Fx.agg3 (.head _) Z) Z<|.yv (.lss Z Z) Z<|.a Z Z<|.nt<|.cd Z (fun h19 => ?_) (fun h19 => ?_)
  ·skip
   exact .sk<|.tN<|.me _ ⟨rfl,trivial⟩ ⟨rfl,rfl,trivial⟩ (fun _ s => s) (by first | (simp_all;done) | (simp_all;omega) | (simp_all;intros;omega))
  skip
  exact .rg<|.m Z Z<|.yv (.fieldAddr Z Fx.field236_3) Z<|.yv (.load Z Fx.agg3 (.head _) Z) Z<|.yv (.gtr Z Z) Z<|.a Z Z<|.nt<|.me _ ⟨rfl,trivial⟩ ⟨rfl,rfl,trivial⟩ (fun _ s => s) (by first | (simp_all;done) | (simp_all;omega) | (simp_all;intros;omega))
 have e1 := hC
 refine .cd Z (fun h19 => ?_) (fun h19 => ?_)
 ·skip
  refine .sr<|.a Z Z<|.nt<|.rt<|.bR<|.tR<|?_
  refine Sx.ret1 (.inl rfl) rfl (.tmp rfl) fun W s => ⟨retB ?_,s.ext⟩
  first
   | (rw [frmS_eq,← e1,← e2,← e3,h19,h30,h51];simp)
   | (rw [frmS_eq,← e1,← e2,← e3,h19,h30,h51];rfl)
   | (rw [frmS_eq,← e1,← e2,h19,h30];rfl)
   | (rw [frmS_eq,← e1,h19];rfl)
 skip
 refine .cu (X := Bool) [(0,_),(3,_)] ⟨rfl,rfl,trivial⟩ (fun z => [(30,.bool z)]) (fun z => H) (fun z => [.box b3 (formC (formOf kd)) 236]) (fun z => z = ((!(formOf kd).nm && decide (¬ nm = [])) || (!(formOf kd).hd && decide (¬ hd = [])))) ?_ fun z hC => ?_
 ·
  refine .sr<|.yv (.fieldAddr Z Fx.field236_0) Z<|.yv (.load Z Fx.agg4 (.head _) Z) Z<|.yv (.not Z) Z<|.m Z Z<|.b2 (fun h34 => ?_) (fun h34 => ?_)
  ·skip
   refine .gd Z Z<|.yv (.move Z) Z<|.gd Z Z<|.yv (.nilCheck Z) Z<|.gd Z Z<|.yv (.fieldAddr Z Fx.field208_1) Z<|.gd Z Z<|.yv (.loadM Z Fx.agg9 hm (k := 1) Z Z) Z<|.gd Z Z<|.yv (.neS Z Z) Z<|.yv (.pickT Z Z) Z<|.a Z Z<|.nt<|.cd Z (fun h30 => ?_) (fun h30 => ?_)
   ·skip
    exact .sk<|.tN<|.me _ ⟨rfl,trivial⟩ ⟨rfl,rfl,trivial⟩ (fun _ s => s) (by first | (simp_all;done) | (simp_all;omega) | (simp_all;intros;omega))
   skip
   refine .rg<|.yv (.fieldAddr Z Fx.field236_1) Z<|.yv (.load Z Fx.agg4 (.head _) Z) Z<|.yv (.not Z) Z<|.m Z Z<|.b2 (fun h44 => ?_) (fun h44 => ?_)
   ·skip
    exact .gd Z Z<|.yv (.move Z) Z<|.gd Z Z<|.yv (.nilCheck Z) Z<|.gd Z Z<|.yv (.fieldAddr Z Fx.field208_2) Z<|.gd Z Z<|.yv (.loadM Z Fx.agg9 hm (k := 2) Z Z) Z<|.gd Z Z<|.yv (.neS Z Z) Z<|.yv (.pickT Z Z) Z<|.a Z Z<|.nt<|.me _ ⟨rfl,trivial⟩ ⟨rfl,rfl,trivial⟩ (fun _ s => s) (by first | (simp_all;done) | (simp_all;omega) | (simp_all;intros;omega))
   skip
   exact .gF Z Z Z Z<|.gF Z Z Z Z<|.gF Z Z Z Z<|.gF Z Z Z Z<|.gF Z Z Z Z<|.yv (.pickF Z Z) Z<|.a Z Z<|.nt<|.me _ ⟨rfl,trivial⟩ ⟨rfl,rfl,trivial⟩ (fun _ s => s) (by first | (simp_all;done) | (simp_all;omega) | (simp_all;intros;omega))
  skip
  refine .gF Z Z Z Z<|.gF Z Z Z Z<|.gF Z Z Z Z<|.gF Z Z Z Z<|.gF Z Z Z Z<|.yv (.pickF Z Z) Z<|.a Z Z<|.nt<|.cF Z<|.rg<|.yv (.fieldAddr Z Fx.field236_1) Z<|.yv (.load Z Fx.agg4 (.head _) Z) Z<|.yv (.not Z) Z<|.m Z Z<|.b2 (fun h44 => ?_) (fun h44 => ?_)
  ·skip
   exact .gd Z Z<|.yv (.move Z) Z<|.gd Z Z<|.yv (.nilCheck Z) Z<|.gd Z Z<|.yv (.fieldAddr Z Fx.field208_2) Z<|.gd Z Z<|.yv (.loadM Z Fx.agg9 hm (k := 2) Z Z) Z<|.gd Z Z<|.yv (.neS Z Z) Z<|.yv (.pickT Z Z) Z<|.a Z Z<|.nt<|.me _ ⟨rfl,trivial⟩ ⟨rfl,rfl,trivial⟩ (fun _ s => s) (by first | (simp_all;done) | (simp_all;omega) | (simp_all;intros;omega))
  skip
  exact .gF Z Z Z Z<|.gF Z Z Z Z<|.gF Z Z Z Z<|.gF Z Z Z Z<|.gF Z Z Z Z<|.yv (.pickF Z Z) Z<|.a Z Z<|.nt<|.me _ ⟨rfl,trivial⟩ ⟨rfl,rfl,trivial⟩ (fun _ s => s) (by first | (simp_all;done) | (simp_all;omega) | (simp_all;intros;omega))
 have e2 := hC
 refine .cd Z (fun h30 => ?_) (fun h30 => ?_)
 ·skip
  refine .sr<|.a Z Z<|.nt<|.rt<|.bR<|.tR<|?_
  refine Sx.ret1 (.inl rfl) rfl (.tmp rfl) fun W s => ⟨retB ?_,s.ext⟩
  first
   | (rw [frmS_eq,← e1,← e2,← e3,h19,h30,h51];simp)
   | (rw [frmS_eq,← e1,← e2,← e3,h19,h30,h51];rfl)
   | (rw [frmS_eq,← e1,← e2,h19,h30];rfl)
   | (rw [frmS_eq,← e1,h19];rfl)
 skip
 refine .cu (X := Bool) [(0,_)] ⟨rfl,trivial⟩ (fun z => [(51,.bool z)]) (fun z => H) (fun z => [.box b3 (formC (formOf kd)) 236]) (fun z => z = ((!(formOf kd).th && decide ((0 : Int) < th.length)) || (!(formOf kd).el && decide ((0 : Int) < el.length)))) ?_ fun z hC => ?_
 ·
  refine .sr<|.yv (.fieldAddr Z Fx.field236_4) Z<|.yv (.load Z Fx.agg4 (.head _) Z) Z<|.yv (.not Z) Z<|.m Z Z<|.b2 (fun h55 => ?_) (fun h55 => ?_)
  ·skip
   refine .gd Z Z<|.yv (.move Z) Z<|.gd Z Z<|.yv (.nilCheck Z) Z<|.gd Z Z<|.yv (.fieldAddr Z Fx.field208_4) Z<|.gd Z Z<|.yv (.loadM Z Fx.agg159 hm (k := 4) Z Z) Z<|.gd Z Z<|.yv (.lenSl Fx.sl159 Z) Z<|.gd Z Z<|.yv (.gtr Z Z) Z<|.yv (.pickT Z Z) Z<|.a Z Z<|.nt<|.cd Z (fun h51 => ?_) (fun h51 => ?_)
   ·skip
    exact .sk<|.tN<|.me _ ⟨rfl,trivial⟩ ⟨rfl,trivial⟩ (fun _ s => s) (by first | (simp_all;done) | (simp_all;omega) | (simp_all;intros;omega))
   skip
   refine .rg<|.yv (.fieldAddr Z Fx.field236_5) Z<|.yv (.load Z Fx.agg4 (.head _) Z) Z<|.yv (.not Z) Z<|.m Z Z<|.b2 (fun h66 => ?_) (fun h66 => ?_)
   ·skip
    exact .gd Z Z<|.yv (.move Z) Z<|.gd Z Z<|.yv (.nilCheck Z) Z<|.gd Z Z<|.yv (.fieldAddr Z Fx.field208_5) Z<|.gd Z Z<|.yv (.loadM Z Fx.agg159 hm (k := 5) Z Z) Z<|.gd Z Z<|.yv (.lenSl Fx.sl159 Z) Z<|.gd Z Z<|.yv (.gtr Z Z) Z<|.yv (.pickT Z Z) Z<|.a Z Z<|.nt<|.me _ ⟨rfl,trivial⟩ ⟨rfl,trivial⟩ (fun _ s => s) (by first | (simp_all;done) | (simp_all;omega) | (simp_all;intros;omega))
   skip
   exact .gF Z Z Z Z<|.gF Z Z Z Z<|.gF Z Z Z Z<|.gF Z Z Z Z<|.gF Z Z Z Z<|.gF Z Z Z Z<|.yv (.pickF Z Z) Z<|.a Z Z<|.nt<|.me _ ⟨rfl,trivial⟩ ⟨rfl,trivial⟩ (fun _ s => s) (by first | (simp_all;done) | (simp_all;omega) | (simp_all;intros;omega))
  skip
  refine .gF Z Z Z Z<|.gF Z Z Z Z<|.gF Z Z Z Z<|.gF Z Z Z Z<|.gF Z Z Z Z<|.gF Z Z Z Z<|.yv (.pickF Z Z) Z<|.a Z Z<|.nt<|.cF Z<|.rg<|.yv (.fieldAddr Z Fx.field236_5) Z<|.yv (.load Z Fx.agg4 (.head _) Z) Z<|.yv (.not Z) Z<|.m Z Z<|.b2 (fun h66 => ?_) (fun h66 => ?_)
  ·skip
   exact .gd Z Z<|.yv (.move Z) Z<|.gd Z Z<|.yv (.nilCheck Z) Z<|.gd Z Z<|.yv (.fieldAddr Z Fx.field208_5) Z<|.gd Z Z<|.yv (.loadM Z Fx.agg159 hm (k := 5) Z Z) Z<|.gd Z Z<|.yv (.lenSl Fx.sl159 Z) Z<|.gd Z Z<|.yv (.gtr Z Z) Z<|.yv (.pickT Z Z) Z<|.a Z Z<|.nt<|.me _ ⟨rfl,trivial⟩ ⟨rfl,trivial⟩ (fun _ s => s) (by first | (simp_all;done) | (simp_all;omega) | (simp_all;intros;omega))
  skip
  exact .gF Z Z Z Z<|.gF Z Z Z Z<|.gF Z Z Z Z<|.gF Z Z Z Z<|.gF Z Z Z Z<|.gF Z Z Z Z<|.yv (.pickF Z Z) Z<|.a Z Z<|.nt<|.me _ ⟨rfl,trivial⟩ ⟨rfl,trivial⟩ (fun _ s => s) (by first | (simp_all;done) | (simp_all;omega) | (simp_all;intros;omega))
 have e3 := hC
 refine .cd Z (fun h51 => ?_) (fun h51 => ?_)
 ·skip
  refine .sr<|.a Z Z<|.nt<|.rt<|.bR<|.tR<|?_
  refine Sx.ret1 (.inl rfl) rfl (.tmp rfl) fun W s => ⟨retB ?_,s.ext⟩
  first
   | (rw [frmS_eq,← e1,← e2,← e3,h19,h30,h51];simp)
   | (rw [frmS_eq,← e1,← e2,← e3,h19,h30,h51];rfl)
   | (rw [frmS_eq,← e1,← e2,h19,h30];rfl)
   | (rw [frmS_eq,← e1,h19];rfl)
 skip
 refine .sk<|.bN<|.tN<|.sr<|.m Z Z<|.yv (.call Fx.call142 Z (fun W s => within_any 32 frmE formedExpr_any H G _ _ _ _ _ _ _ b o W h hm s.agr)) Z<|.a Z Z<|.nt<|.rt<|?_
 refine Sx.ret1 (.inl rfl) rfl (.tmp rfl) fun W s => ⟨retB ?_,s.ext⟩
 first
  | (rw [frmS_eq,← e1,← e2,← e3,h19,h30,h51];simp)
  | (rw [frmS_eq,← e1,← e2,← e3,h19,h30,h51];rfl)
  | (rw [frmS_eq,← e1,← e2,h19,h30];rfl)
  | (rw [frmS_eq,← e1,h19];rfl)
theorem Fx.call104 : callN Tryz.prog 104 = Bool.true := by kernel_rfl
theorem Fx.call138 : callN Tryz.prog 138 = Bool.true := by kernel_rfl
theorem Fx.call139 : callN Tryz.prog 139 = Bool.true := by kernel_rfl
set_option maxRecDepth 100000 in
theorem every_any (gf : FuncId) (q : Sm → Bool) (hg : SmFn gf q) (H : Hp) (G : Gl H) : ∀ (l : List Sm) (p : Option Addr) (n c : Nat) (w : World),Rep H (.seq 6 (l.map (dSm .u8))) [.slice p n c] → Sm.alls okS1 l = true → Agr H w →
 Calls Tryz.prog 104 #[.slice p n c,.func (.func gf) #[] #[]] w fun r w' => r = .returned (.bool (Sm.alls q l)) ∧ Ext w w' := by
 refine Sm.lists fun l ih => ?_
 intro p n c w hs hok hA
 obtain rfl : n = l.length := by have := hs.len.1;simpa using this
 have hcap := hs.cap
 refine Sx.enter (H := H) Tryz.func104 rfl Tryz.ntmps104 rfl hA ?_
 refine .sr<|.a Z Z<|.nt<|.sq<|.sr<|.m Z Z<|.yv (.lenSl Fx.sl159 Z) Z<|.m Z Z<|.nt<|.bk<|.lp (X := Nat) [(0,_),(1,_),(8,_)] ⟨rfl,rfl,rfl,trivial⟩ [] (fun k => [(9,.int .i64 (k : Nat))]) (fun k => H) (fun k => []) (fun k => k ≤ l.length ∧ Sm.alls q (l.take k) = true) (fun k => l.length - k) 0 (fun _ s => s) ⟨rfl,trivial⟩ ⟨by omega,rfl⟩ fun k hC => ?_
 obtain ⟨hk0,hal⟩ := hC
 refine .sr<|.yv (.lss Z Z) Z<|.nt<|.sq<|.cd Z (fun h10 => ?_) (fun h10 => ?_)
 ·try simp only [dt] at h10
  have hk : k < l.length := by omega
  obtain ⟨bE,oE,cE,hpE,rE,lE,mE⟩ := hs.elem (map_at hk)
  cases hpE
  have hi := ih _ (List.getElem_mem hk)
  have hf := salls_succ (q := q) hk
  have hbad := fun h => salls_bad (q := q) hk h
  have hok1 := salls_at hk hok
  generalize hx : l[k] = x at rE hi hf hbad hok1
  obtain ⟨kd,nm,hd,ex,th,el⟩ := x
  obtain ⟨p1,c1,p2,c2,p3,c3,rfl,hs1,hs2,hs3,hn1,hn2⟩ := sm_open rE
  simp only [Sm.th,Sm.el] at hi
  simp only [sall_mk,Bool.and_eq_true] at hok1
  refine .sk<|.tN<|.sq<|.bk<|.sr<|.m Z Z<|.a Z Z<|.ns<|.m Z Z<|.m Z Z<|.yv (.indexSl Fx.sl159 Z Z Z (by omega) (q := oE + k * 6) Z) Z<|.a Z Z<|.ns<|.m Z Z<|.m Z Z<|.yv (.callV (fi := []) (ca := []) Z hg.1 Z (fun W s => hg.2 H G _ _ bE (oE + k * 6) W rE mE hok1.1.1 s.agr)) Z<|.yv (.not Z) Z<|.m Z Z<|.b2 (fun h19 => ?_) (fun h19 => ?_)
  ·skip
   refine .gF Z Z Z Z<|.gF Z Z Z Z<|.gF Z Z Z Z<|.gF Z Z Z Z<|.gF Z Z Z Z<|.gF Z Z Z Z<|.gF Z Z Z Z<|.yv (.pickT Z Z) Z<|.m Z Z<|.gF Z Z Z Z<|.gF Z Z Z Z<|.gF Z Z Z Z<|.gF Z Z Z Z<|.gF Z Z Z Z<|.gF Z Z Z Z<|.gF Z Z Z Z<|.yv (.pickT Z Z) Z<|.nt<|.cT Z<|.sr<|.a Z Z<|.nt<|.rt<|.bR<|.tR<|.tR<|.bR<|.tR<|?_
   refine Sx.ret1 (.inl rfl) rfl (.tmp rfl) fun W s => ⟨retB ?_,s.ext⟩
   first
    | (rw [hal])
    | (rw [hbad (by rw [sall_mk];simp_all)])
  skip
  refine .gd Z Z<|.yv (.move Z) Z<|.gd Z Z<|.yv (.nilCheck Z) Z<|.gd Z Z<|.yv (.fieldAddr Z Fx.field208_4) Z<|.gd Z Z<|.yv (.loadM Z Fx.agg159 mE (k := 4) Z Z) Z<|.gd Z Z<|.yv (.move Z) Z<|.gd Z Z<|.yv (.call Fx.call104 Z (fun W s => hi.1 _ _ _ W hs2 hok1.1.2 s.agr)) Z<|.gd Z Z<|.yv (.not Z) Z<|.yv (.pickF Z Z) Z<|.m Z Z<|.b2 (fun h28 => ?_) (fun h28 => ?_)
  ·skip
   refine .gF Z Z Z Z<|.gF Z Z Z Z<|.gF Z Z Z Z<|.gF Z Z Z Z<|.gF Z Z Z Z<|.gF Z Z Z Z<|.gF Z Z Z Z<|.yv (.pickT Z Z) Z<|.nt<|.cT Z<|.sr<|.a Z Z<|.nt<|.rt<|.bR<|.tR<|.tR<|.bR<|.tR<|?_
   refine Sx.ret1 (.inl rfl) rfl (.tmp rfl) fun W s => ⟨retB ?_,s.ext⟩
   first
    | (rw [hal])
    | (rw [hbad (by rw [sall_mk];simp_all)])
  skip
  refine .gd Z Z<|.yv (.move Z) Z<|.gd Z Z<|.yv (.nilCheck Z) Z<|.gd Z Z<|.yv (.fieldAddr Z Fx.field208_5) Z<|.gd Z Z<|.yv (.loadM Z Fx.agg159 mE (k := 5) Z Z) Z<|.gd Z Z<|.yv (.move Z) Z<|.gd Z Z<|.yv (.call Fx.call104 Z (fun W s => hi.2 _ _ _ W hs3 hok1.2 s.agr)) Z<|.gd Z Z<|.yv (.not Z) Z<|.yv (.pickF Z Z) Z<|.nt<|.cd Z (fun h36 => ?_) (fun h36 => ?_)
  ·skip
   refine .sr<|.a Z Z<|.nt<|.rt<|.bR<|.tR<|.tR<|.bR<|.tR<|?_
   refine Sx.ret1 (.inl rfl) rfl (.tmp rfl) fun W s => ⟨retB ?_,s.ext⟩
   first
    | (rw [hal])
    | (rw [hbad (by rw [sall_mk];simp_all)])
  skip
  exact .sk<|.bN<|.tN<|.rg<|.yv (.add Z Z (w6 (by omega))) Z<|.m Z Z<|.nt<|.ag (k + 1) ⟨rfl,trivial⟩ ⟨rfl,rfl,rfl,trivial⟩ (fun _ s => s) ⟨by omega,by rw [hf,hal,sall_mk];simp_all⟩ (by omega)
 try simp only [df] at h10
 obtain rfl : k = l.length := by omega
 rw [List.take_length] at hal
 refine .ex<|.tE<|.tE<|.bE<|.tN<|.sr<|.a Z Z<|.nt<|.rt<|?_
 refine Sx.ret1 (.inl rfl) rfl (.tmp rfl) fun W s => ⟨retB ?_,s.ext⟩
 first
  | (rw [hal])
  | (rw [hbad (by rw [sall_mk];simp_all)])
set_option maxRecDepth 100000 in
theorem statements_any (H : Hp) : ∀ (l : List Sm) (p : Option Addr) (n c : Nat) (w : World),Rep H (.seq 6 (l.map (dSm .u8))) [.slice p n c] → Sm.counts l ≤ 1000000 → Agr H w →
 Calls Tryz.prog 138 #[.slice p n c] w fun r w' => r = .returned (.int .i64 (Sm.counts l : Nat)) ∧ Ext w w' := by
 refine Sm.lists fun l ih => ?_
 intro p n c w hs hb hA
 obtain rfl : n = l.length := by have := hs.len.1;simpa using this
 have hcap := hs.cap
 have hl0 := scounts_len l
 refine Sx.enter (H := H) Tryz.func138 rfl Tryz.ntmps138 rfl hA ?_
 refine .sr<|.a Z Z<|.ns<|.m Z Z<|.yv (.lenSl Fx.sl159 Z) Z<|.a Z Z<|.nt<|.sq<|.sr<|.m Z Z<|.yv (.lenSl Fx.sl159 Z) Z<|.m Z Z<|.nt<|.bk<|.lp (X := Nat) [(0,_),(8,_)] ⟨rfl,rfl,trivial⟩ [] (fun k => [(3,.int .i64 ((l.length + (Sm.counts (l.take k) - k) : Nat) : Int)),(9,.int .i64 (k : Nat))]) (fun k => H) (fun k => []) (fun k => k ≤ l.length) (fun k => l.length - k) 0 (fun _ s => s) ⟨rfl,rfl,trivial⟩ (by omega) fun k hC => ?_
 refine .sr<|.yv (.lss Z Z) Z<|.nt<|.sq<|.cd Z (fun h10 => ?_) (fun h10 => ?_)
 ·try simp only [dt] at h10
  have hk : k < l.length := by omega
  obtain ⟨bE,oE,cE,hpE,rE,lE,mE⟩ := hs.elem (map_at hk)
  cases hpE
  have hi := ih _ (List.getElem_mem hk)
  have hf := scounts_succ hk
  have hle := scounts_take l (k + 1)
  have hlk := scounts_len (l.take k)
  rw [List.length_take,Nat.min_eq_left (by omega)] at hlk
  generalize hx : l[k] = x at rE hi hf
  obtain ⟨kd,nm,hd,ex,th,el⟩ := x
  obtain ⟨p1,c1,p2,c2,p3,c3,rfl,hs1,hs2,hs3,hn1,hn2⟩ := sm_open rE
  simp only [Sm.th,Sm.el] at hi
  rw [scount_mk] at hf
  have e1 : th.length ≤ Sm.counts th := scounts_len th
  exact .sk<|.tN<|.sq<|.bk<|.sr<|.m Z Z<|.a Z Z<|.nt<|.fl (trip := [(_,_,_),(_,_,_),(_,_,_),(_,_,_),(_,_,_),(_,_,_),(_,_,_),(_,_,_),(_,_,_),(_,_,_),(_,_,_),(_,_,_),(_,_,_),(_,_,_),(_,_,_)]) 15 [(0,0),(1,0),(2,0),(3,0),(4,0),(5,0),(6,0),(7,0),(8,0),(9,0),(10,0),(11,0),(12,0),(13,0),(14,0)] (by kernel_rfl) (by kernel_rfl) Z<|.m Z Z<|.m Z Z<|.m Z Z<|.yv (.indexSl Fx.sl159 Z Z Z (by omega) (q := oE + k * 6) Z) Z<|.yv (.fieldAddr Z Fx.field208_4) Z<|.yv (.loadM Z Fx.agg159 mE (k := 4) Z Z) Z<|.yv (.call Fx.call138 Z (fun W s => hi.1 _ _ _ W hs2 (by omega) s.agr)) Z<|.m Z Z<|.m Z Z<|.yv (.indexSl Fx.sl159 Z Z Z (by omega) (q := oE + k * 6) Z) Z<|.yv (.fieldAddr Z Fx.field208_5) Z<|.yv (.loadM Z Fx.agg159 mE (k := 5) Z Z) Z<|.yv (.call Fx.call138 Z (fun W s => hi.2 _ _ _ W hs3 (by omega) s.agr)) Z<|.yv (.add Z Z (c := ((Sm.counts th + Sm.counts el : Nat) : Int)) ((w6 (by omega)).trans (by omega))) Z<|.yv (.add Z Z (c := ((l.length + (Sm.counts (l.take (k + 1)) - (k + 1)) : Nat) : Int)) ((w6 (by omega)).trans (by omega))) Z<|.fn (tl := [_]) Z<|.a Z Z<|.nl<|.bN<|.tN<|.rg<|.yv (.add Z Z (w6 (by omega))) Z<|.m Z Z<|.nt<|.ag (k + 1) ⟨rfl,rfl,trivial⟩ ⟨rfl,rfl,trivial⟩ (fun _ s => s) (by omega) (by omega)
 try simp only [df] at h10
 obtain rfl : k = l.length := by omega
 rw [List.take_length]
 have hlk := scounts_len l
 refine .ex<|.tE<|.tE<|.bE<|.tN<|.sr<|.m Z Z<|.a Z Z<|.nt<|.rt<|?_
 refine Sx.ret1 (.inl rfl) rfl (.tmp rfl) fun W s => ⟨?_,s.ext⟩
 first
  | (rw [show l.length + (Sm.counts l - l.length) = Sm.counts l by omega])
set_option maxRecDepth 100000 in
theorem sdepth_any (H : Hp) : ∀ (l : List Sm) (p : Option Addr) (n c : Nat) (w : World),Rep H (.seq 6 (l.map (dSm .u8))) [.slice p n c] → Sm.deeps l ≤ 1000000 → Agr H w →
 Calls Tryz.prog 139 #[.slice p n c] w fun r w' => r = .returned (.int .i64 (Sm.deeps l : Nat)) ∧ Ext w w' := by
 refine Sm.lists fun l ih => ?_
 intro p n c w hs hb hA
 obtain rfl : n = l.length := by have := hs.len.1;simpa using this
 have hcap := hs.cap
 refine Sx.enter (H := H) Tryz.func139 rfl Tryz.ntmps139 rfl hA ?_
 refine .sr<|.a Z Z<|.nt<|.sq<|.sr<|.m Z Z<|.yv (.lenSl Fx.sl159 Z) Z<|.yv (.eql Z Z) Z<|.nt<|.cd Z (fun h7 => ?_) (fun h7 => ?_)
 ·try simp only [dt] at h7
  obtain rfl : l = [] := List.eq_nil_of_length_eq_zero (by omega)
  refine .sr<|.a Z Z<|.nt<|.rt<|.tR<|?_
  refine Sx.ret1 (.inl rfl) rfl (.tmp rfl) fun W s => ⟨?_,s.ext⟩
  first
   | (rfl)
   | (rw [show ((Sm.deeps l - 1 : Nat) : Int) + 1 = (Sm.deeps l : Nat) by
    have : 0 < Sm.deeps l := by
     match l,h7 with
     | ⟨kd,nm,hd,ex,th,el⟩ :: r,_ => simp only [Sm.deeps,sdepth_mk];omega
    omega])
 try simp only [df] at h7
 refine .sk<|.tN<|.sr<|.a Z Z<|.nt<|.sq<|.sr<|.m Z Z<|.yv (.lenSl Fx.sl159 Z) Z<|.m Z Z<|.nt<|.bk<|.lp (X := Nat) [(0,_),(9,_)] ⟨rfl,rfl,trivial⟩ [] (fun k => [(3,.int .i64 ((Sm.deeps (l.take k) - 1 : Nat) : Int)),(10,.int .i64 (k : Nat))]) (fun k => H) (fun k => []) (fun k => k ≤ l.length) (fun k => l.length - k) 0 (fun _ s => s) ⟨rfl,rfl,trivial⟩ (by omega) fun k hC => ?_
 refine .sr<|.yv (.lss Z Z) Z<|.nt<|.sq<|.cd Z (fun h11 => ?_) (fun h11 => ?_)
 ·try simp only [dt] at h11
  have hk : k < l.length := by omega
  obtain ⟨bE,oE,cE,hpE,rE,lE,mE⟩ := hs.elem (map_at hk)
  cases hpE
  have hi := ih _ (List.getElem_mem hk)
  have hf := sdeeps_succ hk
  have hle := sdeeps_take l (k + 1)
  generalize hx : l[k] = x at rE hi hf
  obtain ⟨kd,nm,hd,ex,th,el⟩ := x
  obtain ⟨p1,c1,p2,c2,p3,c3,rfl,hs1,hs2,hs3,hn1,hn2⟩ := sm_open rE
  simp only [Sm.th,Sm.el] at hi
  rw [sdepth_mk] at hf
  exact .sk<|.tN<|.sq<|.bk<|.sr<|.m Z Z<|.a Z Z<|.nt<|.fl (trip := [(_,_,_),(_,_,_),(_,_,_),(_,_,_),(_,_,_),(_,_,_),(_,_,_),(_,_,_),(_,_,_),(_,_,_),(_,_,_),(_,_,_),(_,_,_),(_,_,_)]) 14 [(0,0),(1,0),(2,0),(3,0),(4,0),(5,0),(6,0),(7,0),(8,0),(9,0),(10,0),(11,0),(12,0),(13,0)] (by kernel_rfl) (by kernel_rfl) Z<|.m Z Z<|.m Z Z<|.m Z Z<|.yv (.indexSl Fx.sl159 Z Z Z (by omega) (q := oE + k * 6) Z) Z<|.yv (.fieldAddr Z Fx.field208_4) Z<|.yv (.loadM Z Fx.agg159 mE (k := 4) Z Z) Z<|.yv (.call Fx.call139 Z (fun W s => hi.1 _ _ _ W hs2 (by omega) s.agr)) Z<|.m Z Z<|.m Z Z<|.yv (.indexSl Fx.sl159 Z Z Z (by omega) (q := oE + k * 6) Z) Z<|.yv (.fieldAddr Z Fx.field208_5) Z<|.yv (.loadM Z Fx.agg159 mE (k := 5) Z Z) Z<|.yv (.call Fx.call139 Z (fun W s => hi.2 _ _ _ W hs3 (by omega) s.agr)) Z<|.yv (.max3 Z Z Z (c := ((Sm.deeps (l.take (k + 1)) - 1 : Nat) : Int)) (by omega)) Z<|.fn (tl := [_]) Z<|.a Z Z<|.nl<|.bN<|.tN<|.rg<|.yv (.add Z Z (w6 (by omega))) Z<|.m Z Z<|.nt<|.ag (k + 1) ⟨rfl,rfl,trivial⟩ ⟨rfl,rfl,trivial⟩ (fun _ s => s) (by omega) (by omega)
 try simp only [df] at h11
 obtain rfl : k = l.length := by omega
 rw [List.take_length]
 refine .ex<|.tE<|.tE<|.bE<|.tN<|.sr<|.m Z Z<|.yv (.add Z Z (w6 (by omega))) Z<|.a Z Z<|.nt<|.rt<|?_
 refine Sx.ret1 (.inl rfl) rfl (.tmp rfl) fun W s => ⟨?_,s.ext⟩
 first
  | (rfl)
  | (rw [show ((Sm.deeps l - 1 : Nat) : Int) + 1 = (Sm.deeps l : Nat) by
   have : 0 < Sm.deeps l := by
    match l,h7 with
    | ⟨kd,nm,hd,ex,th,el⟩ :: r,_ => simp only [Sm.deeps,sdepth_mk];omega
   omega])
theorem Fx.agg52 : aggN Tryz.prog 52 = Option.some Option.none := by kernel_rfl
theorem Fx.agg149 : aggN Tryz.prog 149 = Option.some Option.none := by kernel_rfl
theorem Fx.call102 : callN Tryz.prog 102 = Bool.true := by kernel_rfl
theorem Fx.call103 : callN Tryz.prog 103 = Bool.true := by kernel_rfl
theorem Fx.call107 : callN Tryz.prog 107 = Bool.true := by kernel_rfl
theorem Fx.call140 : callN Tryz.prog 140 = Bool.true := by kernel_rfl
theorem Fx.field151_1 : fieldN Tryz.prog 151 1 = Option.some 1 := by kernel_rfl
theorem Fx.field151_2 : fieldN Tryz.prog 151 2 = Option.some 2 := by kernel_rfl
theorem Fx.field162_0 : fieldN Tryz.prog 162 0 = Option.some 0 := by kernel_rfl
theorem Fx.field162_1 : fieldN Tryz.prog 162 1 = Option.some 1 := by kernel_rfl
theorem Fx.field162_2 : fieldN Tryz.prog 162 2 = Option.some 2 := by kernel_rfl
theorem Fx.size27 : sizeN Tryz.prog 27 = Option.some 4 := by kernel_rfl
theorem Fx.sl52 : slN Tryz.prog 52 = Option.some 1 := by kernel_rfl
theorem Fx.zero27 : zeroN Tryz.prog 27 = Option.some
 [Go.Value.int Go.IntKind.u8 (Int.ofNat 0),Go.Value.string { data := { toList := [] } },
  Go.Value.int Go.IntKind.i64 (Int.ofNat 0),Go.Value.slice Option.none 0 0] := by kernel_rfl
set_option maxRecDepth 100000 in
theorem smallStmt_any : SmFn 140 smaS := by
 refine ⟨Fx.call140,fun H G e cs b o w h hm hok hA => ?_⟩
 obtain ⟨kd,nm,hd,ex,th,el⟩ := e
 rw [okS1] at hok
 obtain ⟨p,c,p1,c1,p2,c2,rfl,hs,hs1,hs2,hn1,hn2⟩ := sm_open h
 have hcap := hs.cap
 refine Sx.enter (H := H) Tryz.func140 rfl Tryz.ntmps140 rfl hA ?_
 refine .sr<|.a Z Z<|.nt<|.sq<|.sr<|.m Z Z<|.yv (.nilCheck Z) Z<|.yv (.fieldAddr Z Fx.field208_3) Z<|.yv (.loadM Z Fx.agg25 hm (k := 3) Z Z) Z<|.yv (.lenSl Fx.sl25 Z) Z<|.m Z Z<|.nt<|.bk<|.lp (X := Nat) [(8,_),(9,_)] ⟨rfl,rfl,trivial⟩ [] (fun k => [(10,.int .i64 (k : Nat))]) (fun k => H) (fun k => []) (fun k => k ≤ ex.length ∧ (ex.take k).all (fun x => decide (x.depth ≤ 8)) = true) (fun k => ex.length - k) 0 (fun _ s => s) ⟨rfl,trivial⟩ ⟨by omega,rfl⟩ fun k hC => ?_
 obtain ⟨hk0,hal⟩ := hC
 refine .sr<|.yv (.lss Z Z) Z<|.nt<|.sq<|.cd Z (fun h11 => ?_) (fun h11 => ?_)
 ·try simp only [dt] at h11
  have hk : k < ex.length := by omega
  obtain ⟨bE,oE,cE,hpE,rE,lE,mE⟩ := hs.elem (map_at hk)
  cases hpE
  have hd1 := lall_at hk hok
  simp only [decide_eq_true_eq] at hd1
  refine .sk<|.tN<|.sq<|.bk<|.sr<|.yv (.indexSl Fx.sl25 Z Z Z (by omega) (q := oE + k * 4) Z) Z<|.yv (.loadMW Z Fx.agg27 mE lE) Z<|.al Fx.zero27 Z fun b4 => .sV .head Z Z Fx.size27 lE rE.one Z<|.ns<|.yv (.loadW Z Fx.agg27 (.head _) lE) Z<|.yv (.call Fx.call29 Z (fun W s => exprDepth_any _ H cE W rE hd1 s.agr)) Z<|.yv (.gtr Z Z) Z<|.nt<|.cd Z (fun h16 => ?_) (fun h16 => ?_)
  ·try simp only [dt] at h16
   refine .sr<|.a Z Z<|.nt<|.rt<|.bR<|.tR<|.tR<|.bR<|.tR<|?_
   refine Sx.ret1 (.inl rfl) rfl (.tmp rfl) fun W s => ⟨retB ?_,s.ext⟩
   first
    | (rw [smaS,hal])
    | (rw [smaS,lall_bad hk (by simp;omega)])
  try simp only [df] at h16
  exact .sk<|.bN<|.tN<|.rg<|.yv (.add Z Z (w6 (by omega))) Z<|.m Z Z<|.nt<|.ag (k + 1) ⟨rfl,trivial⟩ ⟨rfl,rfl,trivial⟩ (fun _ s => s.pick [] [] Z Z) ⟨by omega,by rw [lall_succ hk,hal];simp;omega⟩ (by omega)
 try simp only [df] at h11
 obtain rfl : k = ex.length := by omega
 rw [List.take_length] at hal
 refine .ex<|.tE<|.tE<|.bE<|.tN<|.sr<|.a Z Z<|.nt<|.rt<|?_
 refine Sx.ret1 (.inl rfl) rfl (.tmp rfl) fun W s => ⟨retB ?_,s.ext⟩
 first
  | (rw [smaS,hal])
  | (rw [smaS,lall_bad hk (by simp;omega)])
def HdFn (gf : FuncId) (q : Hd → Bool) : Prop := callN Tryz.prog gf = true ∧ ∀ (H : Hp),Gl H → ∀ (e : Hd) (cs : List Value) (w : World),Rep H (dHd .u8 e) cs → okH e = true → Agr H w →
 Calls Tryz.prog gf #[.agg cs.toArray] w fun r w' => r = .returned (.bool (q e)) ∧ Ext w w'
set_option maxRecDepth 100000 in
theorem smallHandler_any : HdFn 102 smaH := by
 refine ⟨Fx.call102,fun H G e cs w h hok hA => ?_⟩
 simp only [okH,Bool.and_eq_true,decide_eq_true_eq] at hok
 obtain ⟨⟨ho1,ho2⟩,ho3⟩ := hok
 obtain ⟨p1,c1,p2,c2,rfl,hnm,hs1,hs2⟩ := hd_open h
 have hcap := hs1.cap
 refine Sx.enter (H := H) Tryz.func102 rfl Tryz.ntmps102 rfl hA ?_
 refine .sr<|.bx Z Z Z fun b1 => .a Z Z<|.nt<|.sq<|.sr<|.yv (.fieldAddr Z Fx.field162_1) Z<|.yv (.load Z Fx.agg52 (.head _) Z) Z<|.yv (.lenSl Fx.sl52 Z) Z<|.yv (.gtr Z Z) Z<|.m Z Z<|.b2 (fun h7 => ?_) (fun h7 => ?_)
 ·try simp only [dt] at h7
  refine .gF Z Z Z Z<|.gF Z Z Z Z<|.gF Z Z Z Z<|.gF Z Z Z Z<|.yv (.pickT Z Z) Z<|.m Z Z<|.gF Z Z Z Z<|.gF Z Z Z Z<|.gF Z Z Z Z<|.gF Z Z Z Z<|.yv (.pickT Z Z) Z<|.nt<|.cT Z<|.sr<|.a Z Z<|.nt<|.rt<|.tR<|?_
  refine Sx.ret1 (.inl rfl) rfl (.tmp rfl) fun W s => ⟨retB ?_,s.ext⟩
  first
   | (simp only [smaH];simp;omega)
   | (simp only [smaH];simp [show ¬ 4 < e.ps.length by omega,show ¬ 40 < Sm.counts e.body by omega,show ¬ 8 < Sm.deeps e.body by omega])
 try simp only [df] at h7
 refine .gd Z Z<|.yv (.fieldAddr Z Fx.field162_2) Z<|.gd Z Z<|.yv (.load Z Fx.agg159 (.head _) Z) Z<|.gd Z Z<|.yv (.call Fx.call138 Z (fun W s => statements_any H _ _ _ _ W hs2 ho1 s.agr)) Z<|.gd Z Z<|.yv (.gtr Z Z) Z<|.yv (.pickF Z Z) Z<|.m Z Z<|.b2 (fun h13 => ?_) (fun h13 => ?_)
 ·try simp only [dt] at h13
  refine .gF Z Z Z Z<|.gF Z Z Z Z<|.gF Z Z Z Z<|.gF Z Z Z Z<|.yv (.pickT Z Z) Z<|.nt<|.cT Z<|.sr<|.a Z Z<|.nt<|.rt<|.tR<|?_
  refine Sx.ret1 (.inl rfl) rfl (.tmp rfl) fun W s => ⟨retB ?_,s.ext⟩
  first
   | (simp only [smaH];simp;omega)
   | (simp only [smaH];simp [show ¬ 4 < e.ps.length by omega,show ¬ 40 < Sm.counts e.body by omega,show ¬ 8 < Sm.deeps e.body by omega])
 try simp only [df] at h13
 refine .gd Z Z<|.yv (.fieldAddr Z Fx.field162_2) Z<|.gd Z Z<|.yv (.load Z Fx.agg159 (.head _) Z) Z<|.gd Z Z<|.yv (.call Fx.call139 Z (fun W s => sdepth_any H _ _ _ _ W hs2 ho2 s.agr)) Z<|.gd Z Z<|.yv (.gtr Z Z) Z<|.yv (.pickF Z Z) Z<|.nt<|.cd Z (fun h18 => ?_) (fun h18 => ?_)
 ·try simp only [dt] at h18
  refine .sr<|.a Z Z<|.nt<|.rt<|.tR<|?_
  refine Sx.ret1 (.inl rfl) rfl (.tmp rfl) fun W s => ⟨retB ?_,s.ext⟩
  first
   | (simp only [smaH];simp;omega)
   | (simp only [smaH];simp [show ¬ 4 < e.ps.length by omega,show ¬ 40 < Sm.counts e.body by omega,show ¬ 8 < Sm.deeps e.body by omega])
 try simp only [df] at h18
 refine .sk<|.tN<|.sr<|.yv (.fieldAddr Z Fx.field162_2) Z<|.yv (.load Z Fx.agg159 (.head _) Z) Z<|.yv (.call Fx.call104 Z (fun W s => every_any 140 smaS smallStmt_any H G _ _ _ _ W hs2 ho3 s.agr)) Z<|.a Z Z<|.nt<|.rt<|?_
 refine Sx.ret1 (.inl rfl) rfl (.tmp rfl) fun W s => ⟨retB ?_,s.ext⟩
 first
  | (simp only [smaH];simp;omega)
  | (simp only [smaH];simp [show ¬ 4 < e.ps.length by omega,show ¬ 40 < Sm.counts e.body by omega,show ¬ 8 < Sm.deeps e.body by omega])
set_option maxRecDepth 100000 in
theorem formedHandler_any : HdFn 107 frmH := by
 refine ⟨Fx.call107,fun H G e cs w h hok hA => ?_⟩
 simp only [okH,Bool.and_eq_true,decide_eq_true_eq] at hok
 obtain ⟨⟨ho1,ho2⟩,ho3⟩ := hok
 obtain ⟨p1,c1,p2,c2,rfl,hnm,hs1,hs2⟩ := hd_open h
 have hcap := hs1.cap
 refine Sx.enter (H := H) Tryz.func107 rfl Tryz.ntmps107 rfl hA ?_
 refine .sr<|.bx Z Z Z fun b1 => .a Z Z<|.ns<|.yv (.fieldAddr Z Fx.field162_2) Z<|.yv (.load Z Fx.agg159 (.head _) Z) Z<|.yv (.call Fx.call104 Z (fun W s => every_any 108 frmS formedStmt_any H G _ _ _ _ W hs2 ho3 s.agr)) Z<|.a Z Z<|.nt<|.rt<|?_
 refine Sx.ret1 (.inl rfl) rfl (.tmp rfl) fun W s => ⟨retB ?_,s.ext⟩
 first
  | (rw [frmH])
set_option maxRecDepth 100000 in
theorem namedHandler_any : HdFn 103 namH := by
 refine ⟨Fx.call103,fun H G e cs w h hok hA => ?_⟩
 simp only [okH,Bool.and_eq_true,decide_eq_true_eq] at hok
 obtain ⟨⟨ho1,ho2⟩,ho3⟩ := hok
 obtain ⟨p1,c1,p2,c2,rfl,hnm,hs1,hs2⟩ := hd_open h
 have hcap := hs1.cap
 refine Sx.enter (H := H) Tryz.func103 rfl Tryz.ntmps103 rfl hA ?_
 refine .sr<|.bx Z Z Z fun b1 => .a Z Z<|.ns<|.yv (.fieldAddr Z Fx.field162_0) Z<|.yv (.load Z Fx.agg9 (.head _) Z) Z<|.yv (.call Fx.call58 Z (fun W s => isName_any H G _ (by omega) W s.agr)) Z<|.a Z Z<|.nt<|.sq<|.sr<|.yv (.fieldAddr Z Fx.field162_1) Z<|.yv (.load Z Fx.agg52 (.head _) Z) Z<|.yv (.lenSl Fx.sl52 Z) Z<|.m Z Z<|.nt<|.bk<|.lp (X := Nat) [(1,_),(10,_),(11,_)] ⟨rfl,rfl,rfl,trivial⟩ [_] (fun k => [(12,.int .i64 (k : Nat)),(3,.bool (nameB e.nm && (e.ps.take k).all nameB))]) (fun k => H) (fun k => []) (fun k => k ≤ e.ps.length) (fun k => e.ps.length - k) 0 (fun _ s => s) ⟨rfl,(by rw [List.take_zero,List.all_nil,Bool.and_true];rfl),trivial⟩ (by omega) fun k hC => ?_
 refine .sr<|.yv (.lss Z Z) Z<|.nt<|.sq<|.cd Z (fun h13 => ?_) (fun h13 => ?_)
 ·try simp only [dt] at h13
  have hk : k < e.ps.length := by omega
  obtain ⟨bE,oE,cE,hpE,rE,lE,mE⟩ := hs1.elem (map_at hk)
  cases hpE
  obtain ⟨rfl,hsl⟩ := str_open rE
  refine .sk<|.tN<|.sq<|.bk<|.sr<|.yv (.indexSl Fx.sl52 Z Z Z (by omega) (q := oE + k * 1) Z) Z<|.yv (.loadM Z Fx.agg9 mE (k := 0) Z Z) Z<|.a Z Z<|.nt<|.rg<|.m Z Z<|.m Z Z<|.b2 (fun h17 => ?_) (fun h17 => ?_)
  ·skip
   exact .gd Z Z<|.yv (.move Z) Z<|.gd Z Z<|.yv (.call Fx.call58 Z (fun W s => isName_any H G _ (by omega) W s.agr)) Z<|.yv (.pickT Z Z) Z<|.a Z Z<|.nl<|.bN<|.tN<|.rg<|.yv (.add Z Z (w6 (by omega))) Z<|.m Z Z<|.nt<|.ag (k + 1) ⟨rfl,(by rw [lall_succ hk,← Bool.and_assoc];rw [h17];rfl),trivial⟩ ⟨rfl,rfl,rfl,trivial⟩ (fun _ s => s) (by omega) (by omega)
  skip
  exact .gF Z Z Z Z<|.gF Z Z Z Z<|.yv (.pickF Z Z) Z<|.a Z Z<|.nl<|.bN<|.tN<|.rg<|.yv (.add Z Z (w6 (by omega))) Z<|.m Z Z<|.nt<|.ag (k + 1) ⟨rfl,(by rw [lall_succ hk,← Bool.and_assoc];rw [h17];rfl),trivial⟩ ⟨rfl,rfl,rfl,trivial⟩ (fun _ s => s) (by omega) (by omega)
 try simp only [df] at h13
 obtain rfl : k = e.ps.length := by omega
 rw [List.take_length]
 refine .ex<|.tE<|.tE<|.bE<|.tN<|.sr<|.m Z Z<|.m Z Z<|.b2 (fun h23 => ?_) (fun h23 => ?_)
 ·skip
  refine .gd Z Z<|.yv (.fieldAddr Z Fx.field162_2) Z<|.gd Z Z<|.yv (.load Z Fx.agg159 (.head _) Z) Z<|.gd Z Z<|.yv (.call Fx.call104 Z (fun W s => every_any 105 namS namedStmt_any H G _ _ _ _ W hs2 ho3 s.agr)) Z<|.yv (.pickT Z Z) Z<|.a Z Z<|.nt<|.rt<|?_
  refine Sx.ret1 (.inl rfl) rfl (.tmp rfl) fun W s => ⟨retB ?_,s.ext⟩
  first
   | (rw [namH,h23];simp)
   | (rw [namH,h23];rfl)
 skip
 refine .gF Z Z Z Z<|.gF Z Z Z Z<|.gF Z Z Z Z<|.yv (.pickF Z Z) Z<|.a Z Z<|.nt<|.rt<|?_
 refine Sx.ret1 (.inl rfl) rfl (.tmp rfl) fun W s => ⟨retB ?_,s.ext⟩
 first
  | (rw [namH,h23];simp)
  | (rw [namH,h23];rfl)
set_option maxRecDepth 100000 in
theorem formedVar_any (H : Hp) (x : Vr) (cs : List Value) (h : Rep H (dVr .u8 x) cs) (w : World) (hA : Agr H w) :
 Calls Tryz.prog 106 #[.agg cs.toArray] w fun r w' => r = .returned (.bool (frmV x)) ∧ Ext w w' := by
 obtain ⟨rfl,hnm⟩ := vr_open h
 refine Sx.enter (H := H) Tryz.func106 rfl Tryz.ntmps106 rfl hA ?_
 refine .sr<|.bx Z Z Z fun b1 => .a Z Z<|.nt<|.sq<|.sr<|.yv (.fieldAddr Z Fx.field151_1) Z<|.yv (.load Z Fx.agg149 (.head _) Z) Z<|.nt<|.bk<|.sr<|.yv (.eql Z Z) Z<|.a Z Z<|.nt<|.cd Z (fun h5 => ?_) (fun h5 => ?_)
 ·try simp only [dt] at h5
  have hv : x.ty = 1 := UInt8.toNat_inj.1 (by show x.ty.toNat = 1;omega)
  refine .sr<|.yv (.fieldAddr Z Fx.field151_2) Z<|.yv (.load Z Fx.agg2 (.head _) Z) Z<|.yv (.neq Z Z) Z<|.a Z Z<|.nt<|.rt<|.bR<|.tR<|?_
  refine Sx.ret1 (.inl rfl) rfl (.tmp rfl) fun W s => ⟨retB ?_,s.ext⟩
  first
   | (simp only [frmV,hv];simp;done)
   | (simp only [frmV,hv];simp;omega)
   | (simp only [frmV,hv];simp_all)
   | (simp only [frmV];simp [hv1,hv2,hv3])
 try simp only [df] at h5
 have hv1 : ¬ x.ty = 1 := fun e => h5 (by rw [e];rfl)
 refine .sr<|.yv (.eql Z Z) Z<|.a Z Z<|.nt<|.cd Z (fun h10 => ?_) (fun h10 => ?_)
 ·try simp only [dt] at h10
  have hv : x.ty = 2 := UInt8.toNat_inj.1 (by show x.ty.toNat = 2;omega)
  refine .sr<|.yv (.fieldAddr Z Fx.field151_2) Z<|.yv (.load Z Fx.agg2 (.head _) Z) Z<|.yv (.eql Z Z) Z<|.m Z Z<|.b2 (fun h15 => ?_) (fun h15 => ?_)
  ·try simp only [dt] at h15
   refine .gF Z Z Z Z<|.gF Z Z Z Z<|.gF Z Z Z Z<|.yv (.pickT Z Z) Z<|.a Z Z<|.nt<|.rt<|.bR<|.tR<|?_
   refine Sx.ret1 (.inl rfl) rfl (.tmp rfl) fun W s => ⟨retB ?_,s.ext⟩
   first
    | (simp only [frmV,hv];simp;done)
    | (simp only [frmV,hv];simp;omega)
    | (simp only [frmV,hv];simp_all)
    | (simp only [frmV];simp [hv1,hv2,hv3])
  try simp only [df] at h15
  refine .gd Z Z<|.yv (.fieldAddr Z Fx.field151_2) Z<|.gd Z Z<|.yv (.load Z Fx.agg2 (.head _) Z) Z<|.gd Z Z<|.yv (.eql Z Z) Z<|.yv (.pickF Z Z) Z<|.a Z Z<|.nt<|.rt<|.bR<|.tR<|?_
  refine Sx.ret1 (.inl rfl) rfl (.tmp rfl) fun W s => ⟨retB ?_,s.ext⟩
  first
   | (simp only [frmV,hv];simp;done)
   | (simp only [frmV,hv];simp;omega)
   | (simp only [frmV,hv];simp_all)
   | (simp only [frmV];simp [hv1,hv2,hv3])
 try simp only [df] at h10
 have hv2 : ¬ x.ty = 2 := fun e => h10 (by rw [e];rfl)
 refine .sr<|.yv (.eql Z Z) Z<|.a Z Z<|.nt<|.cd Z (fun h20 => ?_) (fun h20 => ?_)
 ·try simp only [dt] at h20
  have hv : x.ty = 3 := UInt8.toNat_inj.1 (by show x.ty.toNat = 3;omega)
  refine .sr<|.yv (.fieldAddr Z Fx.field151_2) Z<|.yv (.load Z Fx.agg2 (.head _) Z) Z<|.yv (.eql Z Z) Z<|.a Z Z<|.nt<|.rt<|.bR<|.tR<|?_
  refine Sx.ret1 (.inl rfl) rfl (.tmp rfl) fun W s => ⟨retB ?_,s.ext⟩
  first
   | (simp only [frmV,hv];simp;done)
   | (simp only [frmV,hv];simp;omega)
   | (simp only [frmV,hv];simp_all)
   | (simp only [frmV];simp [hv1,hv2,hv3])
 try simp only [df] at h20
 have hv3 : ¬ x.ty = 3 := fun e => h20 (by rw [e];rfl)
 refine .sk<|.bN<|.tN<|.sr<|.a Z Z<|.nt<|.rt<|?_
 refine Sx.ret1 (.inl rfl) rfl (.tmp rfl) fun W s => ⟨retB ?_,s.ext⟩
 first
  | (simp only [frmV,hv];simp;done)
  | (simp only [frmV,hv];simp;omega)
  | (simp only [frmV,hv];simp_all)
  | (simp only [frmV];simp [hv1,hv2,hv3])
theorem Fx.agg45 : aggN Tryz.prog 45 = Option.some Option.none := by kernel_rfl
theorem Fx.agg46 : aggN Tryz.prog 46 = Option.some Option.none := by kernel_rfl
theorem Fx.agg47 : aggN Tryz.prog 47 = Option.some Option.none := by kernel_rfl
theorem Fx.agg49 : aggN Tryz.prog 49 = Option.some (Option.some 4) := by kernel_rfl
theorem Fx.agg102 : aggN Tryz.prog 102 = Option.some (Option.some 2) := by kernel_rfl
theorem Fx.agg105 : aggN Tryz.prog 105 = Option.some (Option.some 3) := by kernel_rfl
theorem Fx.agg107 : aggN Tryz.prog 107 = Option.some Option.none := by kernel_rfl
theorem Fx.agg108 : aggN Tryz.prog 108 = Option.some Option.none := by kernel_rfl
theorem Fx.agg110 : aggN Tryz.prog 110 = Option.some (Option.some 3) := by kernel_rfl
theorem Fx.agg151 : aggN Tryz.prog 151 = Option.some (Option.some 3) := by kernel_rfl
theorem Fx.agg153 : aggN Tryz.prog 153 = Option.some Option.none := by kernel_rfl
theorem Fx.agg155 : aggN Tryz.prog 155 = Option.some (Option.some 1) := by kernel_rfl
theorem Fx.agg162 : aggN Tryz.prog 162 = Option.some (Option.some 3) := by kernel_rfl
theorem Fx.call101 : callN Tryz.prog 101 = Bool.true := by kernel_rfl
theorem Fx.call106 : callN Tryz.prog 106 = Bool.true := by kernel_rfl
theorem Fx.field49_0 : fieldN Tryz.prog 49 0 = Option.some 0 := by kernel_rfl
theorem Fx.field49_1 : fieldN Tryz.prog 49 1 = Option.some 1 := by kernel_rfl
theorem Fx.field49_2 : fieldN Tryz.prog 49 2 = Option.some 2 := by kernel_rfl
theorem Fx.field49_3 : fieldN Tryz.prog 49 3 = Option.some 3 := by kernel_rfl
theorem Fx.field102_0 : fieldN Tryz.prog 102 0 = Option.some 0 := by kernel_rfl
theorem Fx.field105_0 : fieldN Tryz.prog 105 0 = Option.some 0 := by kernel_rfl
theorem Fx.field105_1 : fieldN Tryz.prog 105 1 = Option.some 1 := by kernel_rfl
theorem Fx.field105_2 : fieldN Tryz.prog 105 2 = Option.some 2 := by kernel_rfl
theorem Fx.field110_0 : fieldN Tryz.prog 110 0 = Option.some 0 := by kernel_rfl
theorem Fx.field110_1 : fieldN Tryz.prog 110 1 = Option.some 1 := by kernel_rfl
theorem Fx.field110_2 : fieldN Tryz.prog 110 2 = Option.some 2 := by kernel_rfl
theorem Fx.field151_0 : fieldN Tryz.prog 151 0 = Option.some 0 := by kernel_rfl
theorem Fx.field155_0 : fieldN Tryz.prog 155 0 = Option.some 0 := by kernel_rfl
theorem Fx.size102 : sizeN Tryz.prog 102 = Option.some 2 := by kernel_rfl
theorem Fx.size105 : sizeN Tryz.prog 105 = Option.some 3 := by kernel_rfl
theorem Fx.size110 : sizeN Tryz.prog 110 = Option.some 3 := by kernel_rfl
theorem Fx.size151 : sizeN Tryz.prog 151 = Option.some 3 := by kernel_rfl
theorem Fx.size155 : sizeN Tryz.prog 155 = Option.some 1 := by kernel_rfl
theorem Fx.size162 : sizeN Tryz.prog 162 = Option.some 3 := by kernel_rfl
theorem Fx.sl45 : slN Tryz.prog 45 = Option.some 2 := by kernel_rfl
theorem Fx.sl46 : slN Tryz.prog 46 = Option.some 3 := by kernel_rfl
theorem Fx.sl47 : slN Tryz.prog 47 = Option.some 3 := by kernel_rfl
theorem Fx.sl107 : slN Tryz.prog 107 = Option.some 3 := by kernel_rfl
theorem Fx.sl108 : slN Tryz.prog 108 = Option.some 1 := by kernel_rfl
theorem Fx.sl153 : slN Tryz.prog 153 = Option.some 3 := by kernel_rfl
theorem Fx.zero102 : zeroN Tryz.prog 102 = Option.some [Go.Value.string { data := { toList := [] } },Go.Value.bool Bool.false] := by kernel_rfl
theorem Fx.zero105 : zeroN Tryz.prog 105 = Option.some
 [Go.Value.string { data := { toList := [] } },Go.Value.string { data := { toList := [] } },
  Go.Value.int Go.IntKind.i64 (Int.ofNat 0)] := by kernel_rfl
theorem Fx.zero110 : zeroN Tryz.prog 110 = Option.some
 [Go.Value.string { data := { toList := [] } },Go.Value.slice Option.none 0 0,Go.Value.slice Option.none 0 0] := by kernel_rfl
theorem Fx.zero151 : zeroN Tryz.prog 151 = Option.some
 [Go.Value.string { data := { toList := [] } },Go.Value.int Go.IntKind.u8 (Int.ofNat 0),
  Go.Value.int Go.IntKind.i64 (Int.ofNat 0)] := by kernel_rfl
theorem Fx.zero155 : zeroN Tryz.prog 155 = Option.some [Go.Value.slice Option.none 0 0] := by kernel_rfl
theorem Fx.zero162 : zeroN Tryz.prog 162 = Option.some
 [Go.Value.string { data := { toList := [] } },Go.Value.slice Option.none 0 0,Go.Value.slice Option.none 0 0] := by kernel_rfl
set_option maxRecDepth 100000 in
theorem everyHandler_any (gf : FuncId) (q : Hd → Bool) (hg : HdFn gf q) (H : Hp) (G : Gl H) (f : Ft) (cs : List Value) (h : Rep H (dFt .u8 f) cs) (hok : evH okH f = true) (w : World) (hA : Agr H w) :
 Calls Tryz.prog 101 #[.agg cs.toArray,.func (.func gf) #[] #[]] w fun r w' => r = .returned (.bool (evH q f)) ∧ Ext w w' := by
 rw [evH_eq] at hok
 obtain ⟨p1,c1,p2,c2,p3,c3,rfl,hnm,hs1,hs2,hs3⟩ := ft_open h
 have hcap1 := hs1.cap
 have hcap2 := hs2.cap
 have hcap3 := hs3.cap
 refine Sx.enter (H := H) Tryz.func101 rfl Tryz.ntmps101 rfl hA ?_
 refine .sr<|.bx Z Z Z fun b2 => .a Z Z<|.nt<|.sq<|.sr<|.yv (.fieldAddr Z Fx.field49_3) Z<|.yv (.load Z Fx.agg47 (.head _) Z) Z<|.yv (.lenSl Fx.sl47 Z) Z<|.m Z Z<|.nt<|.bk<|.lp (X := Nat) [(1,_),(12,_),(13,_)] ⟨rfl,rfl,rfl,trivial⟩ [_] (fun k1 => [(14,.int .i64 (k1 : Nat))]) (fun k1 => H) (fun k1 => []) (fun k1 => k1 ≤ f.comps.length ∧ (f.comps.take k1).all (cpAll q) = true) (fun k1 => f.comps.length - k1) 0 (fun _ s => s) ⟨rfl,trivial⟩ ⟨by omega,rfl⟩ fun k1 hC => ?_
 obtain ⟨hq1,hal1⟩ := hC
 refine .sr<|.yv (.lss Z Z) Z<|.nt<|.sq<|.cd Z (fun h15 => ?_) (fun h15 => ?_)
 ·try simp only [dt] at h15
  have hk1 : k1 < f.comps.length := by omega
  obtain ⟨bE1,oE1,cE1,hpE1,rE1,lE1,mE1⟩ := hs3.elem (map_at hk1)
  cases hpE1
  have hok1 := lall_at hk1 hok
  generalize hx1 : f.comps[k1] = x1 at rE1 hok1
  obtain ⟨p4,c4,p5,c5,rfl,hn4,hs4,hs5⟩ := cp_open rE1
  have hcap5 := hs5.cap
  rw [cpAll] at hok1
  refine .sk<|.tN<|.sq<|.bk<|.sr<|.yv (.indexSl Fx.sl47 Z Z Z (by omega) (q := oE1 + k1 * 3) Z) Z<|.yv (.loadMW Z Fx.agg110 mE1 Z) Z<|.al Fx.zero110 Z fun b6 => .sW .head Z Z Fx.size110 (by simp [Value.oneCell',strV]) Z<|.ns<|.yv (.fieldAddr Z Fx.field110_2) Z<|.yv (.load Z Fx.agg108 (.head _) Z) Z<|.yv (.lenSl Fx.sl108 Z) Z<|.m Z Z<|.nt<|.bk<|.lp (X := Nat) [(1,_),(12,_),(13,_),(14,_),(19,_),(20,_)] ⟨rfl,rfl,rfl,rfl,rfl,rfl,trivial⟩ [_,_] (fun k2 => [(21,.int .i64 (k2 : Nat))]) (fun k2 => H) (fun k2 => []) (fun k2 => k2 ≤ x1.vers.length ∧ (x1.vers.take k2).all (fun v => v.all q) = true) (fun k2 => x1.vers.length - k2) 0 (fun _ s => s) ⟨rfl,trivial⟩ ⟨by omega,rfl⟩ fun k2 hC => ?_
  obtain ⟨hq2,hal2⟩ := hC
  refine .sr<|.yv (.lss Z Z) Z<|.nt<|.sq<|.cd Z (fun h22 => ?_) (fun h22 => ?_)
  ·try simp only [dt] at h22
   have hk2 : k2 < x1.vers.length := by omega
   obtain ⟨bE2,oE2,cE2,hpE2,rE2,lE2,mE2⟩ := hs5.elem (map_at hk2)
   cases hpE2
   have hok2 := lall_at hk2 hok1
   generalize hx2 : x1.vers[k2] = x2 at rE2 hok2
   obtain ⟨p6,c6,rfl,hs6⟩ := vs_open rE2
   have hcap6 := hs6.cap
   refine .sk<|.tN<|.sq<|.bk<|.sr<|.yv (.indexSl Fx.sl108 Z Z Z (by omega) (q := oE2 + k2 * 1) Z) Z<|.yv (.loadMW Z Fx.agg155 mE2 Z) Z<|.al Fx.zero155 Z fun b8 => .sW .head Z Z Fx.size155 (by simp [Value.oneCell',strV]) Z<|.ns<|.yv (.fieldAddr Z Fx.field155_0) Z<|.yv (.load Z Fx.agg153 (.head _) Z) Z<|.yv (.lenSl Fx.sl153 Z) Z<|.m Z Z<|.nt<|.bk<|.lp (X := Nat) [(1,_),(12,_),(13,_),(14,_),(19,_),(20,_),(21,_),(26,_),(27,_)] ⟨rfl,rfl,rfl,rfl,rfl,rfl,rfl,rfl,rfl,trivial⟩ [_,_,_] (fun k3 => [(28,.int .i64 (k3 : Nat))]) (fun k3 => H) (fun k3 => []) (fun k3 => k3 ≤ x2.length ∧ (x2.take k3).all q = true) (fun k3 => x2.length - k3) 0 (fun _ s => s) ⟨rfl,trivial⟩ ⟨by omega,rfl⟩ fun k3 hC => ?_
   obtain ⟨hq3,hal3⟩ := hC
   refine .sr<|.yv (.lss Z Z) Z<|.nt<|.sq<|.cd Z (fun h29 => ?_) (fun h29 => ?_)
   ·try simp only [dt] at h29
    have hk3 : k3 < x2.length := by omega
    obtain ⟨bE3,oE3,cE3,hpE3,rE3,lE3,mE3⟩ := hs6.elem (map_at hk3)
    cases hpE3
    have hok3 := lall_at hk3 hok2
    refine .sk<|.tN<|.sq<|.bk<|.sr<|.yv (.indexSl Fx.sl153 Z Z Z (by omega) (q := oE3 + k3 * 3) Z) Z<|.yv (.loadMW Z Fx.agg162 mE3 lE3) Z<|.al Fx.zero162 Z fun b10 => .sV .head Z Z Fx.size162 lE3 rE3.one Z<|.ns<|.m Z Z<|.yv (.loadW Z Fx.agg162 (.head _) lE3) Z<|.yv (.callV (fi := []) (ca := []) Z hg.1 Z (fun W s => hg.2 H G _ _ W rE3 hok3 s.agr)) Z<|.yv (.not Z) Z<|.nt<|.cd Z (fun h35 => ?_) (fun h35 => ?_)
    ·skip
     refine .sr<|.a Z Z<|.nt<|.rt<|.bR<|.tR<|.tR<|.bR<|.bR<|.tR<|.tR<|.bR<|.bR<|.tR<|.tR<|.bR<|.tR<|?_
     refine Sx.ret1 (.inl rfl) rfl (.tmp rfl) fun W s => ⟨retB ?_,s.ext⟩
     first
      | (rw [evH_eq,hal1])
      | (rw [evH_eq,lall_bad hk1 (by rw [hx1,cpAll];exact lall_bad hk2 (by rw [hx2];exact lall_bad hk3 (by simpa using h35)))])
    skip
    exact .sk<|.bN<|.tN<|.rg<|.yv (.add Z Z (w6 (by omega))) Z<|.m Z Z<|.nt<|.ag (k3 + 1) ⟨rfl,trivial⟩ ⟨rfl,rfl,rfl,rfl,rfl,rfl,rfl,rfl,rfl,trivial⟩ (fun _ s => s.pick [1,2,3] [_,_,_] Z Z) ⟨by omega,by rw [lall_succ hk3,hal3];simpa using h35⟩ (by omega)
   try simp only [df] at h29
   obtain rfl : k3 = x2.length := by omega
   rw [List.take_length] at hal3
   exact .ex<|.tE<|.tE<|.bE<|.bN<|.tN<|.rg<|.yv (.add Z Z (w6 (by omega))) Z<|.m Z Z<|.nt<|.ag (k2 + 1) ⟨rfl,trivial⟩ ⟨rfl,rfl,rfl,rfl,rfl,rfl,trivial⟩ (fun _ s => s.pick [1,2] [_,_] Z Z) ⟨by omega,by rw [lall_succ hk2,hal2,hx2,hal3];rfl⟩ (by omega)
  try simp only [df] at h22
  obtain rfl : k2 = x1.vers.length := by omega
  rw [List.take_length] at hal2
  exact .ex<|.tE<|.tE<|.bE<|.bN<|.tN<|.rg<|.yv (.add Z Z (w6 (by omega))) Z<|.m Z Z<|.nt<|.ag (k1 + 1) ⟨rfl,trivial⟩ ⟨rfl,rfl,rfl,trivial⟩ (fun _ s => s.pick [1] [_] Z Z) ⟨by omega,by rw [lall_succ hk1,hal1,hx1,cpAll,hal2];rfl⟩ (by omega)
 try simp only [df] at h15
 obtain rfl : k1 = f.comps.length := by omega
 rw [List.take_length] at hal1
 refine .ex<|.tE<|.tE<|.bE<|.tN<|.sr<|.a Z Z<|.nt<|.rt<|?_
 refine Sx.ret1 (.inl rfl) rfl (.tmp rfl) fun W s => ⟨retB ?_,s.ext⟩
 first
  | (rw [evH_eq,hal1])
  | (rw [evH_eq,lall_bad hk1 (by rw [hx1,cpAll];exact lall_bad hk2 (by rw [hx2];exact lall_bad hk3 (by simpa using h35)))])
set_option maxRecDepth 100000 in
theorem formed_any (H : Hp) (G : Gl H) (f : Ft) (cs : List Value) (h : Rep H (dFt .u8 f) cs) (hok : evH okH f = true) (w : World) (hA : Agr H w) :
 Calls Tryz.prog 63 #[.agg cs.toArray] w fun r w' => r = .returned (.bool (frmF f)) ∧ Ext w w' := by
 obtain ⟨p1,c1,p2,c2,p3,c3,rfl,hnm,hs1,hs2,hs3⟩ := ft_open h
 have hcap1 := hs1.cap
 have hcap2 := hs2.cap
 have hcap3 := hs3.cap
 refine Sx.enter (H := H) Tryz.func63 rfl Tryz.ntmps63 rfl hA ?_
 refine .sr<|.bx Z Z Z fun b1 => .a Z Z<|.nt<|.sq<|.sr<|.yv (.fieldAddr Z Fx.field49_2) Z<|.yv (.load Z Fx.agg46 (.head _) Z) Z<|.yv (.lenSl Fx.sl46 Z) Z<|.m Z Z<|.nt<|.bk<|.lp (X := Nat) [(1,_),(10,_),(11,_)] ⟨rfl,rfl,rfl,trivial⟩ [_] (fun k0 => [(12,.int .i64 (k0 : Nat))]) (fun k0 => H) (fun k0 => []) (fun k0 => k0 ≤ f.links.length ∧ (f.links.take k0).all lkB = true) (fun k0 => f.links.length - k0) 0 (fun _ s => s) ⟨rfl,trivial⟩ ⟨by omega,rfl⟩ fun k0 hC => ?_
 obtain ⟨hq0,hal0⟩ := hC
 refine .sr<|.yv (.lss Z Z) Z<|.nt<|.sq<|.cd Z (fun h13 => ?_) (fun h13 => ?_)
 ·try simp only [dt] at h13
  have hk0 : k0 < f.links.length := by omega
  obtain ⟨bE0,oE0,cE0,hpE0,rE0,lE0,mE0⟩ := hs2.elem (map_at hk0)
  cases hpE0
  obtain ⟨rfl,hn5,hn6⟩ := lk_open rE0
  refine .sk<|.tN<|.sq<|.bk<|.sr<|.yv (.indexSl Fx.sl46 Z Z Z (by omega) (q := oE0 + k0 * 3) Z) Z<|.yv (.loadMW Z Fx.agg105 mE0 Z) Z<|.al Fx.zero105 Z fun b4 => .sW .head Z Z Fx.size105 (by simp [Value.oneCell',strV]) Z<|.ns<|.yv (.fieldAddr Z Fx.field105_2) Z<|.yv (.load Z Fx.agg3 (.head _) Z) Z<|.yv (.lss Z Z) Z<|.m Z Z<|.b2 (fun h19 => ?_) (fun h19 => ?_)
  ·try simp only [dt] at h19
   refine .gF Z Z Z Z<|.gF Z Z Z Z<|.gF Z Z Z Z<|.yv (.pickT Z Z) Z<|.nt<|.cT Z<|.sr<|.a Z Z<|.nt<|.rt<|.bR<|.tR<|.tR<|.bR<|.tR<|?_
   refine Sx.ret1 (.inl rfl) rfl (.tmp rfl) fun W s => ⟨retB ?_,s.ext⟩
   first
    | (rw [frmF,hal0,hal1];simp)
    | (rw [frmF,lall_bad hk0 (by simp [lkB];omega)];simp)
    | (rw [frmF,show f.comps.all (fun c => c.vars.all frmV) = false from lall_bad hk1 (by rw [hx1];exact lall_bad hk2 (by simpa using h41))];simp)
  try simp only [df] at h19
  refine .gd Z Z<|.yv (.fieldAddr Z Fx.field105_2) Z<|.gd Z Z<|.yv (.load Z Fx.agg3 (.head _) Z) Z<|.gd Z Z<|.yv (.gtr Z Z) Z<|.yv (.pickF Z Z) Z<|.nt<|.cd Z (fun h23 => ?_) (fun h23 => ?_)
  ·try simp only [dt] at h23
   refine .sr<|.a Z Z<|.nt<|.rt<|.bR<|.tR<|.tR<|.bR<|.tR<|?_
   refine Sx.ret1 (.inl rfl) rfl (.tmp rfl) fun W s => ⟨retB ?_,s.ext⟩
   first
    | (rw [frmF,hal0,hal1];simp)
    | (rw [frmF,lall_bad hk0 (by simp [lkB];omega)];simp)
    | (rw [frmF,show f.comps.all (fun c => c.vars.all frmV) = false from lall_bad hk1 (by rw [hx1];exact lall_bad hk2 (by simpa using h41))];simp)
  try simp only [df] at h23
  exact .sk<|.bN<|.tN<|.rg<|.yv (.add Z Z (w6 (by omega))) Z<|.m Z Z<|.nt<|.ag (k0 + 1) ⟨rfl,trivial⟩ ⟨rfl,rfl,rfl,trivial⟩ (fun _ s => s.pick [1] [_] Z Z) ⟨by omega,by rw [lall_succ hk0,hal0];simp [lkB];omega⟩ (by omega)
 try simp only [df] at h13
 obtain rfl : k0 = f.links.length := by omega
 rw [List.take_length] at hal0
 refine .ex<|.tE<|.tE<|.bE<|.tN<|.sq<|.sr<|.yv (.fieldAddr Z Fx.field49_3) Z<|.yv (.load Z Fx.agg47 (.head _) Z) Z<|.yv (.lenSl Fx.sl47 Z) Z<|.m Z Z<|.nt<|.bk<|.lp (X := Nat) [(1,_),(26,_),(27,_)] ⟨rfl,rfl,rfl,trivial⟩ [_] (fun k1 => [(28,.int .i64 (k1 : Nat))]) (fun k1 => H) (fun k1 => []) (fun k1 => k1 ≤ f.comps.length ∧ (f.comps.take k1).all (fun c => c.vars.all frmV) = true) (fun k1 => f.comps.length - k1) 0 (fun _ s => s) ⟨rfl,trivial⟩ ⟨by omega,rfl⟩ fun k1 hC => ?_
 obtain ⟨hq1,hal1⟩ := hC
 refine .sr<|.yv (.lss Z Z) Z<|.nt<|.sq<|.cd Z (fun h29 => ?_) (fun h29 => ?_)
 ·try simp only [dt] at h29
  have hk1 : k1 < f.comps.length := by omega
  obtain ⟨bE1,oE1,cE1,hpE1,rE1,lE1,mE1⟩ := hs3.elem (map_at hk1)
  cases hpE1
  generalize hx1 : f.comps[k1] = x1 at rE1
  obtain ⟨p4,c4,p5,c5,rfl,hn4,hs4,hs5⟩ := cp_open rE1
  have hcap4 := hs4.cap
  refine .sk<|.tN<|.sq<|.bk<|.sr<|.yv (.indexSl Fx.sl47 Z Z Z (by omega) (q := oE1 + k1 * 3) Z) Z<|.yv (.loadMW Z Fx.agg110 mE1 Z) Z<|.al Fx.zero110 Z fun b6 => .sW .head Z Z Fx.size110 (by simp [Value.oneCell',strV]) Z<|.ns<|.yv (.fieldAddr Z Fx.field110_1) Z<|.yv (.load Z Fx.agg107 (.head _) Z) Z<|.yv (.lenSl Fx.sl107 Z) Z<|.m Z Z<|.nt<|.bk<|.lp (X := Nat) [(1,_),(26,_),(27,_),(28,_),(33,_),(34,_)] ⟨rfl,rfl,rfl,rfl,rfl,rfl,trivial⟩ [_,_] (fun k2 => [(35,.int .i64 (k2 : Nat))]) (fun k2 => H) (fun k2 => []) (fun k2 => k2 ≤ x1.vars.length ∧ (x1.vars.take k2).all frmV = true) (fun k2 => x1.vars.length - k2) 0 (fun _ s => s) ⟨rfl,trivial⟩ ⟨by omega,rfl⟩ fun k2 hC => ?_
  obtain ⟨hq2,hal2⟩ := hC
  refine .sr<|.yv (.lss Z Z) Z<|.nt<|.sq<|.cd Z (fun h36 => ?_) (fun h36 => ?_)
  ·try simp only [dt] at h36
   have hk2 : k2 < x1.vars.length := by omega
   obtain ⟨bE2,oE2,cE2,hpE2,rE2,lE2,mE2⟩ := hs4.elem (map_at hk2)
   cases hpE2

   refine .sk<|.tN<|.sq<|.bk<|.sr<|.yv (.indexSl Fx.sl107 Z Z Z (by omega) (q := oE2 + k2 * 3) Z) Z<|.yv (.loadMW Z Fx.agg151 mE2 lE2) Z<|.al Fx.zero151 Z fun b8 => .sV .head Z Z Fx.size151 lE2 rE2.one Z<|.ns<|.yv (.loadW Z Fx.agg151 (.head _) lE2) Z<|.yv (.call Fx.call106 Z (fun W s => formedVar_any H _ _ rE2 W s.agr)) Z<|.yv (.not Z) Z<|.nt<|.cd Z (fun h41 => ?_) (fun h41 => ?_)
   ·skip
    refine .sr<|.a Z Z<|.nt<|.rt<|.bR<|.tR<|.tR<|.bR<|.bR<|.tR<|.tR<|.bR<|.tR<|?_
    refine Sx.ret1 (.inl rfl) rfl (.tmp rfl) fun W s => ⟨retB ?_,s.ext⟩
    first
     | (rw [frmF,hal0,hal1];simp)
     | (rw [frmF,lall_bad hk0 (by simp [lkB];omega)];simp)
     | (rw [frmF,show f.comps.all (fun c => c.vars.all frmV) = false from lall_bad hk1 (by rw [hx1];exact lall_bad hk2 (by simpa using h41))];simp)
   skip
   exact .sk<|.bN<|.tN<|.rg<|.yv (.add Z Z (w6 (by omega))) Z<|.m Z Z<|.nt<|.ag (k2 + 1) ⟨rfl,trivial⟩ ⟨rfl,rfl,rfl,rfl,rfl,rfl,trivial⟩ (fun _ s => s.pick [1,2] [_,_] Z Z) ⟨by omega,by rw [lall_succ hk2,hal2];simpa using h41⟩ (by omega)
  try simp only [df] at h36
  obtain rfl : k2 = x1.vars.length := by omega
  rw [List.take_length] at hal2
  exact .ex<|.tE<|.tE<|.bE<|.bN<|.tN<|.rg<|.yv (.add Z Z (w6 (by omega))) Z<|.m Z Z<|.nt<|.ag (k1 + 1) ⟨rfl,trivial⟩ ⟨rfl,rfl,rfl,trivial⟩ (fun _ s => s.pick [1] [_] Z Z) ⟨by omega,by rw [lall_succ hk1,hal1,hx1,hal2];rfl⟩ (by omega)
 try simp only [df] at h29
 obtain rfl : k1 = f.comps.length := by omega
 rw [List.take_length] at hal1
 refine .ex<|.tE<|.tE<|.bE<|.tN<|.sr<|.yv (.loadW Z Fx.agg49 (.head _) Z) Z<|.yv (.call Fx.call101 Z (fun W s => everyHandler_any 107 frmH formedHandler_any H G f _ h hok W s.agr)) Z<|.a Z Z<|.nt<|.rt<|?_
 refine Sx.ret1 (.inl rfl) rfl (.tmp rfl) fun W s => ⟨retB ?_,s.ext⟩
 first
  | (rw [frmF,hal0,hal1];simp)
  | (rw [frmF,lall_bad hk0 (by simp [lkB];omega)];simp)
  | (rw [frmF,show f.comps.all (fun c => c.vars.all frmV) = false from lall_bad hk1 (by rw [hx1];exact lall_bad hk2 (by simpa using h41))];simp)
set_option maxRecDepth 100000 in
theorem named_any (H : Hp) (G : Gl H) (f : Ft) (cs : List Value) (h : Rep H (dFt .u8 f) cs) (hok : evH okH f = true) (w : World) (hA : Agr H w) :
 Calls Tryz.prog 62 #[.agg cs.toArray] w fun r w' => r = .returned (.bool (namF f)) ∧ Ext w w' := by
 obtain ⟨p1,c1,p2,c2,p3,c3,rfl,hnm,hs1,hs2,hs3⟩ := ft_open h
 have hcap1 := hs1.cap
 have hcap2 := hs2.cap
 have hcap3 := hs3.cap
 refine Sx.enter (H := H) Tryz.func62 rfl Tryz.ntmps62 rfl hA ?_
 refine .sr<|.bx Z Z Z fun b1 => .a Z Z<|.ns<|.yv (.fieldAddr Z Fx.field49_0) Z<|.yv (.load Z Fx.agg9 (.head _) Z) Z<|.yv (.call Fx.call58 Z (fun W s => isName_any H G _ (by omega) W s.agr)) Z<|.a Z Z<|.nt<|.sq<|.sr<|.yv (.fieldAddr Z Fx.field49_1) Z<|.yv (.load Z Fx.agg45 (.head _) Z) Z<|.yv (.lenSl Fx.sl45 Z) Z<|.m Z Z<|.nt<|.bk<|.lp (X := Nat) [(1,_),(16,_),(17,_)] ⟨rfl,rfl,rfl,trivial⟩ [_] (fun k0 => [(18,.int .i64 (k0 : Nat)),(3,.bool (nameB f.nm && (f.flags.take k0).all (fun x => nameB x.nm)))]) (fun k0 => H) (fun k0 => []) (fun k0 => k0 ≤ f.flags.length) (fun k0 => f.flags.length - k0) 0 (fun _ s => s) ⟨rfl,(by rw [List.take_zero,List.all_nil,Bool.and_true];rfl),trivial⟩ (by omega) fun k0 hC => ?_
 refine .sr<|.yv (.lss Z Z) Z<|.nt<|.sq<|.cd Z (fun h19 => ?_) (fun h19 => ?_)
 ·try simp only [dt] at h19
  have hk0 : k0 < f.flags.length := by omega
  obtain ⟨bE0,oE0,cE0,hpE0,rE0,lE0,mE0⟩ := hs1.elem (map_at hk0)
  cases hpE0
  obtain ⟨rfl,hn5⟩ := fg_open rE0
  refine .sk<|.tN<|.sq<|.bk<|.sr<|.yv (.indexSl Fx.sl45 Z Z Z (by omega) (q := oE0 + k0 * 2) Z) Z<|.yv (.loadMW Z Fx.agg102 mE0 Z) Z<|.al Fx.zero102 Z fun b5 => .sW .head Z Z Fx.size102 (by simp [Value.oneCell',strV]) Z<|.nt<|.rg<|.m Z Z<|.m Z Z<|.b2 (fun h23 => ?_) (fun h23 => ?_)
  ·skip
   exact .gd Z Z<|.yv (.fieldAddr Z Fx.field102_0) Z<|.gd Z Z<|.yv (.load Z Fx.agg9 (.head _) Z) Z<|.gd Z Z<|.yv (.call Fx.call58 Z (fun W s => isName_any H G _ (by omega) W s.agr)) Z<|.yv (.pickT Z Z) Z<|.a Z Z<|.nl<|.bN<|.tN<|.rg<|.yv (.add Z Z (w6 (by omega))) Z<|.m Z Z<|.nt<|.ag (k0 + 1) ⟨rfl,(by rw [lall_succ hk0,← Bool.and_assoc,h23];rfl),trivial⟩ ⟨rfl,rfl,rfl,trivial⟩ (fun _ s => s.pick [1] [_] Z Z) (by omega) (by omega)
  skip
  exact .gF Z Z Z Z<|.gF Z Z Z Z<|.gF Z Z Z Z<|.yv (.pickF Z Z) Z<|.a Z Z<|.nl<|.bN<|.tN<|.rg<|.yv (.add Z Z (w6 (by omega))) Z<|.m Z Z<|.nt<|.ag (k0 + 1) ⟨rfl,(by rw [lall_succ hk0,← Bool.and_assoc,h23];rfl),trivial⟩ ⟨rfl,rfl,rfl,trivial⟩ (fun _ s => s.pick [1] [_] Z Z) (by omega) (by omega)
 try simp only [df] at h19
 obtain rfl : k0 = f.flags.length := by omega
 rw [List.take_length]
 refine .ex<|.tE<|.tE<|.bE<|.tN<|.sq<|.sr<|.yv (.fieldAddr Z Fx.field49_2) Z<|.yv (.load Z Fx.agg46 (.head _) Z) Z<|.yv (.lenSl Fx.sl46 Z) Z<|.m Z Z<|.nt<|.bk<|.lp (X := Nat) [(1,_),(30,_),(31,_)] ⟨rfl,rfl,rfl,trivial⟩ [_] (fun k1 => [(32,.int .i64 (k1 : Nat)),(3,.bool (nameB f.nm && f.flags.all (fun x => nameB x.nm) && (f.links.take k1).all (fun x => nameB x.fr && nameB x.to)))]) (fun k1 => H) (fun k1 => []) (fun k1 => k1 ≤ f.links.length) (fun k1 => f.links.length - k1) 0 (fun _ s => s) ⟨rfl,(by rw [List.take_zero,List.all_nil,Bool.and_true];rfl),trivial⟩ (by omega) fun k1 hC => ?_
 refine .sr<|.yv (.lss Z Z) Z<|.nt<|.sq<|.cd Z (fun h33 => ?_) (fun h33 => ?_)
 ·try simp only [dt] at h33
  have hk1 : k1 < f.links.length := by omega
  obtain ⟨bE1,oE1,cE1,hpE1,rE1,lE1,mE1⟩ := hs2.elem (map_at hk1)
  cases hpE1
  obtain ⟨rfl,hn5,hn6⟩ := lk_open rE1
  refine .sk<|.tN<|.sq<|.bk<|.sr<|.yv (.indexSl Fx.sl46 Z Z Z (by omega) (q := oE1 + k1 * 3) Z) Z<|.yv (.loadMW Z Fx.agg105 mE1 Z) Z<|.al Fx.zero105 Z fun b7 => .sW .head Z Z Fx.size105 (by simp [Value.oneCell',strV]) Z<|.nt<|.rg<|.m Z Z<|.m Z Z<|.b2 (fun h37 => ?_) (fun h37 => ?_)
  ·skip
   refine .gd Z Z<|.yv (.fieldAddr Z Fx.field105_0) Z<|.gd Z Z<|.yv (.load Z Fx.agg9 (.head _) Z) Z<|.gd Z Z<|.yv (.call Fx.call58 Z (fun W s => isName_any H G _ (by omega) W s.agr)) Z<|.yv (.pickT Z Z) Z<|.m Z Z<|.b2 (fun h42 => ?_) (fun h42 => ?_)
   ·skip
    exact .gd Z Z<|.yv (.fieldAddr Z Fx.field105_1) Z<|.gd Z Z<|.yv (.load Z Fx.agg9 (.head _) Z) Z<|.gd Z Z<|.yv (.call Fx.call58 Z (fun W s => isName_any H G _ (by omega) W s.agr)) Z<|.yv (.pickT Z Z) Z<|.a Z Z<|.nl<|.bN<|.tN<|.rg<|.yv (.add Z Z (w6 (by omega))) Z<|.m Z Z<|.nt<|.ag (k1 + 1) ⟨rfl,(by rw [lall_succ hk1,← Bool.and_assoc,h37];first | rfl | (rw [Bool.true_and,h42];rfl)),trivial⟩ ⟨rfl,rfl,rfl,trivial⟩ (fun _ s => s.pick [1] [_] Z Z) (by omega) (by omega)
   skip
   exact .gF Z Z Z Z<|.gF Z Z Z Z<|.gF Z Z Z Z<|.yv (.pickF Z Z) Z<|.a Z Z<|.nl<|.bN<|.tN<|.rg<|.yv (.add Z Z (w6 (by omega))) Z<|.m Z Z<|.nt<|.ag (k1 + 1) ⟨rfl,(by rw [lall_succ hk1,← Bool.and_assoc,h37];first | rfl | (rw [Bool.true_and,h42];rfl)),trivial⟩ ⟨rfl,rfl,rfl,trivial⟩ (fun _ s => s.pick [1] [_] Z Z) (by omega) (by omega)
  skip
  exact .gF Z Z Z Z<|.gF Z Z Z Z<|.gF Z Z Z Z<|.yv (.pickF Z Z) Z<|.m Z Z<|.gF Z Z Z Z<|.gF Z Z Z Z<|.gF Z Z Z Z<|.yv (.pickF Z Z) Z<|.a Z Z<|.nl<|.bN<|.tN<|.rg<|.yv (.add Z Z (w6 (by omega))) Z<|.m Z Z<|.nt<|.ag (k1 + 1) ⟨rfl,(by rw [lall_succ hk1,← Bool.and_assoc,h37];first | rfl | (rw [Bool.true_and,h42];rfl)),trivial⟩ ⟨rfl,rfl,rfl,trivial⟩ (fun _ s => s.pick [1] [_] Z Z) (by omega) (by omega)
 try simp only [df] at h33
 obtain rfl : k1 = f.links.length := by omega
 rw [List.take_length]
 refine .ex<|.tE<|.tE<|.bE<|.tN<|.sq<|.sr<|.yv (.fieldAddr Z Fx.field49_3) Z<|.yv (.load Z Fx.agg47 (.head _) Z) Z<|.yv (.lenSl Fx.sl47 Z) Z<|.m Z Z<|.nt<|.bk<|.lp (X := Nat) [(1,_),(49,_),(50,_)] ⟨rfl,rfl,rfl,trivial⟩ [_] (fun k2 => [(51,.int .i64 (k2 : Nat)),(3,.bool (nameB f.nm && f.flags.all (fun x => nameB x.nm) && f.links.all (fun x => nameB x.fr && nameB x.to) && (f.comps.take k2).all (fun c : Cp => nameB c.nm && c.vars.all fun v => nameB v.nm)))]) (fun k2 => H) (fun k2 => []) (fun k2 => k2 ≤ f.comps.length) (fun k2 => f.comps.length - k2) 0 (fun _ s => s) ⟨rfl,(by rw [List.take_zero,List.all_nil,Bool.and_true];rfl),trivial⟩ (by omega) fun k2 hC => ?_
 refine .sr<|.yv (.lss Z Z) Z<|.nt<|.sq<|.cd Z (fun h52 => ?_) (fun h52 => ?_)
 ·try simp only [dt] at h52
  have hk2 : k2 < f.comps.length := by omega
  obtain ⟨bE2,oE2,cE2,hpE2,rE2,lE2,mE2⟩ := hs3.elem (map_at hk2)
  cases hpE2
  generalize hx2 : f.comps[k2] = x2 at rE2
  obtain ⟨p4,c4,p5,c5,rfl,hn4,hs4,hs5⟩ := cp_open rE2
  have hcap4 := hs4.cap
  refine .sk<|.tN<|.sq<|.bk<|.sr<|.yv (.indexSl Fx.sl47 Z Z Z (by omega) (q := oE2 + k2 * 3) Z) Z<|.yv (.loadMW Z Fx.agg110 mE2 Z) Z<|.al Fx.zero110 Z fun b9 => .sW .head Z Z Fx.size110 (by simp [Value.oneCell',strV]) Z<|.ns<|.m Z Z<|.m Z Z<|.b2 (fun h56 => ?_) (fun h56 => ?_)
  ·skip
   refine .gd Z Z<|.yv (.fieldAddr Z Fx.field110_0) Z<|.gd Z Z<|.yv (.load Z Fx.agg9 (.head _) Z) Z<|.gd Z Z<|.yv (.call Fx.call58 Z (fun W s => isName_any H G _ (by omega) W s.agr)) Z<|.yv (.pickT Z Z) Z<|.a Z Z<|.ns<|.yv (.fieldAddr Z Fx.field110_1) Z<|.yv (.load Z Fx.agg107 (.head _) Z) Z<|.yv (.lenSl Fx.sl107 Z) Z<|.m Z Z<|.nt<|.bk<|.lp (X := Nat) [(1,_),(49,_),(50,_),(51,_),(62,_),(63,_)] ⟨rfl,rfl,rfl,rfl,rfl,rfl,trivial⟩ [_,_] (fun k3 => [(64,.int .i64 (k3 : Nat)),(3,.bool (nameB f.nm && f.flags.all (fun x => nameB x.nm) && f.links.all (fun x => nameB x.fr && nameB x.to) && (f.comps.take k2).all (fun c : Cp => nameB c.nm && c.vars.all fun v => nameB v.nm) && nameB x2.nm && (x2.vars.take k3).all (fun v => nameB v.nm)))]) (fun k3 => H) (fun k3 => []) (fun k3 => k3 ≤ x2.vars.length) (fun k3 => x2.vars.length - k3) 0 (fun _ s => s) ⟨rfl,(by rw [List.take_zero,List.all_nil,Bool.and_true,h56];rfl),trivial⟩ (by omega) fun k3 hC => ?_
   refine .sr<|.yv (.lss Z Z) Z<|.nt<|.sq<|.cd Z (fun h65 => ?_) (fun h65 => ?_)
   ·try simp only [dt] at h65
    have hk3 : k3 < x2.vars.length := by omega
    obtain ⟨bE3,oE3,cE3,hpE3,rE3,lE3,mE3⟩ := hs4.elem (map_at hk3)
    cases hpE3
    obtain ⟨rfl,hn7⟩ := vr_open rE3
    refine .sk<|.tN<|.sq<|.bk<|.sr<|.yv (.indexSl Fx.sl107 Z Z Z (by omega) (q := oE3 + k3 * 3) Z) Z<|.yv (.loadMW Z Fx.agg151 mE3 Z) Z<|.al Fx.zero151 Z fun b11 => .sW .head Z Z Fx.size151 (by simp [Value.oneCell',strV]) Z<|.nt<|.rg<|.m Z Z<|.m Z Z<|.b2 (fun h69 => ?_) (fun h69 => ?_)
    ·skip
     exact .gd Z Z<|.yv (.fieldAddr Z Fx.field151_0) Z<|.gd Z Z<|.yv (.load Z Fx.agg9 (.head _) Z) Z<|.gd Z Z<|.yv (.call Fx.call58 Z (fun W s => isName_any H G _ (by omega) W s.agr)) Z<|.yv (.pickT Z Z) Z<|.a Z Z<|.nl<|.bN<|.tN<|.rg<|.yv (.add Z Z (w6 (by omega))) Z<|.m Z Z<|.nt<|.ag (k3 + 1) ⟨rfl,(by rw [lall_succ hk3,← Bool.and_assoc,h69];rfl),trivial⟩ ⟨rfl,rfl,rfl,rfl,rfl,rfl,trivial⟩ (fun _ s => s.pick [1,2] [_,_] Z Z) (by omega) (by omega)
    skip
    exact .gF Z Z Z Z<|.gF Z Z Z Z<|.gF Z Z Z Z<|.yv (.pickF Z Z) Z<|.a Z Z<|.nl<|.bN<|.tN<|.rg<|.yv (.add Z Z (w6 (by omega))) Z<|.m Z Z<|.nt<|.ag (k3 + 1) ⟨rfl,(by rw [lall_succ hk3,← Bool.and_assoc,h69];rfl),trivial⟩ ⟨rfl,rfl,rfl,rfl,rfl,rfl,trivial⟩ (fun _ s => s.pick [1,2] [_,_] Z Z) (by omega) (by omega)
   try simp only [df] at h65
   obtain rfl : k3 = x2.vars.length := by omega
   rw [List.take_length]
   exact .ex<|.tE<|.tE<|.bE<|.bN<|.tN<|.rg<|.yv (.add Z Z (w6 (by omega))) Z<|.m Z Z<|.nt<|.ag (k2 + 1) ⟨rfl,(by rw [lall_succ hk2,← Bool.and_assoc,hx2,← Bool.and_assoc];rfl),trivial⟩ ⟨rfl,rfl,rfl,trivial⟩ (fun _ s => s.pick [1] [_] Z Z) (by omega) (by omega)
  skip
  refine .gF Z Z Z Z<|.gF Z Z Z Z<|.gF Z Z Z Z<|.yv (.pickF Z Z) Z<|.a Z Z<|.ns<|.yv (.fieldAddr Z Fx.field110_1) Z<|.yv (.load Z Fx.agg107 (.head _) Z) Z<|.yv (.lenSl Fx.sl107 Z) Z<|.m Z Z<|.nt<|.bk<|.lp (X := Nat) [(1,_),(49,_),(50,_),(51,_),(62,_),(63,_)] ⟨rfl,rfl,rfl,rfl,rfl,rfl,trivial⟩ [_,_] (fun k3 => [(64,.int .i64 (k3 : Nat)),(3,.bool (nameB f.nm && f.flags.all (fun x => nameB x.nm) && f.links.all (fun x => nameB x.fr && nameB x.to) && (f.comps.take k2).all (fun c : Cp => nameB c.nm && c.vars.all fun v => nameB v.nm) && nameB x2.nm && (x2.vars.take k3).all (fun v => nameB v.nm)))]) (fun k3 => H) (fun k3 => []) (fun k3 => k3 ≤ x2.vars.length) (fun k3 => x2.vars.length - k3) 0 (fun _ s => s) ⟨rfl,(by rw [List.take_zero,List.all_nil,Bool.and_true,h56];rfl),trivial⟩ (by omega) fun k3 hC => ?_
  refine .sr<|.yv (.lss Z Z) Z<|.nt<|.sq<|.cd Z (fun h65 => ?_) (fun h65 => ?_)
  ·try simp only [dt] at h65
   have hk3 : k3 < x2.vars.length := by omega
   obtain ⟨bE3,oE3,cE3,hpE3,rE3,lE3,mE3⟩ := hs4.elem (map_at hk3)
   cases hpE3
   obtain ⟨rfl,hn7⟩ := vr_open rE3
   refine .sk<|.tN<|.sq<|.bk<|.sr<|.yv (.indexSl Fx.sl107 Z Z Z (by omega) (q := oE3 + k3 * 3) Z) Z<|.yv (.loadMW Z Fx.agg151 mE3 Z) Z<|.al Fx.zero151 Z fun b11 => .sW .head Z Z Fx.size151 (by simp [Value.oneCell',strV]) Z<|.nt<|.rg<|.m Z Z<|.m Z Z<|.b2 (fun h69 => ?_) (fun h69 => ?_)
   ·skip
    exact .gd Z Z<|.yv (.fieldAddr Z Fx.field151_0) Z<|.gd Z Z<|.yv (.load Z Fx.agg9 (.head _) Z) Z<|.gd Z Z<|.yv (.call Fx.call58 Z (fun W s => isName_any H G _ (by omega) W s.agr)) Z<|.yv (.pickT Z Z) Z<|.a Z Z<|.nl<|.bN<|.tN<|.rg<|.yv (.add Z Z (w6 (by omega))) Z<|.m Z Z<|.nt<|.ag (k3 + 1) ⟨rfl,(by rw [lall_succ hk3,← Bool.and_assoc,h69];rfl),trivial⟩ ⟨rfl,rfl,rfl,rfl,rfl,rfl,trivial⟩ (fun _ s => s.pick [1,2] [_,_] Z Z) (by omega) (by omega)
   skip
   exact .gF Z Z Z Z<|.gF Z Z Z Z<|.gF Z Z Z Z<|.yv (.pickF Z Z) Z<|.a Z Z<|.nl<|.bN<|.tN<|.rg<|.yv (.add Z Z (w6 (by omega))) Z<|.m Z Z<|.nt<|.ag (k3 + 1) ⟨rfl,(by rw [lall_succ hk3,← Bool.and_assoc,h69];rfl),trivial⟩ ⟨rfl,rfl,rfl,rfl,rfl,rfl,trivial⟩ (fun _ s => s.pick [1,2] [_,_] Z Z) (by omega) (by omega)
  try simp only [df] at h65
  obtain rfl : k3 = x2.vars.length := by omega
  rw [List.take_length]
  exact .ex<|.tE<|.tE<|.bE<|.bN<|.tN<|.rg<|.yv (.add Z Z (w6 (by omega))) Z<|.m Z Z<|.nt<|.ag (k2 + 1) ⟨rfl,(by rw [lall_succ hk2,← Bool.and_assoc,hx2,← Bool.and_assoc];rfl),trivial⟩ ⟨rfl,rfl,rfl,trivial⟩ (fun _ s => s.pick [1] [_] Z Z) (by omega) (by omega)
 try simp only [df] at h52
 obtain rfl : k2 = f.comps.length := by omega
 rw [List.take_length]
 refine .ex<|.tE<|.tE<|.bE<|.tN<|.sr<|.m Z Z<|.m Z Z<|.b2 (fun h77 => ?_) (fun h77 => ?_)
 ·skip
  refine .gd Z Z<|.yv (.loadW Z Fx.agg49 (.head _) Z) Z<|.gd Z Z<|.yv (.call Fx.call101 Z (fun W s => everyHandler_any 103 namH namedHandler_any H G f _ h hok W s.agr)) Z<|.yv (.pickT Z Z) Z<|.a Z Z<|.nt<|.rt<|?_
  refine Sx.ret1 (.inl rfl) rfl (.tmp rfl) fun W s => ⟨retB ?_,s.ext⟩
  first
   | (rw [namF,h77];simp)
   | (rw [namF,h77];rfl)
 skip
 refine .gF Z Z Z Z<|.gF Z Z Z Z<|.yv (.pickF Z Z) Z<|.a Z Z<|.nt<|.rt<|?_
 refine Sx.ret1 (.inl rfl) rfl (.tmp rfl) fun W s => ⟨retB ?_,s.ext⟩
 first
  | (rw [namF,h77];simp)
  | (rw [namF,h77];rfl)
theorem Fx.call61 : callN Tryz.prog 61 = Bool.true := by kernel_rfl
theorem Fx.call62 : callN Tryz.prog 62 = Bool.true := by kernel_rfl
theorem Fx.call63 : callN Tryz.prog 63 = Bool.true := by kernel_rfl
theorem Fx.map209 : mapN Tryz.prog 209 = Bool.true := by kernel_rfl
set_option maxRecDepth 100000 in
theorem small_any (H : Hp) (G : Gl H) (f : Ft) (cs : List Value) (h : Rep H (dFt .u8 f) cs) (hok : evH okH f = true) (w : World) (hA : Agr H w) :
 Calls Tryz.prog 61 #[.agg cs.toArray] w fun r w' => r = .returned (.bool (smlF f)) ∧ Ext w w' := by
 obtain ⟨p1,c1,p2,c2,p3,c3,rfl,hnm,hs1,hs2,hs3⟩ := ft_open h
 have hcap1 := hs1.cap
 have hcap2 := hs2.cap
 have hcap3 := hs3.cap
 refine Sx.enter (H := H) Tryz.func61 rfl Tryz.ntmps61 rfl hA ?_
 refine .sr<|.bx Z Z Z fun b1 => .a Z Z<|.ns<|.yv (.fieldAddr Z Fx.field49_3) Z<|.yv (.load Z Fx.agg47 (.head _) Z) Z<|.yv (.lenSl Fx.sl47 Z) Z<|.a Z Z<|.nt<|.sq<|.sr<|.m Z Z<|.yv (.eql Z Z) Z<|.m Z Z<|.b2 (fun h17 => ?_) (fun h17 => ?_)
 ·try simp only [dt] at h17
  refine .gF Z Z Z Z<|.gF Z Z Z Z<|.yv (.pickT Z Z) Z<|.m Z Z<|.gF Z Z Z Z<|.gF Z Z Z Z<|.gF Z Z Z Z<|.gF Z Z Z Z<|.yv (.pickT Z Z) Z<|.m Z Z<|.gF Z Z Z Z<|.gF Z Z Z Z<|.gF Z Z Z Z<|.gF Z Z Z Z<|.yv (.pickT Z Z) Z<|.nt<|.cT Z<|.sr<|.a Z Z<|.nt<|.rt<|.tR<|?_
  refine Sx.ret1 (.inl rfl) rfl (.tmp rfl) fun W s => ⟨retB ?_,s.ext⟩
  first
   | (rw [smlF,hal1,show limF f = true by simp only [limF,Bool.and_eq_true,decide_eq_true_eq];omega];simp)
   | (rw [smlF,show limF f = false by simp only [limF,Bool.and_eq_false_iff,decide_eq_false_iff_not];omega];rfl)
   | (rw [smlF,show f.comps.all smlC = false from lall_bad hk1 (by rw [hx1];simp only [smlC,Bool.and_eq_false_iff,decide_eq_false_iff_not];omega)];simp)
 try simp only [df] at h17
 refine .gd Z Z<|.yv (.move Z) Z<|.gd Z Z<|.yv (.gtr Z Z) Z<|.yv (.pickF Z Z) Z<|.m Z Z<|.b2 (fun h21 => ?_) (fun h21 => ?_)
 ·try simp only [dt] at h21
  refine .gF Z Z Z Z<|.gF Z Z Z Z<|.gF Z Z Z Z<|.gF Z Z Z Z<|.yv (.pickT Z Z) Z<|.m Z Z<|.gF Z Z Z Z<|.gF Z Z Z Z<|.gF Z Z Z Z<|.gF Z Z Z Z<|.yv (.pickT Z Z) Z<|.nt<|.cT Z<|.sr<|.a Z Z<|.nt<|.rt<|.tR<|?_
  refine Sx.ret1 (.inl rfl) rfl (.tmp rfl) fun W s => ⟨retB ?_,s.ext⟩
  first
   | (rw [smlF,hal1,show limF f = true by simp only [limF,Bool.and_eq_true,decide_eq_true_eq];omega];simp)
   | (rw [smlF,show limF f = false by simp only [limF,Bool.and_eq_false_iff,decide_eq_false_iff_not];omega];rfl)
   | (rw [smlF,show f.comps.all smlC = false from lall_bad hk1 (by rw [hx1];simp only [smlC,Bool.and_eq_false_iff,decide_eq_false_iff_not];omega)];simp)
 try simp only [df] at h21
 refine .gd Z Z<|.yv (.fieldAddr Z Fx.field49_1) Z<|.gd Z Z<|.yv (.load Z Fx.agg45 (.head _) Z) Z<|.gd Z Z<|.yv (.lenSl Fx.sl45 Z) Z<|.gd Z Z<|.yv (.gtr Z Z) Z<|.yv (.pickF Z Z) Z<|.m Z Z<|.b2 (fun h27 => ?_) (fun h27 => ?_)
 ·try simp only [dt] at h27
  refine .gF Z Z Z Z<|.gF Z Z Z Z<|.gF Z Z Z Z<|.gF Z Z Z Z<|.yv (.pickT Z Z) Z<|.nt<|.cT Z<|.sr<|.a Z Z<|.nt<|.rt<|.tR<|?_
  refine Sx.ret1 (.inl rfl) rfl (.tmp rfl) fun W s => ⟨retB ?_,s.ext⟩
  first
   | (rw [smlF,hal1,show limF f = true by simp only [limF,Bool.and_eq_true,decide_eq_true_eq];omega];simp)
   | (rw [smlF,show limF f = false by simp only [limF,Bool.and_eq_false_iff,decide_eq_false_iff_not];omega];rfl)
   | (rw [smlF,show f.comps.all smlC = false from lall_bad hk1 (by rw [hx1];simp only [smlC,Bool.and_eq_false_iff,decide_eq_false_iff_not];omega)];simp)
 try simp only [df] at h27
 refine .gd Z Z<|.yv (.fieldAddr Z Fx.field49_2) Z<|.gd Z Z<|.yv (.load Z Fx.agg46 (.head _) Z) Z<|.gd Z Z<|.yv (.lenSl Fx.sl46 Z) Z<|.gd Z Z<|.yv (.gtr Z Z) Z<|.yv (.pickF Z Z) Z<|.nt<|.cd Z (fun h32 => ?_) (fun h32 => ?_)
 ·try simp only [dt] at h32
  refine .sr<|.a Z Z<|.nt<|.rt<|.tR<|?_
  refine Sx.ret1 (.inl rfl) rfl (.tmp rfl) fun W s => ⟨retB ?_,s.ext⟩
  first
   | (rw [smlF,hal1,show limF f = true by simp only [limF,Bool.and_eq_true,decide_eq_true_eq];omega];simp)
   | (rw [smlF,show limF f = false by simp only [limF,Bool.and_eq_false_iff,decide_eq_false_iff_not];omega];rfl)
   | (rw [smlF,show f.comps.all smlC = false from lall_bad hk1 (by rw [hx1];simp only [smlC,Bool.and_eq_false_iff,decide_eq_false_iff_not];omega)];simp)
 try simp only [df] at h32
 refine .sk<|.tN<|.sq<|.sr<|.yv (.fieldAddr Z Fx.field49_3) Z<|.yv (.load Z Fx.agg47 (.head _) Z) Z<|.yv (.lenSl Fx.sl47 Z) Z<|.m Z Z<|.nt<|.bk<|.lp (X := Nat) [(1,_),(34,_),(35,_)] ⟨rfl,rfl,rfl,trivial⟩ [_] (fun k1 => [(36,.int .i64 (k1 : Nat))]) (fun k1 => H) (fun k1 => []) (fun k1 => k1 ≤ f.comps.length ∧ (f.comps.take k1).all smlC = true) (fun k1 => f.comps.length - k1) 0 (fun _ s => s) ⟨rfl,trivial⟩ ⟨by omega,rfl⟩ fun k1 hC => ?_
 obtain ⟨hq1,hal1⟩ := hC
 refine .sr<|.yv (.lss Z Z) Z<|.nt<|.sq<|.cd Z (fun h37 => ?_) (fun h37 => ?_)
 ·try simp only [dt] at h37
  have hk1 : k1 < f.comps.length := by omega
  obtain ⟨bE1,oE1,cE1,hpE1,rE1,lE1,mE1⟩ := hs3.elem (map_at hk1)
  cases hpE1
  generalize hx1 : f.comps[k1] = x1 at rE1
  obtain ⟨p4,c4,p5,c5,rfl,hn4,hs4,hs5⟩ := cp_open rE1
  have hcap5 := hs5.cap
  refine .sk<|.tN<|.sq<|.bk<|.sr<|.yv (.indexSl Fx.sl47 Z Z Z (by omega) (q := oE1 + k1 * 3) Z) Z<|.yv (.loadMW Z Fx.agg110 mE1 Z) Z<|.al Fx.zero110 Z fun b5 => .sW .head Z Z Fx.size110 (by simp [Value.oneCell',strV]) Z<|.nt<|.sq<|.sr<|.yv (.fieldAddr Z Fx.field110_2) Z<|.yv (.load Z Fx.agg108 (.head _) Z) Z<|.yv (.lenSl Fx.sl108 Z) Z<|.a Z Z<|.ns<|.yv (.fieldAddr Z Fx.field110_1) Z<|.yv (.load Z Fx.agg107 (.head _) Z) Z<|.yv (.lenSl Fx.sl107 Z) Z<|.yv (.gtr Z Z) Z<|.m Z Z<|.b2 (fun h47 => ?_) (fun h47 => ?_)
  ·try simp only [dt] at h47
   refine .gF Z Z Z Z<|.gF Z Z Z Z<|.yv (.pickT Z Z) Z<|.m Z Z<|.gF Z Z Z Z<|.gF Z Z Z Z<|.yv (.pickT Z Z) Z<|.nt<|.cT Z<|.sr<|.a Z Z<|.nt<|.rt<|.tR<|.bR<|.tR<|.tR<|.bR<|.tR<|?_
   refine Sx.ret1 (.inl rfl) rfl (.tmp rfl) fun W s => ⟨retB ?_,s.ext⟩
   first
    | (rw [smlF,hal1,show limF f = true by simp only [limF,Bool.and_eq_true,decide_eq_true_eq];omega];simp)
    | (rw [smlF,show limF f = false by simp only [limF,Bool.and_eq_false_iff,decide_eq_false_iff_not];omega];rfl)
    | (rw [smlF,show f.comps.all smlC = false from lall_bad hk1 (by rw [hx1];simp only [smlC,Bool.and_eq_false_iff,decide_eq_false_iff_not];omega)];simp)
  try simp only [df] at h47
  refine .gd Z Z<|.yv (.move Z) Z<|.gd Z Z<|.yv (.eql Z Z) Z<|.yv (.pickF Z Z) Z<|.m Z Z<|.b2 (fun h51 => ?_) (fun h51 => ?_)
  ·try simp only [dt] at h51
   refine .gF Z Z Z Z<|.gF Z Z Z Z<|.yv (.pickT Z Z) Z<|.nt<|.cT Z<|.sr<|.a Z Z<|.nt<|.rt<|.tR<|.bR<|.tR<|.tR<|.bR<|.tR<|?_
   refine Sx.ret1 (.inl rfl) rfl (.tmp rfl) fun W s => ⟨retB ?_,s.ext⟩
   first
    | (rw [smlF,hal1,show limF f = true by simp only [limF,Bool.and_eq_true,decide_eq_true_eq];omega];simp)
    | (rw [smlF,show limF f = false by simp only [limF,Bool.and_eq_false_iff,decide_eq_false_iff_not];omega];rfl)
    | (rw [smlF,show f.comps.all smlC = false from lall_bad hk1 (by rw [hx1];simp only [smlC,Bool.and_eq_false_iff,decide_eq_false_iff_not];omega)];simp)
  try simp only [df] at h51
  refine .gd Z Z<|.yv (.move Z) Z<|.gd Z Z<|.yv (.gtr Z Z) Z<|.yv (.pickF Z Z) Z<|.nt<|.cd Z (fun h54 => ?_) (fun h54 => ?_)
  ·try simp only [dt] at h54
   refine .sr<|.a Z Z<|.nt<|.rt<|.tR<|.bR<|.tR<|.tR<|.bR<|.tR<|?_
   refine Sx.ret1 (.inl rfl) rfl (.tmp rfl) fun W s => ⟨retB ?_,s.ext⟩
   first
    | (rw [smlF,hal1,show limF f = true by simp only [limF,Bool.and_eq_true,decide_eq_true_eq];omega];simp)
    | (rw [smlF,show limF f = false by simp only [limF,Bool.and_eq_false_iff,decide_eq_false_iff_not];omega];rfl)
    | (rw [smlF,show f.comps.all smlC = false from lall_bad hk1 (by rw [hx1];simp only [smlC,Bool.and_eq_false_iff,decide_eq_false_iff_not];omega)];simp)
  try simp only [df] at h54
  refine .sk<|.tN<|.sr<|.mm Fx.map209 Z fun b55 => .a Z Z<|.nt<|.sq<|.sr<|.yv (.fieldAddr Z Fx.field110_2) Z<|.yv (.load Z Fx.agg108 (.tail _<|.head _) Z) Z<|.yv (.lenSl Fx.sl108 Z) Z<|.m Z Z<|.nt<|.bk<|.lp (X := Nat) [(1,_),(7,_),(34,_),(35,_),(36,_),(57,_),(58,_)] ⟨rfl,rfl,rfl,rfl,rfl,rfl,rfl,trivial⟩ [_,_] (fun k2 => [(59,.int .i64 (k2 : Nat))]) (fun k2 => H) (fun k2 => [(.obj b55 (mo ((x1.vers.take k2).foldl stepV [])))]) (fun k2 => k2 ≤ x1.vers.length) (fun k2 => x1.vers.length - k2) 0 (fun _ s => s) ⟨rfl,trivial⟩ (by omega) fun k2 hC => ?_
  refine .sr<|.yv (.lss Z Z) Z<|.nt<|.sq<|.cd Z (fun h60 => ?_) (fun h60 => ?_)
  ·try simp only [dt] at h60
   have hk2 : k2 < x1.vers.length := by omega
   obtain ⟨bE2,oE2,cE2,hpE2,rE2,lE2,mE2⟩ := hs5.elem (map_at hk2)
   cases hpE2
   generalize hx2 : x1.vers[k2] = x2 at rE2
   obtain ⟨p6,c6,rfl,hs6⟩ := vs_open rE2
   have hcap6 := hs6.cap
   refine .sk<|.tN<|.sq<|.bk<|.sr<|.yv (.indexSl Fx.sl108 Z Z Z (by omega) (q := oE2 + k2 * 1) Z) Z<|.yv (.loadMW Z Fx.agg155 mE2 Z) Z<|.al Fx.zero155 Z fun b9 => .sW .head Z Z Fx.size155 (by simp [Value.oneCell',strV]) Z<|.ns<|.yv (.fieldAddr Z Fx.field155_0) Z<|.yv (.load Z Fx.agg153 (.head _) Z) Z<|.yv (.lenSl Fx.sl153 Z) Z<|.m Z Z<|.nt<|.bk<|.pm [1,0,2,3] [_,_,_,_] Z Z<|.lp (X := Nat) [(1,_),(7,_),(34,_),(35,_),(36,_),(57,_),(58,_),(59,_),(64,_),(65,_)] ⟨rfl,rfl,rfl,rfl,rfl,rfl,rfl,rfl,rfl,rfl,trivial⟩ [_,_,_] (fun k3 => [(66,.int .i64 (k3 : Nat))]) (fun k3 => H) (fun k3 => [(.obj b55 (mo ((x2.take k3).foldl stepH ((x1.vers.take k2).foldl stepV []))))]) (fun k3 => k3 ≤ x2.length) (fun k3 => x2.length - k3) 0 (fun _ s => s) ⟨rfl,trivial⟩ (by omega) fun k3 hC => ?_
   refine .sr<|.yv (.lss Z Z) Z<|.nt<|.sq<|.cd Z (fun h67 => ?_) (fun h67 => ?_)
   ·try simp only [dt] at h67
    have hk3 : k3 < x2.length := by omega
    obtain ⟨bE3,oE3,cE3,hpE3,rE3,lE3,mE3⟩ := hs6.elem (map_at hk3)
    cases hpE3
    generalize hx3 : x2[k3] = x3 at rE3
    obtain ⟨p7,c7,p8,c8,rfl,hn7,hs7,hs8⟩ := hd_open rE3
    exact .sk<|.tN<|.sq<|.bk<|.sr<|.yv (.indexSl Fx.sl153 Z Z Z (by omega) (q := oE3 + k3 * 3) Z) Z<|.yv (.loadMW Z Fx.agg162 mE3 Z) Z<|.al Fx.zero162 Z fun b11 => .sW .head Z Z Fx.size162 (by simp [Value.oneCell',strV]) Z<|.nt<|.rg<|.m Z Z<|.yv (.fieldAddr Z Fx.field162_0) Z<|.yv (.load Z Fx.agg9 (.head _) Z) Z<|.mu (.tail<|.head) Fx.map209 Z Z Z<|.nl<|.bN<|.tN<|.rg<|.yv (.add Z Z (w6 (by omega))) Z<|.m Z Z<|.nt<|.ag (k3 + 1) ⟨rfl,trivial⟩ ⟨rfl,rfl,rfl,rfl,rfl,rfl,rfl,rfl,rfl,rfl,trivial⟩ (fun W s => by rw [fold_succ hk3,hx3];exact (s.pick [1,2,3,4] _ Z Z)) (by omega) (by omega)
   try simp only [df] at h67
   obtain rfl : k3 = x2.length := by omega
   rw [List.take_length]
   exact .ex<|.tE<|.tE<|.bE<|.bN<|.tN<|.rg<|.yv (.add Z Z (w6 (by omega))) Z<|.m Z Z<|.nt<|.ag (k2 + 1) ⟨rfl,trivial⟩ ⟨rfl,rfl,rfl,rfl,rfl,rfl,rfl,trivial⟩ (fun W s => by rw [show (x1.vers.take (k2 + 1)).foldl stepV [] = x2.foldl stepH ((x1.vers.take k2).foldl stepV []) by rw [fold_succ hk2,hx2];rfl];exact (s.pick [0,2,3] _ Z Z)) (by omega) (by omega)
  try simp only [df] at h60
  obtain rfl : k2 = x1.vers.length := by omega
  rw [List.take_length]
  have hnm1 : (x1.vers.foldl stepV []).length = (namesOf x1).length := rfl
  refine .ex<|.tE<|.tE<|.bE<|.tN<|.sr<|.m Z Z<|.yv (.lenM Fx.map209 (.head _) Z) Z<|.yv (.gtr Z Z) Z<|.nt<|.cd Z (fun h77 => ?_) (fun h77 => ?_)
  ·try simp only [dt] at h77
   refine .sr<|.a Z Z<|.nt<|.rt<|.bR<|.tR<|.tR<|.bR<|.tR<|?_
   refine Sx.ret1 (.inl rfl) rfl (.tmp rfl) fun W s => ⟨retB ?_,s.ext⟩
   first
    | (rw [smlF,hal1,show limF f = true by simp only [limF,Bool.and_eq_true,decide_eq_true_eq];omega];simp)
    | (rw [smlF,show limF f = false by simp only [limF,Bool.and_eq_false_iff,decide_eq_false_iff_not];omega];rfl)
    | (rw [smlF,show f.comps.all smlC = false from lall_bad hk1 (by rw [hx1];simp only [smlC,Bool.and_eq_false_iff,decide_eq_false_iff_not];omega)];simp)
  try simp only [df] at h77
  exact .sk<|.bN<|.tN<|.rg<|.yv (.add Z Z (w6 (by omega))) Z<|.m Z Z<|.nt<|.ag (k1 + 1) ⟨rfl,trivial⟩ ⟨rfl,rfl,rfl,trivial⟩ (fun _ s => s.pick [2] [_] Z Z) ⟨by omega,by rw [lall_succ hk1,hal1,hx1];simp only [smlC,Bool.true_and,Bool.and_eq_true,decide_eq_true_eq];omega⟩ (by omega)
 try simp only [df] at h37
 obtain rfl : k1 = f.comps.length := by omega
 rw [List.take_length] at hal1
 refine .ex<|.tE<|.tE<|.bE<|.tN<|.sr<|.yv (.loadW Z Fx.agg49 (.head _) Z) Z<|.yv (.call Fx.call101 Z (fun W s => everyHandler_any 102 smaH smallHandler_any H G f _ h hok W s.agr)) Z<|.a Z Z<|.nt<|.rt<|?_
 refine Sx.ret1 (.inl rfl) rfl (.tmp rfl) fun W s => ⟨retB ?_,s.ext⟩
 first
  | (rw [smlF,hal1,show limF f = true by simp only [limF,Bool.and_eq_true,decide_eq_true_eq];omega];simp)
  | (rw [smlF,show limF f = false by simp only [limF,Bool.and_eq_false_iff,decide_eq_false_iff_not];omega];rfl)
  | (rw [smlF,show f.comps.all smlC = false from lall_bad hk1 (by rw [hx1];simp only [smlC,Bool.and_eq_false_iff,decide_eq_false_iff_not];omega)];simp)
set_option maxRecDepth 100000 in
theorem check_any (H : Hp) (G : Gl H) (f : Ft) (cs : List Value) (h : Rep H (dFt .u8 f) cs) (hok : evH okH f = true) (w : World) (hA : Agr H w) :
 Calls Tryz.prog 35 #[.agg cs.toArray] w fun r w' => r = .returned (.int .i64 (checkF f : Nat)) ∧ Ext w w' := by
 obtain ⟨p1,c1,p2,c2,p3,c3,rfl,hnm,hs1,hs2,hs3⟩ := ft_open h
 have hcap1 := hs1.cap
 have hcap2 := hs2.cap
 have hcap3 := hs3.cap
 refine Sx.enter (H := H) Tryz.func35 rfl Tryz.ntmps35 rfl hA ?_
 refine .sr<|.bx Z Z Z fun b1 => .a Z Z<|.nt<|.sq<|.bk<|.sr<|.yv (.loadW Z Fx.agg49 (.head _) Z) Z<|.yv (.call Fx.call61 Z (fun W s => small_any H G f _ h hok W s.agr)) Z<|.yv (.not Z) Z<|.a Z Z<|.nt<|.cd Z (fun h3 => ?_) (fun h3 => ?_)
 ·skip
  refine .sr<|.a Z Z<|.nt<|.rt<|.bR<|.tR<|?_
  refine Sx.ret1 (.inl rfl) rfl (.tmp rfl) fun W s => ⟨?_,s.ext⟩
  first
   | (rw [checkF,if_pos (by simpa using h3)];rfl)
   | (rw [checkF,if_neg (by simpa using h3),if_pos (by simpa using h7)];rfl)
   | (rw [checkF,if_neg (by simpa using h3),if_neg (by simpa using h7),if_pos (by simpa using h11)];rfl)
   | (rw [checkF,if_neg (by simpa using h3),if_neg (by simpa using h7),if_neg (by simpa using h11)];rfl)
 skip
 refine .sr<|.yv (.loadW Z Fx.agg49 (.head _) Z) Z<|.yv (.call Fx.call62 Z (fun W s => named_any H G f _ h hok W s.agr)) Z<|.yv (.not Z) Z<|.a Z Z<|.nt<|.cd Z (fun h7 => ?_) (fun h7 => ?_)
 ·skip
  refine .sr<|.a Z Z<|.nt<|.rt<|.bR<|.tR<|?_
  refine Sx.ret1 (.inl rfl) rfl (.tmp rfl) fun W s => ⟨?_,s.ext⟩
  first
   | (rw [checkF,if_pos (by simpa using h3)];rfl)
   | (rw [checkF,if_neg (by simpa using h3),if_pos (by simpa using h7)];rfl)
   | (rw [checkF,if_neg (by simpa using h3),if_neg (by simpa using h7),if_pos (by simpa using h11)];rfl)
   | (rw [checkF,if_neg (by simpa using h3),if_neg (by simpa using h7),if_neg (by simpa using h11)];rfl)
 skip
 refine .sr<|.yv (.loadW Z Fx.agg49 (.head _) Z) Z<|.yv (.call Fx.call63 Z (fun W s => formed_any H G f _ h hok W s.agr)) Z<|.yv (.not Z) Z<|.a Z Z<|.nt<|.cd Z (fun h11 => ?_) (fun h11 => ?_)
 ·skip
  refine .sr<|.a Z Z<|.nt<|.rt<|.bR<|.tR<|?_
  refine Sx.ret1 (.inl rfl) rfl (.tmp rfl) fun W s => ⟨?_,s.ext⟩
  first
   | (rw [checkF,if_pos (by simpa using h3)];rfl)
   | (rw [checkF,if_neg (by simpa using h3),if_pos (by simpa using h7)];rfl)
   | (rw [checkF,if_neg (by simpa using h3),if_neg (by simpa using h7),if_pos (by simpa using h11)];rfl)
   | (rw [checkF,if_neg (by simpa using h3),if_neg (by simpa using h7),if_neg (by simpa using h11)];rfl)
 skip
 refine .sk<|.bN<|.tN<|.sr<|.a Z Z<|.nt<|.rt<|?_
 refine Sx.ret1 (.inl rfl) rfl (.tmp rfl) fun W s => ⟨?_,s.ext⟩
 first
  | (rw [checkF,if_pos (by simpa using h3)];rfl)
  | (rw [checkF,if_neg (by simpa using h3),if_pos (by simpa using h7)];rfl)
  | (rw [checkF,if_neg (by simpa using h3),if_neg (by simpa using h7),if_pos (by simpa using h11)];rfl)
  | (rw [checkF,if_neg (by simpa using h3),if_neg (by simpa using h7),if_neg (by simpa using h11)];rfl)
end Go.Proofs.YthhoebdlfjffkaaGreatDoor
namespace Go.Proofs
open Go.Shelf
end Go.Proofs
namespace Go.Proofs.YthhoebdlfjffkaaGreatDoor
open Go.RowKit Go.Par Go.Sx
end Go.Proofs.YthhoebdlfjffkaaGreatDoor
namespace Go.Proofs.YthhoebdlfjffkaaGreatDoor
open Go.RowKit Go.Par Go.Sx
def Gt (H : Hp) : Prop := ∀ W,Agr H W → Lib.TabIs Tryz.prog W "internal/strconv.uint64pow10" .u64 Lib.pow10Tab
theorem Gt.up {H H' : Hp} (g : Gt H) (u : Up H H') : Gt H' := fun W a => g W fun b o e => a b o (u b o e)
theorem lalls_at {q : Ex → Bool} {l : List Ex} {k : Nat} (h : k < l.length) (ha : Ex.alls q l = true) : Ex.all q l[k] = true := by
 cases hb : Ex.all q l[k] with
 | true => rfl
 | false => rw [alls_bad h hb] at ha;cases ha
end Go.Proofs.YthhoebdlfjffkaaGreatDoor
namespace Go.Proofs.YthhoebdlfjffkaaGreatDoor
open Go.RowKit Go.Par Go.Sx
open Go.RowKit Go.Par Go.Sx
end Go.Proofs.YthhoebdlfjffkaaGreatDoor
namespace Go.Proofs.YthhoebdlfjffkaaGreatDoor
open Go.RowKit Go.Par Go.Sx
theorem Fx.bsl52_1 (x0 : ByteArray) : bslN Tryz.prog 52 1 [(0,.string x0)] = some (9,[.string x0]) := by kernel_rfl
theorem Fx.bsl52_2 (x0 : ByteArray) (x1 : ByteArray) : bslN Tryz.prog 52 2 [(0,.string x0),(1,.string x1)] = some (9,[.string x0,.string x1]) := by kernel_rfl
theorem Fx.row52 : rowN Tryz.prog 52 = Option.some (9,1,16) := by kernel_rfl
theorem Fx.size9 : sizeN Tryz.prog 9 = Option.some 1 := by kernel_rfl
theorem Fx.bsl52_3 (x0 : ByteArray) (x1 : ByteArray) (x2 : ByteArray) : bslN Tryz.prog 52 3 [(0,.string x0),(1,.string x1),(2,.string x2)] = some (9,[.string x0,.string x1,.string x2]) := by kernel_rfl
theorem Fx.bsl52_6 (x0 : ByteArray) (x1 : ByteArray) (x2 : ByteArray) (x3 : ByteArray) (x4 : ByteArray) (x5 : ByteArray) : bslN Tryz.prog 52 6 [(0,.string x0),(1,.string x1),(2,.string x2),(3,.string x3),(4,.string x4),(5,.string x5)] = some (9,[.string x0,.string x1,.string x2,.string x3,.string x4,.string x5]) := by kernel_rfl
theorem Fx.agg208 : aggN Tryz.prog 208 = Option.some (Option.some 6) := by kernel_rfl
theorem Fx.size3 : sizeN Tryz.prog 3 = Option.some 1 := by kernel_rfl
theorem Fx.size208 : sizeN Tryz.prog 208 = Option.some 6 := by kernel_rfl
theorem Fx.zero208 : zeroN Tryz.prog 208 = Option.some
 [Go.Value.int Go.IntKind.u8 (Int.ofNat 0),Go.Value.string { data := { toList := [] } },
  Go.Value.string { data := { toList := [] } },Go.Value.slice Option.none 0 0,Go.Value.slice Option.none 0 0,
  Go.Value.slice Option.none 0 0] := by kernel_rfl
end Go.Proofs.YthhoebdlfjffkaaGreatDoor
namespace Go.Proofs.YthhoebdlfjffkaaGreatDoor
open Go.RowKit Go.Par Go.Sx
end Go.Proofs.YthhoebdlfjffkaaGreatDoor
namespace Go.Proofs.YthhoebdlfjffkaaGreatDoor
open Go.RowKit Go.Par Go.Sx
theorem Fx.call15 : callN Tryz.prog 15 = Bool.true := by kernel_rfl
theorem Fx.call35 : callN Tryz.prog 35 = Bool.true := by kernel_rfl
theorem Fx.field102_1 : fieldN Tryz.prog 102 1 = Option.some 1 := by kernel_rfl
theorem Fx.agg31 : aggN Tryz.prog 31 = Option.some Option.none := by kernel_rfl
theorem Fx.agg33 : aggN Tryz.prog 33 = Option.some (Option.some 4) := by kernel_rfl
theorem Fx.call14 : callN Tryz.prog 14 = Bool.true := by kernel_rfl
theorem Fx.field33_0 : fieldN Tryz.prog 33 0 = Option.some 0 := by kernel_rfl
theorem Fx.field33_1 : fieldN Tryz.prog 33 1 = Option.some 1 := by kernel_rfl
theorem Fx.field33_2 : fieldN Tryz.prog 33 2 = Option.some 2 := by kernel_rfl
theorem Fx.field33_3 : fieldN Tryz.prog 33 3 = Option.some 3 := by kernel_rfl
theorem Fx.int3 : intN Tryz.prog 3 = Option.some Go.IntKind.i64 := by kernel_rfl
theorem Fx.int24 : intN Tryz.prog 24 = Option.some Go.IntKind.u8 := by kernel_rfl
theorem Fx.row25 : rowN Tryz.prog 25 = Option.some (27,4,56) := by kernel_rfl
theorem Fx.size25 : sizeN Tryz.prog 25 = Option.some 1 := by kernel_rfl
theorem Fx.size33 : sizeN Tryz.prog 33 = Option.some 4 := by kernel_rfl
theorem Fx.sl31 : slN Tryz.prog 31 = Option.some 4 := by kernel_rfl
theorem Fx.zero33 : zeroN Tryz.prog 33 = Option.some
 [Go.Value.int Go.IntKind.i64 (Int.ofNat 0),Go.Value.string { data := { toList := [] } },
  Go.Value.int Go.IntKind.i64 (Int.ofNat 0),Go.Value.slice Option.none 0 0] := by kernel_rfl
theorem Fx.bld27_0_1_2 (x0 : Int) (x1 : ByteArray) (x2 : Int) : buildN Tryz.prog 27 [(0,.int .u8 x0),(1,.string x1),(2,.int .i64 x2)] = some [.int .u8 x0,.string x1,.int .i64 x2,.slice none 0 0] := by kernel_rfl
theorem Fx.bsl25_1 (x00 x01 x02 x03 : Value) : bslN Tryz.prog 25 1 [(0,.agg [x00,x01,x02,x03].toArray)] = some (27,[x00,x01,x02,x03]) := by kernel_rfl
def ExprOf (e : Ex) : Prop := Ex.all narrow e = true → ∀ (H : Hp) (cs : List Value) (w : World),Rep H (dEx .i64 e) cs → Agr H w →
 Calls Tryz.prog 14 #[.agg cs.toArray] w fun r w' => ∃ x H',Rep H' (dEx .u8 e) x ∧ r = .returned (.agg x.toArray) ∧ Grow H w H' w'
set_option maxRecDepth 100000 in
theorem expr_any (e : Ex) : ExprOf e := by
 induction e using Ex.ind with | _ op nm nn args ih
 intro hnr H cs w h hA
 rw [all_mk,Bool.and_eq_true,narrow_mk,decide_eq_true_eq] at hnr
 obtain ⟨p,c,rfl,hs,hnm⟩ := ex_open h
 have hcap := hs.cap
 have hn3 := hnr.1
 refine Sx.enter (H := H) Tryz.func14 rfl Tryz.ntmps14 rfl hA ?_
 refine .sr<|.bx Z Z Z fun b1 => .al Fx.zero27 Z fun b2 => ?_
 refine Sx.row0 27 4 ?_
 refine .ns<|.yv (.fieldAddr Z Fx.field33_0) Z<|.yv (.load Z Fx.agg3 (.tail _<|.tail _<|.head _) Z) Z<|.yv (.conv Z Fx.int3 Fx.int24 (c := (op.toNat : Nat)) (by have := op.toNat_lt;simp only [IntKind.wrap,IntKind.signed,IntKind.bits];simp;omega)) Z<|.yv (.fieldAddr Z Fx.field33_1) Z<|.yv (.load Z Fx.agg9 (.tail _<|.tail _<|.head _) Z) Z<|.yv (.fieldAddr Z Fx.field33_2) Z<|.yv (.load Z Fx.agg2 (.tail _<|.tail _<|.head _) Z) Z<|.yv (.build Z (Fx.bld27_0_1_2 _ _ _)) Z<|.al Fx.zero27 Z fun b3 => .sW .head Z Z Fx.size27 (by simp [Value.oneCell',strV]) Z<|.nt<|.sq<|.sr<|.yv (.fieldAddr Z Fx.field33_3) Z<|.yv (.load Z Fx.agg31 (.tail _<|.tail _<|.tail _<|.head _) Z) Z<|.yv (.lenSl Fx.sl31 Z) Z<|.m Z Z<|.nt<|.bk<|.lp (X := Nat × Hp × Value × List Value) [(2,_),(3,_),(15,_),(16,_)] ⟨rfl,rfl,rfl,rfl,trivial⟩ [_,_] (fun z => [(17,.int .i64 (z.1 : Nat))]) (fun z => z.2.1) (fun z => [.box b3 [.int .u8 op.toNat,strV nm,.int .i64 nn.toInt,z.2.2.1] 27,.row 27 4 z.2.2.1 z.1 z.2.2.2]) (fun z => z.1 ≤ args.length ∧ HUp w H z.2.1 ∧ RepZ z.2.1 4 ((args.take z.1).map (dEx .u8)) z.2.2.2) (fun z => args.length - z.1) (0,H,.slice none 0 0,[]) (fun _ s => s) ⟨rfl,trivial⟩ ⟨by simp,.refl,RepZ.nil⟩ fun z hC => ?_
 obtain ⟨k,H1,r,xs⟩ := z
 dsimp only at hC ⊢
 obtain ⟨hk0,u1,hz⟩ := hC
 refine .sr<|.yv (.lss Z Z) Z<|.nt<|.sq<|.cd Z (fun h18 => ?_) (fun h18 => ?_)
 ·try simp only [dt] at h18
  have hk : k < args.length := by omega
  obtain ⟨bE,oE,cE,hpE,rE,lE,mE⟩ := (hs.up u1.up).elem (map_at hk)
  cases hpE
  have hnr1 := lalls_at hk hnr.2
  refine .sk<|.tN<|.sq<|.bk<|.sr<|.yv (.indexSl Fx.sl31 Z Z Z (by omega) (q := oE + k * 4) Z) Z<|.yv (.loadMW Z Fx.agg33 mE lE) Z<|.al Fx.zero33 Z fun b5 => .sV .head Z Z Fx.size33 lE rE.one Z<|.nt<|.fl (trip := [(_,_,_),(_,_,_),(_,_,_),(_,_,_),(_,_,_)]) 5 [(0,0),(1,0),(2,0),(3,1),(4,1)] (by kernel_rfl) (by kernel_rfl) Z<|.yv (.fieldAddr Z Fx.field27_3) Z<|.yv (.load Z Fx.agg25 (.tail _<|.head _) Z) Z<|.yv (.loadW Z Fx.agg33 (.head _) lE) Z<|.ct (X := List Value) Fx.call14 Z (fun W s => ih _ (List.getElem_mem hk) hnr1 H1 cE W rE s.agr) Z fun x2 H2 hc2 u2 => ?_
  generalize hx : args[k] = x at hc2
  obtain ⟨op2,nm2,n2,args2⟩ := x
  obtain ⟨p2,c2,rfl,hs2,hnm2⟩ := ex_open hc2
  refine .bl Z (Fx.bsl25_1 _ _ _ _) Z fun b25 => .fn (tl := [_,_,_]) Z<|.ap (news := [.int .u8 op2.toNat,strV nm2,.int .i64 n2.toInt,.slice p2 args2.length c2]) Fx.row25 Z (fun _ => (.tail<|.tail<|.tail<|.head)) Z (.box (.head _) z0) Z (by simp [Value.oneCell',strV]) (by simp [maxLen];omega) (by omega) Z fun r26 _ => ?_
  refine At.ra (.tail _ (.tail _ (.tail _ (.head _)))) fun p26 c26 e26 => ?_
  exact .yv (.fieldAddr Z Fx.field27_3) Z<|.st (.tail<|.tail<|.head) Z Z Fx.size25 (by rw [e26];rfl) (nb Z) Z<|.nl<|.bN<|.tN<|.rg<|.yv (.add Z Z (w6 (by omega))) Z<|.m Z Z<|.nt<|.ag (x := (k,H1,r,xs)) (k + 1,H2,r26,xs ++ [.int .u8 op2.toNat,strV nm2,.int .i64 n2.toInt,.slice p2 args2.length c2]) ⟨rfl,trivial⟩ ⟨rfl,rfl,rfl,rfl,trivial⟩ (fun _ s => (s.pick [2,3,4,5] _ Z Z)) ⟨by dsimp only;omega,u1.trans u2,by dsimp only;rw [take_snoc hk,hx,List.map_append];exact (hz.up u2.up).snoc hc2 Z⟩ (by dsimp only;omega)
 try simp only [df] at h18
 obtain rfl : k = args.length := by omega
 rw [List.take_length] at hz
 refine At.ra (.tail _ (.head _)) fun p26 c26 e26 => ?_
 subst e26
 refine .ex<|.tE<|.tE<|.bE<|.tN<|.sr<|.yv (.loadW Z Fx.agg27 (.head _) Z) Z<|.sW (.tail<|.tail<|.head) Z Z Fx.size27 (by simp [Value.oneCell',strV]) Z<|.nt<|.rt<|?_
 refine At.pm [1,2] [_,_] rfl rfl ?_
 refine Sx.freezeSeq (ds := args.map (dEx .u8)) (by simp) hz fun H3 p3 c3 u3 hr3 hs3 => ?_
 refine Sx.ret1 (.inl rfl) rfl (.cell rfl Fx.agg27 (.head _) rfl) fun W s => ⟨_,H3,ex_shut hnm hs3,rfl,(u1.trans u3).grow s⟩
end Go.Proofs.YthhoebdlfjffkaaGreatDoor
namespace Go.Sx
open Go.RowKit Go.Par
section
variable {dfs : List Deferred} {P : Program} {n : Nat} {L : Sl} {H : Hp} {w0 : World} {bs : List Res} {Q : Exit → Act → World → Prop} {ops : Array Oper} {K : Act → World → Prop}
def exN (K : Act → World → Prop) (Q : Exit → Act → World → Prop) : Exit → Act → World → Prop := fun e => match e with | .normal => K | e => Q e
theorem At.ae {listed : Array Bool} (hr : Region.ready .any ops listed = []) (h : At dfs n L H w0 bs (Q .normal)) : At dfs n L H w0 bs (wpAny P .any ops Q 0 listed) := anyEnd hr h
end
end Go.Sx
namespace Go.Proofs.YthhoebdlfjffkaaGreatDoor
open Go.RowKit Go.Par Go.Sx
theorem Fx.int5 : intN Tryz.prog 5 = Option.some Go.IntKind.u8 := by kernel_rfl
end Go.Proofs.YthhoebdlfjffkaaGreatDoor
namespace Go.Proofs.YthhoebdlfjffkaaGreatDoor
open Go.RowKit Go.Par Go.Sx
end Go.Proofs.YthhoebdlfjffkaaGreatDoor
namespace Go.Proofs.YthhoebdlfjffkaaGreatDoor
open Go.RowKit Go.Par Go.Sx
structure Sp where
 wh : UInt8
 i : UInt8
 nm : UInt8
 n : Int64
 nodes : List Nd
def okE (e : Ex) : Bool := decide (e.depth ≤ 64) && Ex.all narrow e
def okS2 (N : Nat) : Sm → Bool
 | .mk _ _ _ ex _ _ => decide (ex.length ≤ N) && ex.all okE
structure okL (N : Nat) (l : List Sm) : Prop where
 cnt : Sm.counts l ≤ N
 dep : Sm.deeps l ≤ N
 all : Sm.alls (okS2 N) l = true
mutual
theorem sall_imp {q q' : Sm → Bool} (h : ∀ s,q s = true → q' s = true) : ∀ s,Sm.all q s = true → Sm.all q' s = true
 | .mk kd nm hd ex th el,hh => by
  rw [sall_mk] at hh ⊢
  simp only [Bool.and_eq_true] at hh ⊢
  exact ⟨⟨h _ hh.1.1,salls_imp h th hh.1.2⟩,salls_imp h el hh.2⟩
theorem salls_imp {q q' : Sm → Bool} (h : ∀ s,q s = true → q' s = true) : ∀ l,Sm.alls q l = true → Sm.alls q' l = true
 | [],_ => rfl
 | s :: r,hh => by
  rw [Sm.alls,Bool.and_eq_true] at hh ⊢
  exact ⟨sall_imp h s hh.1,salls_imp h r hh.2⟩
end
theorem okS2_mono {N M : Nat} (h : N ≤ M) : ∀ s,okS2 N s = true → okS2 M s = true
 | .mk _ _ _ ex _ _,hh => by
  simp only [okS2,Bool.and_eq_true,decide_eq_true_eq] at hh ⊢
  exact ⟨by omega,hh.2⟩
theorem okL.mono {N M : Nat} {l : List Sm} (h : okL N l) (k : N ≤ M) : okL M l := ⟨by have := h.cnt;omega,by have := h.dep;omega,salls_imp (okS2_mono k) l h.all⟩
theorem okL.nil {N : Nat} : okL N [] := ⟨by simp [Sm.counts],by simp [Sm.deeps],rfl⟩
theorem okL.app {N M : Nat} {a b : List Sm} (h : okL N a) (k : okL M b) : okL (N + M) (a ++ b) := by
 have h2 := h.mono (M := N + M) (by omega)
 have k2 := k.mono (M := N + M) (by omega)
 refine ⟨?_,?_,?_⟩
 ·rw [scounts_app];have := h.cnt;have := k.cnt;omega
 ·rw [sdeeps_app];have := h2.dep;have := k2.dep;omega
 ·rw [salls_app,h2.all,k2.all];rfl
theorem okL.len {N : Nat} {l : List Sm} (h : okL N l) : l.length ≤ N := Nat.le_trans (scounts_len l) h.cnt
theorem okL.left {N : Nat} {a b : List Sm} (h : okL N (a ++ b)) : okL N a := by
 obtain ⟨h1,h2,h3⟩ := h
 rw [scounts_app] at h1
 rw [sdeeps_app] at h2
 rw [salls_app,Bool.and_eq_true] at h3
 exact ⟨by omega,by omega,h3.1⟩
theorem okL.right {N : Nat} {a b : List Sm} (h : okL N (a ++ b)) : okL N b := by
 obtain ⟨h1,h2,h3⟩ := h
 rw [scounts_app] at h1
 rw [sdeeps_app] at h2
 rw [salls_app,Bool.and_eq_true] at h3
 exact ⟨by omega,by omega,h3.2⟩
theorem split_at {α : Type} {l : List α} {j : Nat} (h : j < l.length) : l = l.take j ++ ([l[j]] ++ l.drop (j + 1)) := by simp
theorem set_at {α : Type} {l : List α} {j : Nat} (h : j < l.length) (s : α) : l.set j s = l.take j ++ ([s] ++ l.drop (j + 1)) := by
 rw [List.set_eq_take_append_cons_drop,if_pos h];rfl
theorem okL.at {N : Nat} {l : List Sm} (h : okL N l) {j : Nat} (hj : j < l.length) : okL N [l[j]] := by
 have h2 := h
 rw [split_at hj] at h2
 exact h2.right.left
theorem okL.put {N M : Nat} {l : List Sm} (h : okL N l) {j : Nat} (hj : j < l.length) {s : Sm} (k : okL (N + M) [s]) : okL (N + (N + M)) (l.set j s) := by
 have h2 := h
 rw [split_at hj] at h2
 have h3 : okL N (l.take j ++ l.drop (j + 1)) := by
  obtain ⟨a1,a2,a3⟩ := h2
  simp only [scounts_app,sdeeps_app,salls_app,Bool.and_eq_true] at a1 a2 a3
  refine ⟨?_,?_,?_⟩
  ·rw [scounts_app];omega
  ·rw [sdeeps_app];omega
  ·rw [salls_app,a3.1,a3.2.2];rfl
 rw [set_at hj]
 obtain ⟨a1,a2,a3⟩ := h3
 obtain ⟨b1,b2,b3⟩ := k
 rw [scounts_app] at a1
 rw [sdeeps_app] at a2
 rw [salls_app,Bool.and_eq_true] at a3
 have m1 := okS2_mono (N := N) (M := N + (N + M)) (by omega)
 have m2 := okS2_mono (N := N + M) (M := N + (N + M)) (by omega)
 refine ⟨?_,?_,?_⟩
 ·rw [scounts_app,scounts_app];omega
 ·rw [sdeeps_app,sdeeps_app];omega
 ·rw [salls_app,salls_app,salls_imp m1 _ a3.1,salls_imp m2 _ b3,salls_imp m1 _ a3.2];rfl
structure okHd (N : Nat) (h : Hd) : Prop where
 ps : h.ps.length ≤ N
 body : okL N h.body
theorem okHd.mono {N M : Nat} {h : Hd} (k : okHd N h) (l : N ≤ M) : okHd M h := ⟨by have := k.ps;omega,k.body.mono l⟩
structure okV2 (N : Nat) (v : List Hd) : Prop where
 len : v.length ≤ N
 all : ∀ h ∈ v,okHd N h
theorem okV2.mono {N M : Nat} {v : List Hd} (k : okV2 N v) (l : N ≤ M) : okV2 M v := ⟨by have := k.len;omega,fun h m => (k.all h m).mono l⟩
theorem okV2.nil {N : Nat} : okV2 N [] := ⟨by simp,fun _ h => by cases h⟩
structure okCp (N : Nat) (c : Cp) : Prop where
 vars : c.vars.length ≤ N
 vers : c.vers.length ≤ N
 all : ∀ v ∈ c.vers,okV2 N v
theorem okCp.mono {N M : Nat} {c : Cp} (k : okCp N c) (l : N ≤ M) : okCp M c := ⟨by have := k.vars;omega,by have := k.vers;omega,fun v m => (k.all v m).mono l⟩
structure okFt (N : Nat) (f : Ft) : Prop where
 flags : f.flags.length ≤ N
 links : f.links.length ≤ N
 comps : f.comps.length ≤ N
 pos : 0 < f.comps.length
 all : ∀ c ∈ f.comps,okCp N c
theorem okFt.mono {N M : Nat} {f : Ft} (k : okFt N f) (l : N ≤ M) : okFt M f := ⟨by have := k.flags;omega,by have := k.links;omega,by have := k.comps;omega,k.pos,fun c m => (k.all c m).mono l⟩
end Go.Proofs.YthhoebdlfjffkaaGreatDoor
namespace Go.Proofs.YthhoebdlfjffkaaGreatDoor
def okD (D : Nat) (e : Ex) : Prop := e.depth ≤ D ∧ Ex.all narrow e = true
theorem okD.mono {D D' : Nat} {e : Ex} (h : okD D e) (k : D ≤ D') : okD D' e := ⟨Nat.le_trans h.1 k,h.2⟩
end Go.Proofs.YthhoebdlfjffkaaGreatDoor
namespace Go.Proofs.YthhoebdlfjffkaaGreatDoor
open Go.RowKit Go.Par Go.Sx
def wfE (D : Nat) (e : Ex) : Prop := e.depth ≤ D ∧ Ex.all frmE e = true ∧ Ex.all namE e = true
theorem wfE.mono {D D' : Nat} {e : Ex} (h : wfE D e) (k : D ≤ D') : wfE D' e := ⟨Nat.le_trans h.1 k,h.2⟩
def e0 : Ex := .mk 4 [] 0 []
structure MkOk (M : Mk) : Prop where
 i0 : 0 < M.ints
 i3 : M.ints ≤ 3
 p2 : M.params ≤ 2
 f2 : M.flags ≤ 2
 a3 : M.ars.length ≤ 3
 a0 : 0 < M.ars.length
 ar2 : ∀ c h,arN M c h ≤ 2
 al : ∀ c,c < M.ars.length → 0 < arL M c ∧ arL M c ≤ 3
 own : M.own < M.ars.length
structure Wf (D lf : Nat) (l : List Sm) (lf' : Nat) : Prop where
 cnt : Sm.counts l + lf' ≤ lf
 dep : Sm.deeps l ≤ D
 frm : Sm.alls frmS l = true
 nam : Sm.alls namS l = true
 sma : Sm.alls smaS l = true
theorem Wf.all {D lf lf' : Nat} {l : List Sm} (h : Wf D lf l lf') : Sm.deeps l ≤ D ∧ Sm.alls frmS l = true ∧ Sm.alls namS l = true ∧ Sm.alls smaS l = true := ⟨h.dep,h.frm,h.nam,h.sma⟩
theorem MkOk.at {M : Mk} (h : MkOk M) (k : Nat) : MkOk (M.at k) := ⟨h.i0,h.i3,h.ar2 _ _,h.f2,h.a3,h.a0,h.ar2,h.al,h.own⟩
end Go.Proofs.YthhoebdlfjffkaaGreatDoor
namespace Go.Proofs.YthhoebdlfjffkaaGreatDoor
structure Sg where
 r : List Tk
 e : Nat
 o : Nat
def offT (n : Nat) : List Tk → Nat
 | [] => n
 | t :: _ => t.o
def Sg.tl (s : Sg) : Sg := ⟨s.r.tail,s.e,s.o⟩
def Sg.fail (n c : Nat) (s : Sg) : Sg := if s.e = 0 then ⟨s.r,c,offT n s.r⟩ else s
section
variable {α β : Type}
def up (n : Nat) (g : Pz α) (s : Sg) : Sg := if s.e = 0 then (match g s.r with | .ok _ r => ⟨r,s.e,s.o⟩ | .er r c => ⟨r,c,offT n r⟩) else s
def vl (g : Pz α) (s : Sg) (x : α) : Prop := s.e = 0 → ∀ a r,g s.r = .ok a r → x = a
def Cz (g : Pz α) : Prop := ∀ r r' c,g r = .er r' c → c ≠ 0
theorem Rs.bind_er {x : Rs α} {f : α → List Tk → Rs β} {r : List Tk} {c : Nat} (h : x.bind f = .er r c) : x = .er r c ∨ ∃ a q,x = .ok a q ∧ f a q = .er r c := by
 cases x with
 | ok a q => exact .inr ⟨a,q,rfl,h⟩
 | er q d => left;injection h with h1 h2;subst h1;subst h2;rfl
theorem Cz.pure (a : α) : Cz (gPure a) := fun r r' c e => by cases e
theorem Cz.bind {g : Pz α} {f : α → Pz β} (h : Cz g) (k : ∀ a,Cz (f a)) : Cz (gBind g f) := fun r r' c e => by
 rcases Rs.bind_er e with e | ⟨a,q,_,e⟩
 ·exact h _ _ _ e
 ·exact k _ _ _ _ e
theorem Cz.nd (w : Str) : Cz (gNd w) := fun r r' c e => by
 unfold gNd at e
 split at e
 ·cases e
 ·injection e with _ e;omega
theorem Cz.nn (w : Str) : Cz (gNn w) := fun r r' c e => by
 unfold gNn at e
 split at e
 ·cases e
 ·injection e with _ e;omega
theorem Cz.nm : Cz gNm := fun r r' c e => by
 unfold gNm at e
 split at e
 ·injection e with _ e;omega
 ·split at e
  ·cases e
  ·injection e with _ e;omega
theorem Cz.nu : Cz gNu := fun r r' c e => by
 unfold gNu at e
 split at e
 ·injection e with _ e;omega
 ·split at e
  ·split at e
   ·cases e
   ·injection e with _ e;omega
  ·injection e with _ e;omega
theorem Cz.alt {w : Str} {p q : Pz α} (h : Cz p) (k : Cz q) : Cz (gAlt w p q) := fun r r' c e => by
 unfold gAlt at e
 split at e
 ·exact h _ _ _ e
 ·exact k _ _ _ e
theorem Cz.manyF {w : Str} {p : Pz α} (h : Cz p) : ∀ f,Cz (gManyF w p f)
 | 0 => fun r r' c e => by unfold gManyF at e;injection e with _ e;omega
 | f + 1 => .alt (.bind h fun _ => .bind (Cz.manyF h f) fun _ => .pure _) (.pure _)
theorem Cz.many {w : Str} {p : Pz α} (h : Cz p) : Cz (gMany w p) := fun r r' c e => Cz.manyF h _ _ _ _ e
theorem up_er {n : Nat} {g : Pz α} {s : Sg} (h : s.e ≠ 0) : up n g s = s := by unfold up;rw [if_neg h]
theorem up_pure {n : Nat} {a : α} {s : Sg} : up n (gPure a) s = s := by
 unfold up gPure
 split <;> rfl
theorem vl_pure {a : α} {s : Sg} : vl (gPure a) s a := fun _ b r e => by injection e
theorem vl_er {g : Pz α} {s : Sg} {x : α} (h : s.e ≠ 0) : vl g s x := fun k => absurd k h
theorem up_ne {n : Nat} {g : Pz α} {s : Sg} {r : List Tk} {c : Nat} (hz : Cz g) (h : g s.r = .er r c) (h0 : s.e = 0) : (up n g s).e ≠ 0 := by
 unfold up
 rw [if_pos h0,h]
 exact hz _ _ _ h
theorem up_bind {n : Nat} {g : Pz α} {f : α → Pz β} {s : Sg} {x : α} (hz : Cz g) (hx : vl g s x) : up n (gBind g f) s = up n (f x) (up n g s) := by
 by_cases h0 : s.e = 0
 ·cases hg : g s.r with
  | er r c =>
   rw [up_er (up_ne hz hg h0)]
   unfold up gBind
   rw [if_pos h0,if_pos h0,hg]
   rfl
  | ok a r =>
   obtain rfl := hx h0 a r hg
   have e : up n g s = ⟨r,s.e,s.o⟩ := by unfold up;rw [if_pos h0,hg]
   rw [e]
   unfold up gBind
   rw [if_pos h0,if_pos h0,hg]
   rfl
 ·rw [up_er h0,up_er h0,up_er h0]
theorem vl_bind {n : Nat} {g : Pz α} {f : α → Pz β} {s : Sg} {x : α} {y : β} (hx : vl g s x) (hy : vl (f x) (up n g s) y) : vl (gBind g f) s y := by
 intro h0 b r e
 obtain ⟨a,q,h1,h2⟩ := Rs.bind_ok e
 obtain rfl := hx h0 a q h1
 have e : up n g s = ⟨q,s.e,s.o⟩ := by unfold up;rw [if_pos h0,h1]
 rw [e] at hy
 exact hy h0 b r h2
def ac (w : Str) (s : Sg) : Bool := decide (s.e = 0) && isT w s.r
theorem ac_e {w : Str} {s : Sg} (h : ac w s = true) : s.e = 0 ∧ isT w s.r = true := by
 unfold ac at h
 rw [Bool.and_eq_true,decide_eq_true_eq] at h
 exact h
theorem up_altT {n : Nat} {w : Str} {p q : Pz α} {s : Sg} (h : ac w s = true) : up n (gAlt w p q) s = up n p s.tl := by
 obtain ⟨h0,h1⟩ := ac_e h
 unfold up gAlt Sg.tl
 simp only [h0,h1,if_true]
theorem vl_altT {w : Str} {p q : Pz α} {s : Sg} {x : α} (h : ac w s = true) (hx : vl p s.tl x) : vl (gAlt w p q) s x := by
 obtain ⟨h0,h1⟩ := ac_e h
 intro _ a r e
 unfold gAlt at e
 rw [if_pos h1] at e
 exact hx h0 a r e
theorem up_altF {n : Nat} {w : Str} {p q : Pz α} {s : Sg} (h : ac w s = false) : up n (gAlt w p q) s = up n q s := by
 by_cases h0 : s.e = 0
 ·have h1 : isT w s.r = false := by
   unfold ac at h
   rw [decide_eq_true h0,Bool.true_and] at h
   exact h
  unfold up gAlt
  simp only [h0,h1,if_true,Bool.false_eq_true,if_false]
 ·rw [up_er h0,up_er h0]
theorem vl_altF {w : Str} {p q : Pz α} {s : Sg} {x : α} (h : ac w s = false) (hx : vl q s x) : vl (gAlt w p q) s x := by
 intro h0 a r e
 have h1 : isT w s.r = false := by
  unfold ac at h
  rw [decide_eq_true h0,Bool.true_and] at h
  exact h
 unfold gAlt at e
 rw [if_neg (by rw [h1];decide)] at e
 exact hx h0 a r e
theorem up_ndT {n : Nat} {w : Str} {s : Sg} (h : ac w s = true) : up n (gNd w) s = s.tl := by
 obtain ⟨h0,h1⟩ := ac_e h
 unfold up gNd Sg.tl
 simp only [h0,h1,if_true]
theorem up_ndF {n : Nat} {w : Str} {s : Sg} (h : ac w s = false) : up n (gNd w) s = s.fail n 8 := by
 unfold Sg.fail
 by_cases h0 : s.e = 0
 ·have h1 : isT w s.r = false := by
   unfold ac at h
   rw [decide_eq_true h0,Bool.true_and] at h
   exact h
  unfold up gNd
  simp only [h0,h1,if_true,Bool.false_eq_true,if_false]
 ·rw [up_er h0,if_neg h0]
theorem vl_unit {g : Pz Unit} {s : Sg} : vl g s () := fun _ _ _ _ => rfl
end
theorem wordL : ∀ w ∈ words,letB (w.headD 0) = true ∧ w.length ≤ 12 := by decide +kernel
theorem symL : ∀ w ∈ symbols,letB (w.headD 0) = false ∧ digB (w.headD 0) = false := by decide +kernel
theorem readK_hd {c : UInt8} {r w : Str} (e : (c :: r).take (readK (c :: r)).2 = w) : w.headD 0 = c := by
 have h := (readK_bnd (l := c :: r) (by simp)).1
 obtain ⟨k,hk⟩ : ∃ k,(readK (c :: r)).2 = k + 1 := ⟨(readK (c :: r)).2 - 1,by omega⟩
 rw [hk] at e
 subst e
 rfl
theorem dig_let {c : UInt8} (h : digB c = true) : letB c = false := by
 have key : ∀ i ∈ List.range 256,digB (UInt8.ofNat i) = true → letB (UInt8.ofNat i) = false := by decide +kernel
 have := key c.toNat (List.mem_range.2 c.toNat_lt)
 rw [UInt8.ofNat_toNat] at this
 exact this h
theorem readK_word {m w : Str} (h : m ≠ []) (hw : w ∈ words ∨ w ∈ symbols) (e : m.take (readK m).2 = w) : (readK m).1 = 2 ∨ (readK m).1 = 4 := by
 match m,h with
 | c :: r,_ =>
  have hh := readK_hd e
  cases h1 : letB c with
  | true =>
   have hw1 : w ∈ words := by
    rcases hw with hw | hw
    ·exact hw
    ·have := (symL w hw).1
     rw [hh,h1] at this
     cases this
   cases h4 : words.contains ((c :: r).take (pre insB (c :: r))) with
   | true => left;simp only [readK,List.headD_cons,h1,h4,if_true]
   | false =>
    by_cases h5 : pre insB (c :: r) ≤ 12
    ·simp only [readK,List.headD_cons,h1,h4,h5,if_true,Bool.false_eq_true,if_false] at e
     rw [e] at h4
     rw [List.contains_iff_mem.2 hw1] at h4
     cases h4
    ·simp only [readK,List.headD_cons,h1,h4,h5,if_true,Bool.false_eq_true,if_false] at e
     rw [List.take_length] at e
     have h6 := pre_le insB (c :: r)
     have h7 := (wordL w hw1).2
     rw [← e] at h7
     omega
  | false =>
   have hw1 : w ∈ symbols := by
    rcases hw with hw | hw
    ·have := (wordL w hw).1
     rw [hh,h1] at this
     cases this
    ·exact hw
   have h4 : digB c = false := by
    have := (symL w hw1).2
    rw [hh] at this
    exact this
   cases hx : symbols.find? (fun x => x.isPrefixOf (c :: r)) with
   | some x => right;simp only [readK,List.headD_cons,h1,h4,hx,Bool.false_eq_true,if_false]
   | none =>
    simp only [readK,List.headD_cons,h1,h4,hx,Bool.false_eq_true,if_false] at e
    rw [List.take_length] at e
    have := List.find?_eq_none.1 hx w hw1
    rw [← e] at this
    exact absurd (List.isPrefixOf_iff_prefix.2 (List.prefix_refl _)) this
theorem readK_num {m : Str} {c0 : UInt8} (h : m ≠ []) (hc : c0 = 50 ∨ c0 = 51) (e : m.take (readK m).2 = [c0]) : (readK m).1 = 3 := by
 match m,h with
 | c :: r,_ =>
  have hh : c0 = c := readK_hd e
  have h4 : digB c = true := by rw [← hh];rcases hc with rfl | rfl <;> decide
  have h1 := dig_let h4
  have h5 : pre digB (c :: r) = 1 ∨ c ≠ 48 := .inr (by rw [← hh];rcases hc with rfl | rfl <;> decide)
  simp only [readK,List.headD_cons,h1,h4,h5,if_true,Bool.false_eq_true,if_false]
def Tkg (t : Tk) : Prop := (t.t ∈ words ∨ t.t ∈ symbols → t.k = 2 ∨ t.k = 4) ∧ (t.t = [50] ∨ t.t = [51] → t.k = 3) ∧ t.t ≠ []
theorem tokFG : ∀ (f o : Nat) (m : Str),∀ t ∈ tokF f o m,Tkg t
 | 0,_,_,t,h => by cases h
 | f + 1,o,m,t,h => by
  by_cases h0 : m = []
  ·rw [h0,tokF_nil] at h;cases h
  ·rw [tokF_step h0] at h
   rcases List.mem_cons.1 h with rfl | h
   ·refine ⟨fun hw => readK_word h0 hw rfl,fun hc => ?_,fun e => ?_⟩
    ·rcases hc with hc | hc
     ·exact readK_num h0 (.inl rfl) hc
     ·exact readK_num h0 (.inr rfl) hc
    ·have hb := readK_bnd h0
     have h2 := congrArg List.length e
     rw [List.length_take] at h2
     simp only [List.length_nil] at h2
     omega
   ·exact tokFG f _ _ t h
theorem lexR_good (s : Str) : ∀ t ∈ lexR s,Tkg t := tokFG _ _ _
theorem isT_tok {w : Str} {t : Tk} {r : List Tk} (h : Tkg t) (hw : w ∈ words ∨ w ∈ symbols) : isT w (t :: r) = decide (t.t = w) := by
 show ((t.k == 2 || t.k == 4) && decide (t.t = w)) = _
 by_cases e : t.t = w
 ·have h1 := h.1 (by rw [e];exact hw)
  rw [decide_eq_true e]
  rcases h1 with h1 | h1 <;> rw [h1] <;> rfl
 ·rw [decide_eq_false e,Bool.and_false]
theorem isN_tok {w : Str} {t : Tk} {r : List Tk} (h : Tkg t) (hw : w = [50] ∨ w = [51]) : isN w (t :: r) = decide (t.t = w) := by
 show (t.k == 3 && decide (t.t = w)) = _
 by_cases e : t.t = w
 ·have h1 := h.2.1 (by rw [e];exact hw)
  rw [decide_eq_true e,h1]
  rfl
 ·rw [decide_eq_false e,Bool.and_false]
theorem numV_app (l : Str) (c : UInt8) : numV (l ++ [c]) = 10 * numV l + (c.toNat - 48) := by
 unfold numV
 rw [List.foldl_append]
 rfl
theorem num_ge : ∀ (r : Str) (v : Nat),v ≤ r.foldl (fun v c => 10 * v + (c.toNat - 48)) v
 | [],v => Nat.le_refl _
 | c :: r,v => by
  rw [List.foldl_cons]
  have := num_ge r (10 * v + (c.toNat - 48))
  omega
theorem numV_le (l r : Str) : numV l ≤ numV (l ++ r) := by
 unfold numV
 rw [List.foldl_append]
 exact num_ge r _
theorem numV_take (t : Str) (i : Nat) : numV (t.take i) ≤ numV t := by
 have h := numV_le (t.take i) (t.drop i)
 rw [List.take_append_drop] at h
 exact h
theorem numV_step {t : Str} {i : Nat} {c : UInt8} (h : t[i]? = some c) : numV (t.take (i + 1)) = 10 * numV (t.take i) + (c.toNat - 48) := by
 rw [List.take_succ,h]
 exact numV_app _ _
theorem numV_zero : numV [] = 0 := rfl
def toks (o : Nat) (m : Str) : List Tk := tokF (m.length + 1) o m
def skipN (m : Str) : Nat := m.length - (skipS false m).length
theorem skipN_le (m : Str) : skipN m ≤ m.length := Nat.sub_le _ _
theorem drop_skipN (m : Str) : m.drop (skipN m) = skipS false m := skipS_drop false m
theorem toks_nil (o : Nat) : toks o [] = [] := tokF_nil _ _
theorem toks_cons {o : Nat} {m : Str} (h : m ≠ []) : toks o m = ⟨(readK m).1,m.take (readK m).2,o⟩ :: toks (o + (readK m).2 + skipN (m.drop (readK m).2)) (m.drop ((readK m).2 + skipN (m.drop (readK m).2))) := by
 have hr := readK_bnd h
 have hs := skipS_len false (m.drop (readK m).2)
 rw [List.length_drop] at hs
 unfold toks
 rw [tokF_step h,← List.drop_drop,drop_skipN]
 have e : o + (readK m).2 + skipN (m.drop (readK m).2) = o + (m.length - (skipS false (m.drop (readK m).2)).length) := by
  unfold skipN
  rw [List.length_drop]
  omega
 rw [e,tokF_more _ _ _ _ _ (Nat.lt_succ_self _)]
 omega
theorem lexR_toks (s : Str) : lexR s = toks (skipN s) (s.drop (skipN s)) := by
 unfold toks lexR
 rw [drop_skipN]
 have hs := skipS_len false s
 exact tokF_more _ _ _ _ (by omega) (by omega)
theorem tokF_len : ∀ (f o : Nat) (m : Str),(tokF f o m).length ≤ m.length
 | 0,_,_ => by rw [tokF];simp
 | f + 1,o,m => by
  by_cases h0 : m = []
  ·subst h0;rw [tokF_nil];simp
  ·have hr := readK_bnd h0
   have hs := skipS_len false (m.drop (readK m).2)
   rw [List.length_drop] at hs
   rw [tokF_step h0,List.length_cons]
   have := tokF_len f (o + (m.length - (skipS false (m.drop (readK m).2)).length)) (skipS false (m.drop (readK m).2))
   omega
theorem lexR_len (s : Str) : (lexR s).length ≤ s.length := Nat.le_trans (tokF_len _ _ _) (skipS_len false s)
def gX (lv : Nat) : Pz Ex := pX lv
def gL (lv : Nat) (a : Ex) : Pz Ex := pL lv a
def Sg.mu (s : Sg) : Nat := if s.e = 0 then s.r.length + 1 else 0
theorem Sg.mu_er {s : Sg} (h : s.e ≠ 0) : s.mu = 0 := by unfold Sg.mu;rw [if_neg h]
theorem mu_up {α : Type} {n : Nat} {g : Pz α} {s : Sg} (h : Shr g) (hz : Cz g) : (up n g s).mu ≤ s.mu := by
 by_cases h0 : s.e = 0
 ·cases hg : g s.r with
  | er r c => rw [Sg.mu_er (up_ne hz hg h0)];exact Nat.zero_le _
  | ok a r =>
   have := h _ _ _ hg
   unfold up
   rw [if_pos h0,hg]
   unfold Sg.mu
   simp only [h0,if_true]
   omega
 ·rw [up_er h0]
  exact Nat.le_refl _
theorem mu_tl {w : Str} {s : Sg} (h : ac w s = true) : s.tl.mu < s.mu := by
 obtain ⟨h0,h1⟩ := ac_e h
 have := isT_ne h1
 unfold Sg.mu Sg.tl
 simp only [h0,if_true]
 omega
theorem Cz.ex (lv : Nat) : Cz (gX lv) := by
 have prim : ∀ rec : List Tk → Rs Ex,(∀ r r' c,rec r = .er r' c → c ≠ 0) → ∀ r r' c,primE rec r = .er r' c → c ≠ 0 := by
  intro rec hr r r' c e
  have nd : ∀ {α : Type} (w : Str) (r : List Tk) (f : List Tk → Rs α),(∀ r r' c,f r = .er r' c → c ≠ 0) → ∀ r' c,needT w r f = .er r' c → c ≠ 0 := by
   intro α w r f hf r' c e
   unfold needT at e
   split at e
   ·exact hf _ _ _ e
   ·injection e with _ e;omega
  have nm : ∀ {α : Type} (r : List Tk) (f : Str → List Tk → Rs α),(∀ s r r' c,f s r = .er r' c → c ≠ 0) → ∀ r' c,nameT r f = .er r' c → c ≠ 0 := by
   intro α r f hf r' c e
   unfold nameT at e
   split at e
   ·injection e with _ e;omega
   ·split at e
    ·exact hf _ _ _ _ e
    ·injection e with _ e;omega
  have rb : ∀ (r : List Tk) (f : Ex → List Tk → Rs Ex),(∀ x r r' c,f x r = .er r' c → c ≠ 0) → ∀ r' c,(rec r).bind f = .er r' c → c ≠ 0 := by
   intro r f hf r' c e
   rcases Rs.bind_er e with e | ⟨a,q,_,e⟩
   ·exact hr _ _ _ e
   ·exact hf _ _ _ _ e
  unfold primE at e
  split at e
  ·injection e with _ e;omega
  ·split at e
   ·split at e
    ·cases e
    ·injection e with _ e;omega
   split at e
   ·cases e
   split at e
   ·cases e
   split at e
   ·cases e
   split at e
   ·exact nm _ _ (fun s r r' c e => by cases e) _ _ e
   split at e
   ·exact rb _ _ (fun x r r' c e => nd _ _ _ (fun r r' c e => by cases e) _ _ e) _ _ e
   split at e
   ·exact nm _ _ (fun s r r' c e => nd _ _ _ (fun r r' c e => rb _ _ (fun x r r' c e => nd _ _ _ (fun r r' c e => by cases e) _ _ e) _ _ e) _ _ e) _ _ e
   split at e
   ·split at e
    ·exact rb _ _ (fun x r r' c e => nd _ _ _ (fun r r' c e => by cases e) _ _ e) _ _ e
    ·cases e
   ·injection e with _ e;omega
 have key : ∀ f,(∀ lv r r' c,pE f (.ex lv) r = .er r' c → c ≠ 0) ∧ (∀ lv a r r' c,pE f (.lp lv a) r = .er r' c → c ≠ 0) := by
  intro f
  induction f with
  | zero => exact ⟨fun lv r r' c e => by unfold pE at e;injection e with _ e;omega,fun lv a r r' c e => by unfold pE at e;injection e with _ e;omega⟩
  | succ f ih =>
   obtain ⟨ih1,ih2⟩ := ih
   refine ⟨fun lv r r' c e => ?_,fun lv a r r' c e => ?_⟩
   ·rw [pE_ex] at e
    split at e
    ·rcases Rs.bind_er e with e | ⟨a,q,_,e⟩
     ·exact ih1 _ _ _ _ e
     ·exact ih2 _ _ _ _ _ e
    split at e
    ·rcases Rs.bind_er e with e | ⟨a,q,_,e⟩
     ·exact ih1 _ _ _ _ e
     ·cases e
    split at e
    ·rcases Rs.bind_er e with e | ⟨a,q,_,e⟩
     ·exact ih1 _ _ _ _ e
     ·cases e
    ·exact prim _ (fun r r' c e => ih1 _ _ _ _ e) _ _ _ e
   ·rw [pE_lp] at e
    split at e
    ·cases e
    ·rcases Rs.bind_er e with e | ⟨b,q,_,e⟩
     ·exact ih1 _ _ _ _ e
     ·split at e
      ·cases e
      ·exact ih2 _ _ _ _ _ e
 exact fun r r' c e => (key _).1 _ _ _ _ e
theorem Shs.gx (lv : Nat) : Shs (gX lv) := fun r a r' e => (pE_len _).1 _ _ _ _ e
theorem gX_low {lv : Nat} (h : lv < 5) : gX lv = gBind (gX (lv + 1)) (gL lv) := funext fun _ => pX_low h
theorem gX_un : gX 5 = gAlt [45] (gBind (gX 5) fun x => gPure (opE 9 [x])) (gAlt [110,111,116] (gBind (gX 5) fun x => gPure (opE 10 [x])) (primE (gX 0))) := funext fun _ => pX_un
def opS (lv : Nat) (s : Sg) : Option UInt8 := if s.e = 0 then opAt lv s.r else none
theorem up_lpN {n lv : Nat} {a : Ex} {s : Sg} (h : opS lv s = none) : up n (gL lv a) s = s ∧ vl (gL lv a) s a := by
 by_cases h0 : s.e = 0
 ·unfold opS at h
  rw [if_pos h0] at h
  refine ⟨?_,fun _ b r e => ?_⟩
  ·unfold up gL
   rw [if_pos h0,pL_none h]
  ·unfold gL at e
   rw [pL_none h] at e
   injection e
 ·exact ⟨up_er h0,vl_er h0⟩
def gK (lv : Nat) (op : UInt8) (a : Ex) (b : Ex) : Pz Ex := if lv = 2 then gPure (opE op [a,b]) else gL lv (opE op [a,b])
theorem lpS {lv : Nat} {a : Ex} {s : Sg} {op : UInt8} (hl : lv ≤ 4) (h : opS lv s = some op) : s.e = 0 ∧ gL lv a s.r = gBind (gX (lv + 1)) (gK lv op a) s.tl.r := by
 unfold opS at h
 by_cases h0 : s.e = 0
 ·rw [if_pos h0] at h
  refine ⟨h0,?_⟩
  show pL lv a s.r = _
  rw [pL_some hl h]
  refine Rs.bind_congr rfl fun b q _ => ?_
  unfold gK
  split <;> rfl
 ·rw [if_neg h0] at h
  cases h
theorem up_lpS {n lv : Nat} {a : Ex} {s : Sg} {op : UInt8} (hl : lv ≤ 4) (h : opS lv s = some op) : up n (gL lv a) s = up n (gBind (gX (lv + 1)) (gK lv op a)) s.tl := by
 obtain ⟨h0,h1⟩ := lpS (a := a) hl h
 unfold up
 rw [if_pos h0,h1,if_pos (show s.tl.e = 0 from h0)]
 rfl
theorem vl_lpS {lv : Nat} {a x : Ex} {s : Sg} {op : UInt8} (hl : lv ≤ 4) (h : opS lv s = some op) (hx : vl (gBind (gX (lv + 1)) (gK lv op a)) s.tl x) : vl (gL lv a) s x := by
 obtain ⟨h0,h1⟩ := lpS (a := a) hl h
 intro _ b r e
 rw [h1] at e
 exact hx h0 b r e
def gKey (op : UInt8) (nm : Str) : Pz Ex := gBind (gX 0) fun x => gBind (gNd [93]) fun _ => gPure (.mk op nm 0 [x])
def gNum : Pz Ex := gBind gNu fun v => gPure (.mk 1 [] v [])
def gNam : Pz Ex := gBind gNm fun s => gAlt [91] (gKey 6 s) (gPure (.mk 5 s 0 []))
def isNum : List Tk → Bool
 | [] => false
 | t :: _ => decide (t.k = 3)
def gLast : Pz Ex := fun r => if isNum r then gNum r else gNam r
def gPrim : Pz Ex :=
 gAlt [116,114,117,101] (gPure (opE 2 []))<|gAlt [102,97,108,115,101] (gPure (opE 3 []))<|gAlt [110,111,119] (gPure (opE 4 []))<|gAlt [115,105,122,101] (gBind gNm fun s => gPure (.mk 8 s 0 []))<|gAlt [104,97,115] (gBind gNm fun s => gBind (gNd [91]) fun _ => gKey 7 s)<|gAlt [40] (gBind (gX 0) fun x => gBind (gNd [41]) fun _ => gPure x) gLast
theorem nameT_eq {α : Type} (r : List Tk) (f : Str → Pz α) : (nameT r fun s q => f s q) = gBind gNm f r := by
 unfold nameT gBind gNm
 cases r with
 | nil => rfl
 | cons t q =>
  simp only
  split <;> rfl
theorem needT_eq {α : Type} (w : Str) (r : List Tk) (f : Pz α) : (needT w r fun q => f q) = gBind (gNd w) (fun _ => f) r := by
 unfold needT gBind gNd
 split <;> rfl
theorem isT_k {w : Str} {t : Tk} {q : List Tk} (h : isT w (t :: q) = true) : (t.k = 2 ∨ t.k = 4) ∧ t.t = w := by
 unfold isT at h
 rw [Bool.and_eq_true,decide_eq_true_eq,Bool.or_eq_true,beq_iff_eq,beq_iff_eq] at h
 exact h
theorem isT_k3 {w : Str} {t : Tk} {q : List Tk} (h : t.k = 3) : isT w (t :: q) = false := by
 cases e : isT w (t :: q) with
 | false => rfl
 | true =>
  have := (isT_k e).1
  rw [h] at this
  revert this
  decide
theorem prim_eq : primE (gX 0) = gPrim := funext fun r => by
 cases r with
 | nil => rfl
 | cons t q =>
  by_cases h3 : t.k = 3
  ·have e : gPrim (t :: q) = gNum (t :: q) := by
    unfold gPrim gAlt gLast isNum
    simp only [isT_k3 h3,Bool.false_eq_true,if_false,h3,decide_true,if_true]
   rw [e]
   unfold primE gNum gBind gNu
   simp only [h3,if_true]
   split <;> rfl
  ·have hl : gLast (t :: q) = gNam (t :: q) := by
    unfold gLast isNum
    simp only [h3,decide_false,Bool.false_eq_true,if_false]
   unfold primE
   simp only [h3,if_false]
   unfold gPrim gAlt
   refine ifC rfl (ifC rfl (ifC rfl (ifC ?_ ?_)))
   ·exact nameT_eq q fun s => gPure _
   by_cases hp : isT [40] (t :: q) = true
   ·have hn : isT [104,97,115] (t :: q) = false := by
     cases e : isT [104,97,115] (t :: q) with
     | false => rfl
     | true =>
      have h1 := (isT_k hp).2
      have h2 := (isT_k e).2
      rw [h1] at h2
      revert h2
      decide
    simp only [hp,hn,if_true,Bool.false_eq_true,if_false]
    refine Rs.bind_congr rfl fun x r2 _ => ?_
    exact needT_eq [41] r2 (gPure x)
   ·simp only [hp,Bool.false_eq_true,if_false]
    refine ifC ?_ ?_
    ·rw [List.tail_cons,← nameT_eq]
     unfold nameT
     cases q with
     | nil => rfl
     | cons t2 q2 =>
      simp only
      refine ifC ?_ rfl
      rw [← needT_eq]
      unfold needT
      refine ifC ?_ rfl
      refine Rs.bind_congr rfl fun x r4 _ => ?_
      exact needT_eq [93] r4 (gPure _)
    ·rw [hl]
     unfold gNam gBind gNm
     simp only
     by_cases h1 : t.k = 1
     ·simp only [h1,if_true]
      show _ = gAlt [91] (gKey 6 t.t) (gPure (.mk 5 t.t 0 [])) q
      unfold gAlt
      refine ifC ?_ rfl
      refine Rs.bind_congr rfl fun x r4 _ => ?_
      exact needT_eq [93] r4 (gPure _)
     ·simp only [h1,if_false]
      rfl
section
variable {α β : Type}
theorem up_map {n : Nat} {g : Pz α} {f : α → β} {s : Sg} : up n (gBind g fun a => gPure (f a)) s = up n g s := by
 unfold up gBind gPure
 by_cases h0 : s.e = 0
 ·simp only [h0,if_true]
  cases g s.r <;> rfl
 ·simp only [h0,if_false]
theorem vl_map {g : Pz α} {f : α → β} {s : Sg} {x : α} (h : vl g s x) : vl (gBind g fun a => gPure (f a)) s (f x) := by
 intro h0 b r e
 obtain ⟨a,q,h1,h2⟩ := Rs.bind_ok e
 obtain rfl := h h0 a q h1
 injection h2
theorem ac_ne {w w' : Str} {s : Sg} (h : ac w s = true) (hne : w ≠ w') : ac w' s = false := by
 cases e : ac w' s with
 | false => rfl
 | true =>
  have h1 := (ac_e h).2
  have h2 := (ac_e e).2
  cases hr : s.r with
  | nil => rw [hr] at h1;cases h1
  | cons t q =>
   rw [hr] at h1 h2
   exact absurd ((isT_k h1).2.symm.trans (isT_k h2).2) hne
theorem many_T {n : Nat} {w : Str} {p : Pz α} {s : Sg} {x : α} (hp : Shr p) (hz : Cz p) (h : ac w s = true) (hx : vl p s.tl x) : up n (gMany w p) s = up n (gMany w p) (up n p s.tl) := by
 conv => lhs;rw [gMany_eq hp]
 rw [up_altT h,up_bind hz hx,up_map]
theorem many_Tv {n : Nat} {w : Str} {p : Pz α} {s : Sg} {x : α} {l : List α} (hp : Shr p) (h : ac w s = true) (hx : vl p s.tl x) (hl : vl (gMany w p) (up n p s.tl) l) : vl (gMany w p) s (x :: l) := by
 rw [gMany_eq hp]
 exact vl_altT h (vl_bind hx (vl_map hl))
theorem many_F {n : Nat} {w : Str} {p : Pz α} {s : Sg} (hp : Shr p) (h : ac w s = false) : up n (gMany w p) s = s := by
 rw [gMany_eq hp,up_altF h,up_pure]
theorem many_Fv {w : Str} {p : Pz α} {s : Sg} (hp : Shr p) (h : ac w s = false) : vl (gMany w p) s [] := by
 rw [gMany_eq hp]
 exact vl_altF h vl_pure
end
theorem Cz.st {b : Pz (List Sm)} (h : Cz b) : Cz (gSt b) := by
 have hx : Cz gEx := Cz.ex 0
 have blk : Cz (gBlk b) := .bind (.nd _) fun _ => .bind h fun _ => .bind (.nd _) fun _ => .pure _
 have els : Cz (gEls b) := .alt blk (.pure _)
 have oth : Cz (gOth b) := .alt blk (.bind (.nd _) fun _ => .pure _)
 have lst : Cz (gList gEx) := .bind (.nd _) fun _ => .alt (.pure _) (.bind hx fun _ => .bind (.many hx) fun _ => .bind (.nd _) fun _ => .pure _)
 exact .alt (.bind hx fun _ => .bind blk fun _ => .bind els fun _ => .pure _)<|.alt (.bind hx fun _ => .bind blk fun _ => .pure _)<|.alt (.bind hx fun _ => .bind (.nd _) fun _ => .bind hx fun _ => .bind oth fun _ => .pure _)<|.alt (.bind .nm fun _ => .bind (.nd _) fun _ => .bind hx fun _ => .bind oth fun _ => .pure _)<|.alt (.bind .nm fun _ => .bind (.nd _) fun _ => .bind .nm fun _ => .bind lst fun _ => .bind (.nd _) fun _ => .pure _)<|.alt (.bind hx fun _ => .bind (.nd _) fun _ => .bind .nm fun _ => .bind lst fun _ => .bind (.nd _) fun _ => .pure _)<|.alt (.bind (.nd _) fun _ => .pure _)<|.alt (.bind .nm fun _ => .bind (.nd _) fun _ => .bind hx fun _ => .bind (.nd _) fun _ => .bind (.nd _) fun _ => .pure _)<|.bind .nm fun _ => .alt (.bind hx fun _ => .bind (.nd _) fun _ => .bind (.nd _) fun _ => .bind hx fun _ => .bind (.nd _) fun _ => .pure _)
  (.bind (.nd _) fun _ => .bind hx fun _ => .bind (.nd _) fun _ => .pure _)
theorem Cz.bF : ∀ f,Cz (gBF f)
 | 0 => fun r r' c e => by unfold gBF at e;injection e with _ e;omega
 | f + 1 => fun r r' c e => by
  unfold gBF at e
  split at e
  ·cases e
  ·rcases Rs.bind_er e with e | ⟨a,q,_,e⟩
   ·exact Cz.st (Cz.bF f) _ _ _ e
   ·rcases Rs.bind_er e with e | ⟨l,q2,_,e⟩
    ·exact Cz.bF f _ _ _ e
    ·cases e
theorem Cz.b : Cz gB := fun r r' c e => Cz.bF _ _ _ _ e
def goB (s : Sg) : Bool := decide (s.e = 0) && !isT [125] s.r
theorem goB_F {n : Nat} {s : Sg} (h : goB s = false) : up n gB s = s ∧ vl gB s [] := by
 by_cases h0 : s.e = 0
 ·have h1 : isT [125] s.r = true := by
   unfold goB at h
   rw [decide_eq_true h0,Bool.true_and] at h
   simpa using h
  have e : gB s.r = .ok [] s.r := by rw [gB_eq,if_pos h1]
  refine ⟨?_,fun _ b r e2 => ?_⟩
  ·unfold up
   rw [if_pos h0,e]
  ·rw [e] at e2
   injection e2
 ·exact ⟨up_er h0,vl_er h0⟩
theorem goB_e {s : Sg} (h : goB s = true) : s.e = 0 ∧ gB s.r = gBind (gSt gB) (fun a => gBind gB fun l => gPure (a :: l)) s.r := by
 unfold goB at h
 rw [Bool.and_eq_true,decide_eq_true_eq] at h
 refine ⟨h.1,?_⟩
 rw [gB_eq,if_neg (by simpa using h.2)]
 rfl
theorem goB_T {n : Nat} {s : Sg} {x : Sm} (h : goB s = true) (hx : vl (gSt gB) s x) : up n gB s = up n gB (up n (gSt gB) s) := by
 obtain ⟨h0,h1⟩ := goB_e h
 have e : up n gB s = up n (gBind (gSt gB) (fun a => gBind gB fun l => gPure (a :: l))) s := by
  unfold up
  rw [if_pos h0,if_pos h0,h1]
 rw [e,up_bind (Cz.st Cz.b) hx,up_map]
theorem goB_Tv {n : Nat} {s : Sg} {x : Sm} {l : List Sm} (h : goB s = true) (hx : vl (gSt gB) s x) (hl : vl gB (up n (gSt gB) s) l) : vl gB s (x :: l) := by
 obtain ⟨h0,h1⟩ := goB_e h
 have e : vl (gBind (gSt gB) (fun a => gBind gB fun l => gPure (a :: l))) s (x :: l) := vl_bind hx (vl_map hl)
 intro _ b r e2
 rw [h1] at e2
 exact e h0 b r e2
section
variable {α : Type}
theorem Cz.blk : Cz (gBlk gB) := .bind (.nd _) fun _ => .bind Cz.b fun _ => .bind (.nd _) fun _ => .pure _
theorem Cz.list {p : Pz α} (h : Cz p) : Cz (gList p) := .bind (.nd _) fun _ => .alt (.pure _) (.bind h fun _ => .bind (.many h) fun _ => .bind (.nd _) fun _ => .pure _)
theorem Cz.tr : Cz gTr := .alt (.pure _) (.bind (.nd _) fun _ => .pure _)
theorem Cz.fg : Cz gFg := .bind .nm fun _ => .bind (.nd _) fun _ => .bind .tr fun _ => .bind (.nd _) fun _ => .pure _
theorem Cz.lk : Cz gLk := .bind .nm fun _ => .bind (.nd _) fun _ => .bind .nm fun _ => .bind (.nd _) fun _ => .bind .nu fun _ => .bind (.nd _) fun _ => .pure _
theorem Cz.int : Cz gInt := .alt (.bind .nu fun _ => .pure _) .nu
theorem Cz.vr : Cz gVr := .bind .nm fun _ => .bind (.nd _) fun _ => .alt (.bind (.nd _) fun _ => .bind .int fun _ => .bind (.nd _) fun _ => .pure _)<|.alt (.bind (.nd _) fun _ => .bind .tr fun _ => .bind (.nd _) fun _ => .pure _)<|.bind (.nd _) fun _ => .bind (.nd _) fun _ => .pure _
theorem Cz.hd : Cz gHd := .bind .nm fun _ => .bind (.list .nm) fun _ => .bind .blk fun _ => .pure _
theorem Cz.vs : Cz gVs := .many .hd
theorem Cz.vn (w : Str) : Cz (gVn w) := .bind (.nn _) fun _ => .bind (.nd _) fun _ => .bind .vs fun _ => .bind (.nd _) fun _ => .pure _
theorem Cz.vm : Cz gVm := .alt (.bind (.vn _) fun _ => .alt (.bind (.vn _) fun _ => .pure _) (.pure _)) (.pure _)
theorem Cz.cp : Cz gCp := .bind .nm fun _ => .bind (.nd _) fun _ => .bind (.many .vr) fun _ => .bind .vs fun _ => .bind .vm fun _ => .bind (.nd _) fun _ => .pure _
theorem Cz.ft : Cz gFt := .bind (.nd _) fun _ => .bind .nm fun _ => .bind (.nd _) fun _ => .bind (.many .fg) fun _ => .bind (.many .lk) fun _ => .bind (.many .cp) fun _ => .bind (.nd _) fun _ => .pure _
end
theorem Shr.int : Shr gInt := .alt (.bind Shs.nu.le fun _ => .pure _) Shs.nu.le
def Sg.cl (n : Nat) (s : Sg) : Sg := if s.r = [] then s else s.fail n 8
def sg0 (t : Str) : Sg := if 20000 < t.length then ⟨[],3,0⟩ else ⟨lexR t,0,0⟩
def sgZ {α : Type} (g : Pz α) (t : Str) : Sg := (up t.length g (sg0 t)).cl t.length
theorem sgZ_ok {α : Type} {g : Pz α} {t : Str} {x y : α} (hx : vl g (sg0 t) x) (hy : vl g (sg0 t) y) (hz : Cz g) (h : (sgZ g t).e = 0) : x = y := by
 have h0 : (sg0 t).e = 0 := by
  by_cases k : (sg0 t).e = 0
  ·exact k
  ·unfold sgZ at h
   rw [up_er k] at h
   unfold Sg.cl at h
   split at h
   ·exact h
   ·unfold Sg.fail at h
    rw [if_neg k] at h
    exact h
 cases hg : g (sg0 t).r with
 | ok a r => rw [hx h0 a r hg,hy h0 a r hg]
 | er r c =>
  have k := up_ne (n := t.length) hz hg h0
  unfold sgZ Sg.cl at h
  split at h
  ·exact absurd h k
  ·unfold Sg.fail at h
   rw [if_neg k] at h
   exact absurd h k
def Suf {α : Type} (g : Pz α) : Prop := ∀ r,(∀ a r',g r = .ok a r' → r' <:+ r) ∧ (∀ r' c,g r = .er r' c → r' <:+ r)
section
variable {α β : Type}
theorem Suf.bind {g : Pz α} {f : α → Pz β} (h : Suf g) (k : ∀ a,Suf (f a)) : Suf (gBind g f) := fun r => by
 refine ⟨fun b r' e => ?_,fun r' c e => ?_⟩
 ·obtain ⟨a,q,h1,h2⟩ := Rs.bind_ok e
  exact ((k a q).1 _ _ h2).trans ((h r).1 _ _ h1)
 ·rcases Rs.bind_er e with e | ⟨a,q,h1,h2⟩
  ·exact (h r).2 _ _ e
  ·exact ((k a q).2 _ _ h2).trans ((h r).1 _ _ h1)
theorem Suf.pure (a : α) : Suf (gPure a) := fun r => ⟨fun b r' e => by injection e with _ e;rw [e];exact List.suffix_refl _,fun r' c e => by cases e⟩
theorem Suf.alt {w : Str} {p q : Pz α} (h : Suf p) (k : Suf q) : Suf (gAlt w p q) := fun r => by
 refine ⟨fun b r' e => ?_,fun r' c e => ?_⟩
 ·unfold gAlt at e
  split at e
  ·exact ((h _).1 _ _ e).trans (List.tail_suffix r)
  ·exact (k _).1 _ _ e
 ·unfold gAlt at e
  split at e
  ·exact ((h _).2 _ _ e).trans (List.tail_suffix r)
  ·exact (k _).2 _ _ e
theorem Suf.nd (w : Str) : Suf (gNd w) := fun r => by
 refine ⟨fun b r' e => ?_,fun r' c e => ?_⟩
 ·unfold gNd at e
  split at e
  ·injection e with _ e;subst e;exact List.tail_suffix r
  ·cases e
 ·unfold gNd at e
  split at e
  ·cases e
  ·injection e with e _;subst e;exact List.suffix_refl _
theorem Suf.nn (w : Str) : Suf (gNn w) := fun r => by
 refine ⟨fun b r' e => ?_,fun r' c e => ?_⟩
 ·unfold gNn at e
  split at e
  ·injection e with _ e;subst e;exact List.tail_suffix r
  ·cases e
 ·unfold gNn at e
  split at e
  ·cases e
  ·injection e with e _;subst e;exact List.suffix_refl _
theorem Suf.nm : Suf gNm := fun r => by
 refine ⟨fun b r' e => ?_,fun r' c e => ?_⟩
 ·unfold gNm at e
  split at e
  ·cases e
  ·split at e
   ·injection e with _ e;subst e;exact List.suffix_cons _ _
   ·cases e
 ·unfold gNm at e
  split at e
  ·injection e with e _;subst e;exact List.suffix_refl _
  ·split at e
   ·cases e
   ·injection e with e _;subst e;exact List.suffix_refl _
theorem Suf.nu : Suf gNu := fun r => by
 refine ⟨fun b r' e => ?_,fun r' c e => ?_⟩
 ·unfold gNu at e
  split at e
  ·cases e
  ·split at e
   ·split at e
    ·injection e with _ e;subst e;exact List.suffix_cons _ _
    ·cases e
   ·cases e
 ·unfold gNu at e
  split at e
  ·injection e with e _;subst e;exact List.suffix_refl _
  ·split at e
   ·split at e
    ·cases e
    ·injection e with e _;subst e;exact List.suffix_refl _
   ·injection e with e _;subst e;exact List.suffix_refl _
theorem Suf.manyF {w : Str} {p : Pz α} (h : Suf p) : ∀ f,Suf (gManyF w p f)
 | 0 => fun r => ⟨fun b r' e => (by unfold gManyF at e;cases e),fun r' c e => (by unfold gManyF at e;injection e with e _;subst e;exact List.suffix_refl _)⟩
 | f + 1 => .alt (.bind h fun _ => .bind (Suf.manyF h f) fun _ => .pure _) (.pure _)
theorem Suf.many {w : Str} {p : Pz α} (h : Suf p) : Suf (gMany w p) := fun r => Suf.manyF h _ r
theorem Suf.up {g : Pz α} {n : Nat} {s : Sg} {ts : List Tk} (h : Suf g) (hs : s.r <:+ ts) : (up n g s).r <:+ ts := by
 unfold Go.Proofs.YthhoebdlfjffkaaGreatDoor.up
 split
 ·cases e : g s.r with
  | ok a r => exact ((h _).1 _ _ e).trans hs
  | er r c => exact ((h _).2 _ _ e).trans hs
 ·exact hs
theorem Suf.tl {s : Sg} {ts : List Tk} (hs : s.r <:+ ts) : s.tl.r <:+ ts := (List.tail_suffix s.r).trans hs
end
theorem Suf.ex (lv : Nat) : Suf (gX lv) := by
 have st : ∀ (r : List Tk),r.tail <:+ r := List.tail_suffix
 have prim : ∀ rec : List Tk → Rs Ex,Suf rec → Suf (primE rec) := by
  intro rec hr r
  refine ⟨fun a r' e => ?_,fun r' c e => ?_⟩
  ·unfold primE at e
   split at e
   ·cases e
   ·rename_i t q
    have fin : ∀ {b : Ex} {l : List Tk},(Rs.ok b l : Rs Ex) = .ok a r' → l <:+ q → r' <:+ (t :: q) := by
     intro b l e hl;injection e with _ e;subst e;exact hl.trans (List.suffix_cons _ _)
    split at e
    ·split at e
     ·exact fin e (List.suffix_refl _)
     ·cases e
    split at e
    ·exact fin e (List.suffix_refl _)
    split at e
    ·exact fin e (List.suffix_refl _)
    split at e
    ·exact fin e (List.suffix_refl _)
    split at e
    ·obtain ⟨t2,r2,rfl,_,e⟩ := nameT_ok e
     exact fin e (List.suffix_cons _ _)
    split at e
    ·obtain ⟨x,r2,h1,e⟩ := Rs.bind_ok e
     obtain ⟨_,e⟩ := needT_ok e
     exact fin e ((st _).trans ((hr _).1 _ _ h1))
    split at e
    ·obtain ⟨t2,r2,rfl,_,e⟩ := nameT_ok e
     obtain ⟨_,e⟩ := needT_ok e
     obtain ⟨x,r4,h1,e⟩ := Rs.bind_ok e
     obtain ⟨_,e⟩ := needT_ok e
     exact fin e ((st _).trans (((hr _).1 _ _ h1).trans ((st _).trans (List.suffix_cons _ _))))
    split at e
    ·split at e
     ·obtain ⟨x,r4,h1,e⟩ := Rs.bind_ok e
      obtain ⟨_,e⟩ := needT_ok e
      exact fin e ((st _).trans (((hr _).1 _ _ h1).trans (st _)))
     ·exact fin e (List.suffix_refl _)
    ·cases e
  ·unfold primE at e
   split at e
   ·injection e with e _;subst e;exact List.suffix_refl _
   ·rename_i t q
    have q0 : q <:+ (t :: q) := List.suffix_cons _ _
    have nd : ∀ {w : Str} {z : List Tk} {f : List Tk → Rs Ex},needT w z f = .er r' c → z <:+ (t :: q) → (∀ y,y <:+ (t :: q) → f y = .er r' c → r' <:+ (t :: q)) → r' <:+ (t :: q) := by
     intro w z f e hz hf
     unfold needT at e
     split at e
     ·exact hf _ ((st _).trans hz) e
     ·injection e with e _;subst e;exact hz
    have nm : ∀ {z : List Tk} {f : Str → List Tk → Rs Ex},nameT z f = .er r' c → z <:+ (t :: q) → (∀ x y,y <:+ (t :: q) → f x y = .er r' c → r' <:+ (t :: q)) → r' <:+ (t :: q) := by
     intro z f e hz hf
     unfold nameT at e
     split at e
     ·injection e with e _;subst e;exact hz
     ·split at e
      ·exact hf _ _ ((List.suffix_cons _ _).trans hz) e
      ·injection e with e _;subst e;exact hz
    have rb : ∀ {z : List Tk} {f : Ex → List Tk → Rs Ex},(rec z).bind f = .er r' c → z <:+ (t :: q) → (∀ x y,y <:+ (t :: q) → f x y = .er r' c → r' <:+ (t :: q)) → r' <:+ (t :: q) := by
     intro z f e hz hf
     rcases Rs.bind_er e with e | ⟨a,y,h1,e⟩
     ·exact ((hr _).2 _ _ e).trans hz
     ·exact hf _ _ (((hr _).1 _ _ h1).trans hz) e
    split at e
    ·split at e
     ·cases e
     ·injection e with e _;subst e;exact List.suffix_refl _
    split at e
    ·cases e
    split at e
    ·cases e
    split at e
    ·cases e
    split at e
    ·exact nm e q0 fun _ _ _ e => by cases e
    split at e
    ·exact rb e q0 fun _ _ hy e => nd e hy fun _ _ e => by cases e
    split at e
    ·exact nm e q0 fun _ _ hy e => nd e hy fun _ hy e => rb e hy fun _ _ hy e => nd e hy fun _ _ e => by cases e
    split at e
    ·split at e
     ·exact rb e ((st _).trans q0) fun _ _ hy e => nd e hy fun _ _ e => by cases e
     ·cases e
    ·injection e with e _;subst e;exact List.suffix_refl _
 have key : ∀ f,(∀ lv,Suf (pE f (.ex lv))) ∧ (∀ lv a,Suf (pE f (.lp lv a))) := by
  intro f
  induction f with
  | zero => exact ⟨fun lv r => ⟨fun a r' e => (by unfold pE at e;cases e),fun r' c e => (by unfold pE at e;injection e with e _;subst e;exact List.suffix_refl _)⟩,fun lv a r => ⟨fun a r' e => (by unfold pE at e;cases e),fun r' c e => (by unfold pE at e;injection e with e _;subst e;exact List.suffix_refl _)⟩⟩
  | succ f ih =>
   obtain ⟨ih1,ih2⟩ := ih
   have un : ∀ op,Suf (fun r => (pE f (.ex 5) r.tail).bind fun x r2 => .ok (opE op [x]) r2) := by
    intro op r
    refine ⟨fun a r' e => ?_,fun r' c e => ?_⟩
    ·obtain ⟨x,q,h1,e⟩ := Rs.bind_ok e
     injection e with _ e
     subst e
     exact ((ih1 _ _).1 _ _ h1).trans (st _)
    ·rcases Rs.bind_er e with e | ⟨x,q,_,e⟩
     ·exact ((ih1 _ _).2 _ _ e).trans (st _)
     ·cases e
   refine ⟨fun lv r => ?_,fun lv a r => ?_⟩
   ·rw [pE_ex]
    split
    ·exact Suf.bind (ih1 _) (fun a => ih2 lv a) r
    split
    ·exact un 9 r
    split
    ·exact un 10 r
    ·exact prim _ (ih1 0) r
   ·rw [pE_lp]
    split
    ·exact Suf.pure a r
    ·rename_i op _
     have : Suf (fun q => (pE f (.ex (lv + 1)) q).bind fun b r2 => if lv = 2 then .ok (opE op [a,b]) r2 else pE f (.lp lv (opE op [a,b])) r2) := by
      refine Suf.bind (ih1 _) fun b => ?_
      intro q
      dsimp only
      split
      ·exact Suf.pure _ q
      ·exact ih2 _ _ q
     exact ⟨fun b r' e => ((this r.tail).1 _ _ e).trans (st _),fun r' c e => ((this r.tail).2 _ _ e).trans (st _)⟩
 exact fun r => (key _).1 lv r
def tkH (n : Nat) : List Tk → Tk
 | [] => ⟨0,[],n⟩
 | t :: _ => t
theorem tkH_o (n : Nat) (r : List Tk) : (tkH n r).o = offT n r := by cases r <;> rfl
def tcB (n : Nat) (w : Str) (s : Sg) : Bool := decide (s.e = 0) && decide ((tkH n s.r).t = w)
theorem wd_ne : ∀ w ∈ words ++ symbols,w ≠ [] := by decide +kernel
theorem mem_suf {r ts : List Tk} {P : Tk → Prop} (hg : ∀ t ∈ ts,P t) (hs : r <:+ ts) : ∀ t ∈ r,P t := fun t h => hg t (hs.subset h)
theorem tcB_ac {n : Nat} {w : Str} {s : Sg} {ts : List Tk} (hg : ∀ t ∈ ts,Tkg t) (hs : s.r <:+ ts) (hw : w ∈ words ∨ w ∈ symbols) : tcB n w s = ac w s := by
 unfold tcB ac
 congr 1
 have h := mem_suf hg hs
 cases e : s.r with
 | nil =>
  have := wd_ne w (List.mem_append.2 hw)
  show decide ([] = w) = false
  exact decide_eq_false fun k => this k.symm
 | cons t q =>
  rw [isT_tok (h t (by rw [e];exact List.mem_cons_self ..)) hw]
  rfl
def acS (w : Str) (s : Sg) : Sg := if ac w s then s.tl else s
theorem acS_T {w : Str} {s : Sg} (h : ac w s = true) : acS w s = s.tl := by unfold acS;rw [if_pos h]
theorem acS_F {w : Str} {s : Sg} (h : ac w s = false) : acS w s = s := by unfold acS;rw [if_neg (by rw [h];decide)]
theorem acS_suf {w : Str} {s : Sg} {ts : List Tk} (hs : s.r <:+ ts) : (acS w s).r <:+ ts := by
 unfold acS
 split
 ·exact Suf.tl hs
 ·exact hs
theorem nd_eq {n : Nat} {w : Str} {s : Sg} : up n (gNd w) s = if ac w s then s.tl else s.fail n 8 := by
 split
 ·rename_i h;exact up_ndT h
 ·rename_i h;exact up_ndF (by simpa using h)
theorem nn_eq {n : Nat} {w : Str} {s : Sg} {ts : List Tk} (hg : ∀ t ∈ ts,Tkg t) (hs : s.r <:+ ts) (hw : w = [50] ∨ w = [51]) : up n (gNn w) s = if tcB n w s then s.tl else s.fail n 8 := by
 have h := mem_suf hg hs
 have e1 : isN w s.r = decide ((tkH n s.r).t = w) := by
  cases e : s.r with
  | nil =>
   show false = decide ([] = w)
   exact (decide_eq_false fun k => by rcases hw with rfl | rfl <;> cases k).symm
  | cons t q =>
   rw [isN_tok (h t (by rw [e];exact List.mem_cons_self ..)) hw]
   rfl
 unfold up gNn tcB Sg.fail Sg.tl
 rw [e1]
 by_cases h0 : s.e = 0
 ·cases decide ((tkH n s.r).t = w) <;> simp [h0]
 ·simp [h0]
theorem nm_eq {n : Nat} {s : Sg} : up n gNm s = if s.e = 0 ∧ (tkH n s.r).k = 1 then s.tl else s.fail n 8 := by
 unfold up gNm Sg.fail Sg.tl
 by_cases h0 : s.e = 0
 ·cases e : s.r with
  | nil =>
   have : ¬ ((tkH n []).k = 1) := by show ¬ ((0 : UInt8) = 1);decide
   simp [h0,this]
  | cons t q =>
   have hk : (tkH n (t :: q)).k = t.k := rfl
   by_cases h1 : t.k = 1 <;> simp [h0,hk,h1]
 ·simp [h0]
theorem nm_vl {n : Nat} {s : Sg} : vl gNm s (if s.e = 0 ∧ (tkH n s.r).k = 1 then (tkH n s.r).t else []) := by
 intro h0 a r e
 unfold gNm at e
 cases hr : s.r with
 | nil => rw [hr] at e;cases e
 | cons t q =>
  rw [hr] at e
  have hk : (tkH n (t :: q)).k = t.k := rfl
  by_cases h1 : t.k = 1
  ·simp only [h1,if_true] at e
   injection e with e _
   simp [h0,hk,h1,← e,tkH]
  ·simp only [h1,if_false] at e
   cases e
theorem dep0 {op : UInt8} {nm : Str} {n : Int64} : (Ex.mk op nm n []).depth = 1 := by rw [depth_mk];simp [Ex.deeps]
theorem dep1 {op : UInt8} {nm : Str} {n : Int64} {a : Ex} : (Ex.mk op nm n [a]).depth = a.depth + 1 := by rw [depth_mk];simp [Ex.deeps]
theorem dep2 {op : UInt8} {nm : Str} {n : Int64} {a b : Ex} : (Ex.mk op nm n [a,b]).depth = max a.depth b.depth + 1 := by rw [depth_mk];simp [Ex.deeps]
theorem primE_depth {rec : List Tk → Rs Ex} (hr : ∀ q a r',rec q = .ok a r' → a.depth + r'.length ≤ q.length) {r : List Tk} {a : Ex} {r' : List Tk} (h : primE rec r = .ok a r') : a.depth + r'.length ≤ r.length := by
 unfold primE at h
 cases r with
 | nil => cases h
 | cons t q =>
  simp only at h
  have fin : ∀ {b : Ex} {l : List Tk},(Rs.ok b l : Rs Ex) = .ok a r' → b.depth + l.length ≤ q.length + 1 → a.depth + r'.length ≤ (t :: q).length := by
   intro b l e hl
   injection e with e1 e2
   subst e1
   subst e2
   rw [List.length_cons]
   omega
  split at h
  ·split at h
   ·exact fin h (by rw [dep0];omega)
   ·cases h
  split at h
  ·exact fin h (by unfold opE;rw [dep0];omega)
  split at h
  ·exact fin h (by unfold opE;rw [dep0];omega)
  split at h
  ·exact fin h (by unfold opE;rw [dep0];omega)
  split at h
  ·obtain ⟨t2,r2,rfl,_,h⟩ := nameT_ok h
   exact fin h (by rw [dep0];simp;omega)
  split at h
  ·obtain ⟨x,r2,h1,h⟩ := Rs.bind_ok h
   obtain ⟨h2,h⟩ := needT_ok h
   have := hr _ _ _ h1
   have := isT_ne h2
   exact fin h (by omega)
  split at h
  ·obtain ⟨t2,r2,rfl,_,h⟩ := nameT_ok h
   obtain ⟨h2,h⟩ := needT_ok h
   obtain ⟨x,r4,h1,h⟩ := Rs.bind_ok h
   obtain ⟨h3,h⟩ := needT_ok h
   have := hr _ _ _ h1
   have := isT_ne h2
   have := isT_ne h3
   exact fin h (by rw [dep1];simp;omega)
  split at h
  ·split at h
   ·rename_i h2
    obtain ⟨x,r4,h1,h⟩ := Rs.bind_ok h
    obtain ⟨h3,h⟩ := needT_ok h
    have := hr _ _ _ h1
    have := isT_ne h2
    have := isT_ne h3
    exact fin h (by rw [dep1];omega)
   ·exact fin h (by rw [dep0];omega)
  ·cases h
theorem pE_depth : ∀ f,(∀ lv r a r',pE f (.ex lv) r = .ok a r' → a.depth + r'.length ≤ r.length) ∧ (∀ lv x r a r' K,pE f (.lp lv x) r = .ok a r' → x.depth + r.length ≤ K → a.depth + r'.length ≤ K)
 | 0 => ⟨fun lv r a r' e => (by unfold pE at e;cases e),fun lv x r a r' K e => (by unfold pE at e;cases e)⟩
 | f + 1 => by
  obtain ⟨ih1,ih2⟩ := pE_depth f
  refine ⟨fun lv r a r' h => ?_,fun lv x r a r' K h hK => ?_⟩
  ·rw [pE_ex] at h
   split at h
   ·obtain ⟨b,q,h1,h2⟩ := Rs.bind_ok h
    exact ih2 _ _ _ _ _ _ h2 (ih1 _ _ _ _ h1)
   split at h
   ·rename_i e
    obtain ⟨b,q,h1,h2⟩ := Rs.bind_ok h
    have := ih1 _ _ _ _ h1
    have := isT_ne e
    injection h2 with e1 e2;subst e1;subst e2;unfold opE;rw [dep1];omega
   split at h
   ·rename_i e
    obtain ⟨b,q,h1,h2⟩ := Rs.bind_ok h
    have := ih1 _ _ _ _ h1
    have := isT_ne e
    injection h2 with e1 e2;subst e1;subst e2;unfold opE;rw [dep1];omega
   ·exact primE_depth (fun q b r2 e => ih1 _ _ _ _ e) h
  ·rw [pE_lp] at h
   split at h
   ·injection h with e1 e2;subst e1;subst e2;exact hK
   ·rename_i op e
    obtain ⟨b,q,h1,h2⟩ := Rs.bind_ok h
    have h3 := ih1 _ _ _ _ h1
    have := opAt_ne e
    have h4 : (opE op [x,b]).depth + q.length ≤ K := by unfold opE;rw [dep2];omega
    split at h2
    ·injection h2 with e1 e2;subst e1;subst e2;exact h4
    ·exact ih2 _ _ _ _ _ _ h2 h4
theorem gX_depth {lv : Nat} {r r' : List Tk} {a : Ex} (h : gX lv r = .ok a r') : a.depth + r'.length ≤ r.length := (pE_depth _).1 _ _ _ _ h
theorem vl_depth {t : Str} {x : Ex} (hx : vl (gX 0) (sg0 t) x) (h : (sgZ (gX 0) t).e = 0) : x.depth ≤ 20000 := by
 have h0 : (sg0 t).e = 0 := by
  by_cases k : (sg0 t).e = 0
  ·exact k
  ·unfold sgZ at h
   rw [up_er k] at h
   unfold Sg.cl at h
   split at h
   ·exact h
   ·unfold Sg.fail at h
    rw [if_neg k] at h
    exact h
 cases hg : gX 0 (sg0 t).r with
 | er r c =>
  have k := up_ne (n := t.length) (Cz.ex 0) hg h0
  unfold sgZ Sg.cl at h
  split at h
  ·exact absurd h k
  ·unfold Sg.fail at h
   rw [if_neg k] at h
   exact absurd h k
 | ok a r =>
  have := gX_depth hg
  rw [hx h0 a r hg]
  have hl : (sg0 t).r.length ≤ 20000 := by
   unfold sg0
   split
   ·simp
   ·have := lexR_len t
    show (lexR t).length ≤ 20000
    omega
  omega
end Go.Proofs.YthhoebdlfjffkaaGreatDoor
namespace Go.Sx
open Go.RowKit Go.Par
inductive Ty where
 | int (k : IntKind)
 | bool
 | strg
 | seq (τ : Ty)
 | str (fs : List Ty)
 | arr (n : Nat) (τ : Ty)
mutual
def Ty.cells : Ty → Nat
 | .int _ => 1
 | .bool => 1
 | .strg => 1
 | .seq _ => 1
 | .str fs => Ty.cellsL fs
 | .arr n τ => n * Ty.cells τ
def Ty.cellsL : List Ty → Nat
 | [] => 0
 | τ :: r => Ty.cells τ + Ty.cellsL r
end
mutual
def Ty.at (P : Program) : Ty → TypeId → Bool
 | .int k,t => match P.underlying t with | some (.int k') => decide (k' = k) | _ => false
 | .bool,t => match P.underlying t with | some .bool => true | _ => false
 | .strg,t => match P.underlying t with | some .string => true | _ => false
 | .seq τ,t => match P.underlying t with | some (.slice e) => Ty.at P τ e && decide (P.cellsOf e = Ty.cells τ) && decide (0 < Ty.cells τ) | _ => false
 | .str fs,t => match P.underlying t with | some (.struct g) => decide (P.cellsOf t = Ty.cellsL fs) && Ty.atL P fs g.toList 0 | _ => false
 | .arr n τ,t => match P.underlying t with | some (.array m e) => decide (m = n) && Ty.at P τ e && decide (P.cellsOf e = Ty.cells τ) && decide (P.cellsOf t = n * Ty.cells τ) | _ => false
def Ty.atL (P : Program) : List Ty → List Field → Nat → Bool
 | [],[],_ => true
 | τ :: r,f :: g,o => Ty.at P τ f.type && decide (f.offset = o) && decide (P.cellsOf f.type = Ty.cells τ) && Ty.atL P r g (o + Ty.cells τ)
 | _,_,_ => false
end
mutual
def Ty.pln : Ty → Bool
 | .int _ => true
 | .bool => true
 | .strg => true
 | .seq _ => false
 | .str fs => Ty.plnL fs
 | .arr _ τ => Ty.pln τ
def Ty.plnL : List Ty → Bool
 | [] => true
 | τ :: r => Ty.pln τ && Ty.plnL r
end
def allH (W : World) : Hp := fun b => W.heap[b]?
theorem allH_agr (W : World) : Agr (allH W) W := fun _ _ h => h
section
variable {H : Type} {enc : TypeId × Value → H} {P : Program} {base : Nat} {sp : Nat → Bool} {held : Bool}
mutual
def flatD : DataW H → List Value
 | .lit (.int k n) => [.int k n]
 | .lit (.bool b) => [.bool b]
 | .lit (.string l) => [.string ⟨l.toArray⟩]
 | .agg ps => flatDs ps
 | _ => []
def flatDs : List (DataW H) → List Value
 | [] => []
 | d :: r => flatD d ++ flatDs r
end
mutual
theorem Ty.flat (W : World) : ∀ (τ : Ty) (t : TypeId) (fuel : Nat) (cs : List Value) (x : DataW H × List MemPlace),Ty.at P τ t = true → Ty.pln τ = true → DataW.trod enc P W base sp held fuel t cs = some x → cs = flatD x.1
 | .int k,t,fuel,cs,x,ha,_,h => by
  unfold Ty.at at ha
  split at ha
  ·rename_i k' hu
   obtain ⟨n,rfl,rfl,hw⟩ := DataW.trod_int hu h
   simp only [flatD]
  ·cases ha
 | .bool,t,fuel,cs,x,ha,_,h => by
  unfold Ty.at at ha
  split at ha
  ·rename_i hu
   obtain ⟨b,rfl,rfl⟩ := DataW.trod_bool hu h
   simp only [flatD]
  ·cases ha
 | .strg,t,fuel,cs,x,ha,_,h => by
  unfold Ty.at at ha
  split at ha
  ·rename_i hu
   obtain ⟨s,rfl,rfl,_⟩ := DataW.trod_string hu h
   simp only [flatD]
  ·cases ha
 | .seq _,_,_,_,_,_,ho,_ => by simp [Ty.pln] at ho
 | .str fs,t,fuel,cs,x,ha,ho,h => by
  unfold Ty.at at ha
  split at ha
  ·rename_i g hu
   simp only [Bool.and_eq_true,decide_eq_true_eq] at ha
   unfold Ty.pln at ho
   obtain ⟨xs,n,_,rfl,hl,hlen,hf⟩ := DataW.trod_struct hu h
   have h2 := Ty.flatL W fs g.toList 0 n cs xs ha.2 ho (by rw [hl,ha.1];omega) (by simpa using hlen) (fun i f hi => hf i f (by simpa using hi))
   simpa [flatD] using h2
  ·cases ha
 | .arr k τ,t,fuel,cs,x,ha,ho,h => by
  unfold Ty.at at ha
  split at ha
  ·rename_i m e hu
   simp only [Bool.and_eq_true,decide_eq_true_eq] at ha
   obtain ⟨⟨⟨hm,ha⟩,hz⟩,hct⟩ := ha
   subst hm
   unfold Ty.pln at ho
   obtain ⟨xs,n,_,rfl,hl,hlen,hf⟩ := DataW.trod_array hu h
   have key : ∀ (xs : List (DataW H × List MemPlace)) (cs : List Value),cs.length = xs.length * Ty.cells τ → (∀ i,i < xs.length → DataW.trod enc P W base sp held n e ((cs.drop (i * Ty.cells τ)).take (Ty.cells τ)) = xs[i]?) → cs = flatDs (xs.map (·.1)) := by
    intro xs
    induction xs with
    | nil => intro cs hc _;simp at hc;simp [hc,flatDs]
    | cons y r ih =>
     intro cs hc hi
     have h0 := hi 0 (by simp)
     simp only [Nat.zero_mul,List.drop_zero,List.getElem?_cons_zero] at h0
     have e0 := Ty.flat W τ e n _ y ha ho h0
     have e1 := ih (cs.drop (Ty.cells τ)) (by rw [List.length_drop,hc,List.length_cons,Nat.succ_mul];omega) (fun i hlt => by
      have := hi (i + 1) (by simp;omega)
      rw [List.getElem?_cons_succ] at this
      rw [← this,List.drop_drop,show Ty.cells τ + i * Ty.cells τ = (i + 1) * Ty.cells τ by rw [Nat.succ_mul];omega])
     simp only [List.map_cons,flatDs]
     rw [← e0,← e1,List.take_append_drop]
   have h2 := key xs cs (by rw [hl,hct,hlen]) (fun i hlt => by
    have := hf i (by omega)
    rw [hz] at this
    exact this)
   simpa [flatD] using h2
  ·cases ha
theorem Ty.flatL (W : World) : ∀ (fs : List Ty) (g : List Field) (o n : Nat) (cs : List Value) (xs : List (DataW H × List MemPlace)),Ty.atL P fs g o = true → Ty.plnL fs = true → cs.length = o + Ty.cellsL fs → xs.length = g.length →
 (∀ (i : Nat) f,g[i]? = some f → DataW.trod enc P W base sp held n f.type ((cs.drop f.offset).take (P.cellsOf f.type)) = xs[i]?) → cs.drop o = flatDs (xs.map (·.1))
 | [],[],o,n,cs,xs,_,_,hl,hx,_ => by
  obtain rfl := List.eq_nil_of_length_eq_zero hx
  simp only [List.map_nil,flatDs]
  exact List.drop_of_length_le (by simp only [Ty.cellsL] at hl;omega)
 | [],_ :: _,_,_,_,_,ha,_,_,_,_ => by simp [Ty.atL] at ha
 | _ :: _,[],_,_,_,_,ha,_,_,_,_ => by simp [Ty.atL] at ha
 | τ :: r,f :: g,o,n,cs,[],ha,ho,hl,hx,hf => by simp at hx
 | τ :: r,f :: g,o,n,cs,y :: xs,ha,ho,hl,hx,hf => by
  unfold Ty.atL at ha
  unfold Ty.plnL at ho
  simp only [Bool.and_eq_true,decide_eq_true_eq] at ha ho
  obtain ⟨⟨⟨a1,a2⟩,a3⟩,a4⟩ := ha
  have hy := hf 0 f rfl
  rw [a2,a3,List.getElem?_cons_zero] at hy
  have e0 := Ty.flat W τ f.type n _ y a1 ho.1 hy
  unfold Ty.cellsL at hl
  have e1 := Ty.flatL W r g (o + Ty.cells τ) n cs xs a4 ho.2 (by omega) (by simpa using hx) (fun i f' hi => by
   have := hf (i + 1) f' (by simpa using hi)
   rw [List.getElem?_cons_succ] at this
   exact this)
  simp only [List.map_cons,flatDs]
  rw [← e0,← e1,← List.drop_drop,List.take_append_drop]
end
end
theorem laid_mem {P : Program} {W : World} {name : String} {dat : DataW Unit} {rest : List (String × DataW Unit)} {g : Nat} {t : TypeId} (τ : Ty) (cs : List Value)
 (hg : P.globalNamed name = some g) (hty : (P.globals[g]?).map (·.type) = some t) (ha : Ty.at P τ t = true) (hp : Ty.pln τ = true) (hc : flatD dat = cs) (h : laidMet P ((name,dat) :: rest) W) : MemAt (allH W) g 0 cs := by
 obtain ⟨ps,⟨g',t',cs',fuel,p,q,hg',ht',hvar,hd,_,_⟩,_⟩ := h
 obtain rfl := Option.some.inj (hg.symm.trans hg')
 obtain rfl := Option.some.inj (hty.symm.trans ht')
 have e := Ty.flat W τ t fuel cs'.toList _ ha hp hd
 dsimp only at e
 rw [hc] at e
 unfold World.var? at hvar
 rw [hg] at hvar
 simp only [Option.bind_some] at hvar
 split at hvar
 ·rename_i arr T m hb
  refine ⟨arr,T,m,hb,fun j u hu => ?_⟩
  obtain rfl := Option.some.inj hvar
  rw [Nat.zero_add]
  rw [← e] at hu
  simpa using hu
 ·cases hvar
inductive Pi0 where
 | done
 | no
 | light (i : Nat) (r : Pi0)
 | alt (i k : Nat) (r q : Pi0)
inductive PlT where
 | done
 | no
 | light (i : Nat) (o : Oper) (r : PlT)
 | alt (i k : Nat) (o : Oper) (r q : PlT)
def fillT (l : List Oper) : Pi0 → PlT
 | .done => .done
 | .no => .no
 | .light i r => .light i l[i]! (fillT l r)
 | .alt i k r q => .alt i k l[i]! (fillT l r) (fillT l q)
def okT (ops : Array Oper) (n : Nat) : List Nat → List Nat → Pi0 → Bool
 | D,A,.done => A.isEmpty && (List.range n).all fun j => D.contains j
 | D,A,.no => !A.isEmpty && (List.range n).all fun j => D.contains j || A.contains j || A.any fun i => reach ops n j i
 | D,A,.light i r => A.isEmpty && decide (i < n) && !D.contains i && ((List.range n).all fun j => !Region.waitsFor .any ops i j || D.contains j) && okT ops n (i :: D) [] r
 | D,A,.alt i k r q => decide (i < n) && !D.contains i && ((List.range n).all fun j => !Region.waitsFor .any ops i j || D.contains j) && (!(k == 1) || D.all fun j => reach ops n i j) && okT ops n (i :: D) [] r && okT ops n D (i :: A) q
section
variable {dfs : List Deferred} {P : Program} {ops : Array Oper} {w0 : World} {n N : Nat}
def FlowT (dfs : List Deferred) (P : Program) (ops : Array Oper) (n : Nat) (w0 : World) (N : Nat) (E : Sl → Hp → List Res → Prop) : PlT → List (Nat × Oper × Value) → Sl → Hp → List Res → Prop
 | .done,_,L,H,bs => E L H bs
 | .no,_,_,_,_ => True
 | .light i o r,pa,L,H,bs => ∃ v,(∀ a W,Fr dfs N L a → St H w0 bs W → Yq P ops o v a W) ∧ (∀ t,o.dst = some t → t < N) ∧ FlowT dfs P ops n w0 N E r ((i,o,v) :: pa) (putL o.dst v L) H bs
 | .alt i k o r q,pa,L,H,bs => ((∀ t,o.dst = some t → t < N) ∧ At dfs N L H w0 bs (one P ops (fun _ _ _ => False) o fun a' W' => ∃ v H' bs',Fr dfs N (putL o.dst v L) a' ∧ St H' w0 bs' W' ∧ (k = 1 ∨ (∀ W,St H' w0 bs' W → St H w0 bs W) ∨ RedoP dfs P ops n w0 N L H' bs' i pa) ∧ FlowT dfs P ops n w0 N E r pa (putL o.dst v L) H' bs')) ∧ FlowT dfs P ops n w0 N E q pa L H bs
structure GT (dfs : List Deferred) (P : Program) (ops : Array Oper) (l : List Oper) (w0 : World) (n N : Nat) (a0 : Act) (E : Sl → Hp → List Res → Prop) (listed : Array Bool) (a : Act) (W : World) (val : Nat → Value) (dec : Nat → Bool) (D : List Nat) (L : Sl) (H : Hp) (bs : List Res) (pa : List (Nat × Oper × Value)) : Prop where
 head : HeadInv .any ops n listed
 frame : a = frm ops val (st listed) n a0
 full : Fr dfs N L (frm ops val dec n a0)
 sub : ∀ i,i < n → st listed i = true → dec i = true
 world : St H w0 bs W
 light : ∀ i o,i < n → ops[i]? = some o → dec i = true → st listed i = false → ∀ W,St H w0 bs W → Yq P ops o (val i) (frm ops val dec n a0) W
 past : ∀ i o,i < n → ops[i]? = some o → dec i = true → st listed i = false → (i,o,val i) ∈ pa
 set : ∀ j,dec j = D.contains j
 deps : ∀ i j,i < n → j < n → dec i = true → Region.waitsFor .any ops i j = true → dec j = true
variable {l : List Oper} {a0 : Act} {E : Sl → Hp → List Res → Prop} {Q : Exit → Act → World → Prop} {listed : Array Bool} {a : Act} {W : World} {val : Nat → Value} {dec : Nat → Bool} {D A : List Nat} {L : Sl} {H : Hp} {bs : List Res} {pa : List (Nat × Oper × Value)}
theorem upd_set {i : Nat} (h : ∀ j,dec j = D.contains j) : ∀ j,upd dec i true j = (i :: D).contains j := fun j => by
 by_cases e : j = i
 ·subst e;rw [upd_same];simp
 ·rw [upd_ne _ _ e,h j,List.contains_cons]
  have : (j == i) = false := by simpa using e
  rw [this];simp
theorem waits_ok {i : Nat} (h : ((List.range n).all fun j => !Region.waitsFor .any ops i j || D.contains j) = true) {j : Nat} (hj : j < n) (hw : Region.waitsFor .any ops i j = true) : D.contains j = true := by
 have := List.all_eq_true.1 h j (List.mem_range.2 hj)
 rw [hw] at this
 simpa using this
theorem GT.decide (F : Fit ops n []) {i : Nat} {o : Oper} (I : GT dfs P ops l w0 n N a0 E listed a W val dec D L H bs pa) (hi : i < n) (ho : ops[i]? = some o) (hiD : D.contains i = false) (hwt : ((List.range n).all fun j => !Region.waitsFor .any ops i j || D.contains j) = true)
 {v : Value} (hy : ∀ a W,Fr dfs N L a → St H w0 bs W → Yq P ops o v a W) (hN : ∀ t,o.dst = some t → t < N) :
 GT dfs P ops l w0 n N a0 E listed a W (upd val i v) (upd dec i true) (i :: D) (putL o.dst v L) H bs ((i,o,v) :: pa) := by
 have hdi : dec i = false := (I.set i).trans hiD
 have hdeps : ∀ j,j < n → Region.waitsFor .any ops i j = true → dec j = true := fun j hj hw => (I.set j).trans (waits_ok hwt hj hw)
 have hii : ∀ j,j < n → Region.waitsFor .any ops i j = true → j ≠ i := fun j hj hw e => by
  have := hdeps j hj hw
  rw [e,hdi] at this;cases this
 have hli : st listed i = false := by
  cases h : st listed i with
  | false => rfl
  | true => have := I.sub i hi h;rw [hdi] at this;cases this
 have hput := frm_put (a0 := a0) (val := val) (v := v) F hi ho hdi
 refine ⟨I.head,?_,?_,?_,I.world,?_,?_,upd_set I.set,?_⟩
 ·rw [I.frame]
  refine frm_congr _ _ _ _ a0 n fun k _ => ⟨rfl,fun hk => (upd_ne _ _ fun e => ?_).symm⟩
  subst e;rw [hli] at hk;cases hk
 ·rw [hput];exact I.full.putL v hN
 ·intro j hj hs
  by_cases e : j = i
  ·subst e;exact upd_same _ _ _
  ·rw [upd_ne _ _ e];exact I.sub j hj hs
 ·intro j oj hj hoj hd hs W hW
  by_cases e : j = i
  ·subst e
   obtain rfl : oj = o := Option.some.inj (hoj.symm.trans ho)
   rw [upd_same]
   refine Yq.same (fun cs b => F.sel j oj cs b ho) (fun t ht => ?_) (hy _ W I.full hW)
   refine eval_same F hj ho (fun k hk hw => ?_) t ht
   have hkd := hdeps k hk hw
   have hki := hii k hk hw
   exact ⟨by rw [upd_ne _ _ hki];exact hkd,hkd,upd_ne _ _ hki⟩
  ·rw [upd_ne _ _ e] at hd ⊢
   refine Yq.same (fun cs b => F.sel j oj cs b hoj) (fun t ht => ?_) (I.light j oj hj hoj hd hs W hW)
   refine eval_same F hj hoj (fun k hk hw => ?_) t ht
   have hkd := I.deps j k hj hk hd hw
   have hki : k ≠ i := fun e => by subst e;rw [hdi] at hkd;cases hkd
   exact ⟨by rw [upd_ne _ _ hki];exact hkd,hkd,upd_ne _ _ hki⟩
 ·intro j oj hj hoj hd hs
  by_cases e : j = i
  ·subst e
   obtain rfl : oj = o := Option.some.inj (hoj.symm.trans ho)
   rw [upd_same];exact .head _
  ·rw [upd_ne _ _ e] at hd ⊢
   exact .tail _ (I.past j oj hj hoj hd hs)
 ·intro j k hj hk hd hw
  by_cases e : j = i
  ·subst e
   rw [upd_ne _ _ (hii k hk hw)];exact hdeps k hk hw
  ·rw [upd_ne _ _ e] at hd
   have := I.deps j k hj hk hd hw
   by_cases e2 : k = i
   ·subst e2;exact upd_same _ _ _
   ·rw [upd_ne _ _ e2];exact this
theorem GT.step (F : Fit ops n []) {i : Nat} {o : Oper} {W' : World} (I : GT dfs P ops l w0 n N a0 E listed a W val dec D L H bs pa) (hi : i < n) (ho : ops[i]? = some o) (hr : i ∈ Region.ready .any ops listed) (hd : dec i = true) (hx : Ext W W') :
 GT dfs P ops l w0 n N a0 E (listed.setIfInBounds i true) (a.put o.dst (val i)) W' val dec D L H bs pa := by
 have hun : st listed i = false := (mem_ready.1 hr).1
 have e1 : dstOf ops i = o.dst := by simp [dstOf,ho]
 refine ⟨I.head.set hr hi,?_,I.full,?_,I.world.more hx,?_,?_,I.set,I.deps⟩
 ·rw [I.frame,frm_more val (st listed) (st (listed.setIfInBounds i true)) a0 i st_set_same hun (fun k hk => st_set hk) n hi F.apart,e1]
 ·intro j hj hs
  by_cases e : j = i
  ·subst e;exact hd
  ·rw [st_set e] at hs;exact I.sub j hj hs
 ·intro j oj hj hoj hdj hs
  have e : j ≠ i := fun e => by subst e;rw [st_set_same] at hs;cases hs
  rw [st_set e] at hs
  exact I.light j oj hj hoj hdj hs
 ·intro j oj hj hoj hdj hs
  have e : j ≠ i := fun e => by subst e;rw [st_set_same] at hs;cases hs
  rw [st_set e] at hs
  exact I.past j oj hj hoj hdj hs
theorem GT.heavy (F : Fit ops n []) {i k : Nat} {o : Oper} {v : Value} {W' : World} {H' : Hp} {bs' : List Res} (I : GT dfs P ops l w0 n N a0 E listed a W val dec D L H bs pa) (hi : i < n) (ho : ops[i]? = some o) (hiD : D.contains i = false) (hwt : ((List.range n).all fun j => !Region.waitsFor .any ops i j || D.contains j) = true) (hk1 : (!(k == 1) || D.all fun j => reach ops n i j) = true) (hN : ∀ t,o.dst = some t → t < N) (hr : i ∈ Region.ready .any ops listed)
 (hs : St H' w0 bs' W') (hws : k = 1 ∨ (∀ W,St H' w0 bs' W → St H w0 bs W) ∨ RedoP dfs P ops n w0 N L H' bs' i pa) :
 GT dfs P ops l w0 n N a0 E (listed.setIfInBounds i true) (a.put o.dst v) W' (upd val i v) (upd dec i true) (i :: D) (putL o.dst v L) H' bs' pa := by
 have hdi : dec i = false := (I.set i).trans hiD
 have hdeps : ∀ j,j < n → Region.waitsFor .any ops i j = true → dec j = true := fun j hj hw => (I.set j).trans (waits_ok hwt hj hw)
 have hii : ∀ j,j < n → Region.waitsFor .any ops i j = true → j ≠ i := fun j hj hw e => by
  have := hdeps j hj hw
  rw [e,hdi] at this;cases this
 have hun : st listed i = false := (mem_ready.1 hr).1
 have e1 : dstOf ops i = o.dst := by simp [dstOf,ho]
 have hput := frm_put (a0 := a0) (val := val) (v := v) F hi ho hdi
 refine ⟨I.head.set hr hi,?_,?_,?_,hs,?_,?_,upd_set I.set,?_⟩
 ·rw [I.frame,frm_more (upd val i v) (st listed) (st (listed.setIfInBounds i true)) a0 i st_set_same hun (fun k hk => st_set hk) n hi F.apart,e1,upd_same]
  congr 1
  refine frm_congr _ _ _ _ a0 n fun k _ => ⟨rfl,fun hk => (upd_ne _ _ fun e => ?_).symm⟩
  subst e;rw [hun] at hk;cases hk
 ·rw [hput];exact I.full.putL v hN
 ·intro j hj hs
  by_cases e : j = i
  ·subst e;exact upd_same _ _ _
  ·rw [upd_ne _ _ e];rw [st_set e] at hs;exact I.sub j hj hs
 ·intro j oj hj hoj hd hs W hW
  have e : j ≠ i := fun e => by subst e;rw [st_set_same] at hs;cases hs
  rw [st_set e] at hs
  rw [upd_ne _ _ e] at hd ⊢
  have hdone : reach ops n i j = true → False := fun h1 => by
   obtain ⟨_,oi,hoi,hall⟩ := mem_ready.1 hr
   have h2 := reach_listed I.head n i j h1 (fun ok hok x hx hb => by
    obtain rfl : ok = oi := Option.some.inj (hok.symm.trans hoi)
    exact hall x hx hb)
   rw [getD_both hs] at h2
   cases h2
  have hy : Yq P ops oj (val j) (frm ops val dec n a0) W := by
   rcases hws with hk | hw | hw
   ·subst hk
    have hjD : j ∈ D := by have := (I.set j).symm.trans hd;simpa using this
    simp only [beq_self_eq_true,Bool.not_true,Bool.false_or] at hk1
    exact (hdone (List.all_eq_true.1 hk1 j hjD)).elim
   ·exact I.light j oj hj hoj hd hs W (hw W hW)
   ·rcases hw.at (I.past j oj hj hoj hd hs) with h1 | h1
    ·exact (hdone h1).elim
    ·exact h1 _ W I.full hW
  refine Yq.same (fun cs b => F.sel j oj cs b hoj) (fun t ht => ?_) hy
  refine eval_same F hj hoj (fun k hk hw => ?_) t ht
  have hkd := I.deps j k hj hk hd hw
  have hki : k ≠ i := fun e => by subst e;rw [hdi] at hkd;cases hkd
  exact ⟨by rw [upd_ne _ _ hki];exact hkd,hkd,upd_ne _ _ hki⟩
 ·intro j oj hj hoj hd hs
  have e : j ≠ i := fun e => by subst e;rw [st_set_same] at hs;cases hs
  rw [st_set e] at hs
  rw [upd_ne _ _ e] at hd ⊢
  exact I.past j oj hj hoj hd hs
 ·intro j k hj hk hd hw
  by_cases e : j = i
  ·subst e
   rw [upd_ne _ _ (hii k hk hw)];exact hdeps k hk hw
  ·rw [upd_ne _ _ e] at hd
   have := I.deps j k hj hk hd hw
   by_cases e2 : k = i
   ·subst e2;exact upd_same _ _ _
   ·rw [upd_ne _ _ e2];exact this
theorem chain_find (hl : ops = l.toArray) {j : Nat} (hj : j < n) (hjD : D.contains j = false) (hnr : ∀ i,D.contains i = false → i < n → reach ops n j i = false) :
 ∀ (q : Pi0) (A : List Nat),(q = .no ∨ ∃ i k r q',q = .alt i k r q') → okT ops n D A q = true → (∀ i ∈ A,D.contains i = false ∧ i < n ∧ i ≠ j) → FlowT dfs P ops n w0 N E (fillT l q) pa L H bs →
  ∃ k r,((List.range n).all fun x => !Region.waitsFor .any ops j x || D.contains x) = true ∧ (!(k == 1) || D.all fun x => reach ops n j x) = true ∧ okT ops n (j :: D) [] r = true ∧ (∀ t,(l[j]!).dst = some t → t < N) ∧
   At dfs N L H w0 bs (one P ops (fun _ _ _ => False) l[j]! fun a' W' => ∃ v H' bs',Fr dfs N (putL (l[j]!).dst v L) a' ∧ St H' w0 bs' W' ∧ (k = 1 ∨ (∀ W,St H' w0 bs' W → St H w0 bs W) ∨ RedoP dfs P ops n w0 N L H' bs' j pa) ∧ FlowT dfs P ops n w0 N E (fillT l r) pa (putL (l[j]!).dst v L) H' bs') := by
 intro q
 induction q with
 | done => rintro A (h | ⟨_,_,_,_,h⟩) <;> cases h
 | light i r => rintro A (h | ⟨_,_,_,_,h⟩) <;> cases h
 | no =>
  intro A _ hok hA _
  exfalso
  simp only [okT,Bool.and_eq_true] at hok
  have := List.all_eq_true.1 hok.2 j (List.mem_range.2 hj)
  simp only [Bool.or_eq_true] at this
  rcases this with (h | h) | h
  ·rw [hjD] at h;cases h
  ·exact (hA j (by simpa using h)).2.2 rfl
  ·obtain ⟨i,hi,hre⟩ := List.any_eq_true.1 h
   rw [hnr i (hA i hi).1 (hA i hi).2.1] at hre;cases hre
 | alt i k r q' ihr ihq =>
  intro A _ hok hA hF
  simp only [okT,Bool.and_eq_true,decide_eq_true_eq,Bool.not_eq_true'] at hok
  obtain ⟨⟨⟨⟨⟨h1,h2⟩,h3⟩,h4⟩,h5⟩,h6⟩ := hok
  unfold fillT FlowT at hF
  by_cases e : i = j
  ·subst e
   exact ⟨k,r,h3,h4,h5,hF.1.1,hF.1.2⟩
  ·have hq : q' = .no ∨ ∃ i k r q'',q' = .alt i k r q'' := by
    cases q' with
    | done => simp [okT] at h6
    | light i r => simp [okT] at h6
    | no => exact .inl rfl
    | alt i k r q => exact .inr ⟨_,_,_,_,rfl⟩
   refine ihq (i :: A) hq h6 (fun x hx => ?_) hF.2
   rcases List.mem_cons.1 hx with rfl | hx
   ·exact ⟨h2,h1,e⟩
   ·exact hA x hx
theorem flowT_game (hl : ops = l.toArray) (F : Fit ops n []) (hend : ∀ L H bs,E L H bs → At dfs N L H w0 bs (wpList P ops Q (ops.toList.drop n))) :
 ∀ (m : Nat) (p : Pi0) (listed : Array Bool) (a : Act) (W : World) (val : Nat → Value) (dec : Nat → Bool) (D : List Nat) (L : Sl) (H : Hp) (bs : List Res) (pa : List (Nat × Oper × Value)),cnt (st listed) n = m → okT ops n D [] p = true →
  FlowT dfs P ops n w0 N E (fillT l p) pa L H bs → GT dfs P ops l w0 n N a0 E listed a W val dec D L H bs pa → wpAny P .any ops Q (m + (ops.size - n)) listed a W := by
 have hop : ∀ i,i < n → ops[i]? = some l[i]! := fun i hi => by
  have h1 : i < ops.size := by have := F.lt;omega
  subst hl
  have h2 : i < l.length := by simpa using h1
  simp [h2]
 intro m
 induction m with
 | zero =>
  intro p
  induction p with
  | done =>
   intro listed a W val dec D L H bs pa hm hok hF I
   have hall := cnt_zero _ n hm
   have hcan : listed = ((List.range ops.size).map fun k => Decidable.decide (k < n)).toArray := by
    apply Array.ext
    ·simp [I.head.size]
    ·intro k h1 h2
     have hk : k < ops.size := by rw [← I.head.size];exact h1
     simp only [List.getElem_toArray,List.getElem_map,List.getElem_range]
     by_cases hkn : k < n
     ·have := hall k hkn
      simp [st,h1] at this
      simp [this,hkn]
     ·have := I.head.tail k (by omega) hk
      simp [h1] at this
      simp [this,hkn]
   rw [Nat.zero_add]
   have hlen : (ops.toList.drop n).length = ops.size - n := by simp
   rw [← hlen]
   refine wpAny_of_seq (ops.toList.drop n) n listed a W (fun j => by simp [List.getElem?_drop]) (by rw [hlen,hcan];exact F.seq) ?_
   have hfr : a = frm ops val dec n a0 := by
    rw [I.frame]
    exact frm_congr _ _ _ _ a0 n (fun k hk => ⟨by rw [hall k hk,I.sub k hk (hall k hk)],fun _ => rfl⟩)
   rw [hfr]
   exact hend L H bs hF _ W I.full I.world
  | no =>
   intro listed a W val dec D L H bs pa hm hok hF I
   simp [okT] at hok
  | light i r ih =>
   intro listed a W val dec D L H bs pa hm hok hF I
   have hall := cnt_zero _ n hm
   simp only [okT,Bool.and_eq_true,decide_eq_true_eq,Bool.not_eq_true'] at hok
   have := I.sub i hok.1.1.1.2 (hall i hok.1.1.1.2)
   rw [I.set i,hok.1.1.2] at this;cases this
  | alt i k r q ih1 ih2 =>
   intro listed a W val dec D L H bs pa hm hok hF I
   have hall := cnt_zero _ n hm
   simp only [okT,Bool.and_eq_true,decide_eq_true_eq,Bool.not_eq_true'] at hok
   have := I.sub i hok.1.1.1.1.1 (hall i hok.1.1.1.1.1)
   rw [I.set i,hok.1.1.1.1.2] at this;cases this
 | succ m ih =>
  have one_step : ∀ (p : Pi0) (listed : Array Bool) (a : Act) (W : World) (val : Nat → Value) (dec : Nat → Bool) (D : List Nat) (L : Sl) (H : Hp) (bs : List Res) (pa : List (Nat × Oper × Value)),cnt (st listed) n = m + 1 → okT ops n D [] p = true →
   FlowT dfs P ops n w0 N E (fillT l p) pa L H bs → GT dfs P ops l w0 n N a0 E listed a W val dec D L H bs pa → (p = .done ∨ p = .no ∨ ∃ i k r q,p = .alt i k r q) → wpAny P .any ops Q (m + 1 + (ops.size - n)) listed a W := by
   intro p listed a W val dec D L H bs pa hm hok hF I hp
   obtain ⟨k0,hk0,hun0,hbelow⟩ := cnt_pos (st listed) n (by omega)
   have hk0s : k0 < ops.size := by have := F.lt;omega
   have hready0 : k0 ∈ Region.ready .any ops listed := by
    refine mem_ready.2 ⟨hun0,ops[k0],Array.getElem?_eq_getElem hk0s,fun e he hb => ?_⟩
    have hlt := F.back k0 _ (Array.getElem?_eq_getElem hk0s) e he hb
    have := hbelow e.on hlt
    have hsz : e.on < listed.size := by rw [I.head.size];omega
    simpa [st,hsz] using this
   rw [show m + 1 + (ops.size - n) = (m + (ops.size - n)) + 1 by omega]
   refine ⟨fun h0 => (by rw [h0] at hready0;cases hready0),fun j hj => ?_⟩
   have hjn : j < n := by
    rcases Nat.lt_or_ge j n with h | h
    ·exact h
    ·exact absurd hj (tail_waitsF F.sink F.chain I.head _ k0 rfl hk0 rfl hun0 j h)
   obtain ⟨hun,oj,hoj,hall⟩ := mem_ready.1 hj
   have hcnt : cnt (st (listed.setIfInBounds j true)) n = m := by
    have := cnt_more (st listed) (st (listed.setIfInBounds j true)) j st_set_same hun (fun k hk => st_set hk) n hjn
    omega
   have hS : ∀ k,k < n → Region.waitsFor .any ops j k = true → st listed k = true := by
    intro k hk hw
    obtain ⟨oi,hoi,e,he,hb,hon⟩ := Region.waitsFor_spec hw
    obtain rfl : oi = oj := Option.some.inj (hoi.symm.trans hoj)
    have h1 := hall e he hb
    rw [hon] at h1
    have hsz : k < listed.size := by rw [I.head.size];have := F.lt;omega
    simp [hsz] at h1
    simp [st,hsz,h1]
   have hev : ∀ t ∈ oj.looksAt ops,a.eval (.tmp t) = (frm ops val dec n a0).eval (.tmp t) := fun t ht => by
    rw [I.frame]
    exact eval_same F hjn hoj (fun k hk hw => ⟨hS k hk hw,I.sub k hk (hS k hk hw),rfl⟩) t ht
   cases hd : dec j with
   | true =>
    have hy : Yq P ops oj (val j) a W := Yq.same (fun cs b => F.sel j oj cs b hoj) hev (I.light j oj hjn hoj hd hun W I.world)
    exact hy.wpOp hoj fun W' hx => ih p _ _ _ _ _ _ _ _ _ _ hcnt hok hF (I.step F hjn hoj hj hd hx)
   | false =>
    have hjD : D.contains j = false := (I.set j).symm.trans hd
    have hch : p = .no ∨ ∃ i k r q',p = .alt i k r q' := by
     rcases hp with rfl | rfl | h
     ·exfalso
      simp only [okT,Bool.and_eq_true] at hok
      have := List.all_eq_true.1 hok.2 j (List.mem_range.2 hjn)
      rw [hjD] at this;cases this
     ·exact .inl Z
     ·exact .inr h
    obtain ⟨k,r,h1,h2,h3,h4,h5⟩ := chain_find hl hjn hjD (fun i hi hin => by
     cases hre : reach ops n j i with
     | false => rfl
     | true =>
      have h2 := reach_listed I.head n j i hre (fun ok hok e he hb => by
       obtain rfl : ok = oj := Option.some.inj (hok.symm.trans hoj)
       exact hall e he hb)
      have h3 : st listed i = false := by
       cases h : st listed i with
       | false => rfl
       | true => have := I.sub i hin h;rw [I.set i,hi] at this;cases this
      rw [getD_both h3] at h2;cases h2) p [] hch hok (fun i hi => by cases hi) hF
    have hoj2 := hop j hjn
    obtain rfl : oj = l[j]! := Option.some.inj (hoj.symm.trans hoj2)
    refine one_same hoj (fun cs b => F.sel j _ cs b hoj) hev (fun b W' ⟨v,H',bs',hf,_⟩ => hf.defers) I.full.defers ?_ (h5 _ W I.full I.world)
    rintro v W' ⟨v',H',bs',hf,hs,hw,hp'⟩
    have hvv : putL (l[j]!).dst v' L = putL (l[j]!).dst v L := by
     cases hdst : (l[j]!).dst with
     | none => rfl
     | some t =>
      rw [hdst] at hf
      have h1 := hf.slot t v' (by unfold putL look;rw [Nat.beq_refl,cond_true])
      have h2 : t < N := h4 t hdst
      have h3 := (I.full.put (by simpa [Nat.blt_eq] using h2) v).slot t v (by unfold look;rw [Nat.beq_refl,cond_true])
      rw [h3] at h1
      rw [h1]
    rw [hvv] at hp'
    exact ih r _ _ _ _ _ _ _ _ _ _ hcnt h3 hp' (I.heavy F hjn hoj hjD h1 h2 h4 hj hs hw)
  intro p
  induction p with
  | done => exact fun listed a W val dec D L H bs pa hm hok hF I => one_step _ listed a W val dec D L H bs pa hm hok hF I (.inl rfl)
  | no => exact fun listed a W val dec D L H bs pa hm hok hF I => one_step _ listed a W val dec D L H bs pa hm hok hF I (.inr (.inl rfl))
  | alt i k r q _ _ => exact fun listed a W val dec D L H bs pa hm hok hF I => one_step _ listed a W val dec D L H bs pa hm hok hF I (.inr (.inr ⟨_,_,_,_,rfl⟩))
  | light i r ihr =>
   intro listed a W val dec D L H bs pa hm hok hF I
   simp only [okT,Bool.and_eq_true,decide_eq_true_eq,Bool.not_eq_true'] at hok
   obtain ⟨⟨⟨⟨_,hi⟩,hiD⟩,hwt⟩,hok'⟩ := hok
   unfold fillT FlowT at hF
   obtain ⟨v,hy,hN,hF'⟩ := hF
   exact ihr listed a W _ _ _ _ H bs _ hm hok' hF' (I.decide F hi (hop i hi) hiD hwt hy hN)
theorem flowT {id : Nat} {l : List Oper} {p : PlT} {Q : Exit → Act → World → Prop} {L : Sl} {H : Hp} {bs : List Res} (n : Nat) (p0 : Pi0) (hm : P.follows .mixedOrders = true) (hB : (parB l.toArray n [] && okT l.toArray n [] [] p0) = true) (ht : fillT l p0 = p)
 (h : FlowT dfs P l.toArray n w0 N (fun L H bs => At dfs N L H w0 bs (wpList P l.toArray Q (l.drop n))) p [] L H bs) : At dfs N L H w0 bs ((Code.region id l.toArray true).wp P Q) := by
 simp only [Bool.and_eq_true] at hB
 obtain ⟨h1,h2⟩ := hB
 have F := Fit.of h1
 have hlt : n < l.length := by simpa using F.lt
 subst ht
 intro a W f s
 refine wp_region_any hm ?_
 have hsz : l.toArray.size = l.length := by simp
 have hc0 : ∀ m,m ≤ n → cnt (st (Array.replicate l.toArray.size false)) m = m := by
  intro m
  induction m with
  | zero => intro _;rfl
  | succ m ih =>
   intro hm
   unfold cnt
   rw [ih (by omega)]
   have : st (Array.replicate l.toArray.size false) m = false := by
    have : m < l.length := by omega
    simp [st,this]
   rw [this];simp
 have hfrm : ∀ (val : Nat → Value) (m : Nat),frm l.toArray val (fun _ => false) m a = a := fun val m => by
  induction m with
  | zero => rfl
  | succ m ih => unfold frm;simp [ih]
 have hall : ∀ m,m ≤ n → ∀ k,k < m → st (Array.replicate l.toArray.size false) k = false := fun m hm k hk => by
  have : k < l.length := by omega
  simp [st,this]
 have hh : HeadInv .any l.toArray n (Array.replicate l.toArray.size false) := by
  refine ⟨by simp,fun j oj hj hl => ?_,fun t ht ht' => ?_⟩
  ·exfalso
   rcases Nat.lt_or_ge j l.length with h | h
   ·simp [h] at hl
   ·simp [h] at hl
  ·have : t < l.length := by simpa using ht'
   simp [this]
 have key := flowT_game (Q := Q) (a0 := a) (l := l) rfl F (fun L H bs h => by simpa using h) n p0 (Array.replicate l.toArray.size false) a _ (fun _ => undef) (fun _ => false) [] L H bs [] (hc0 n (Nat.le_refl _)) h2 h
  ⟨hh,?_,by rw [hfrm];exact f,?_,s.more ((Ext.refl W).drew),fun _ _ _ _ h => (by cases h),fun _ _ _ _ h => (by cases h),fun _ => rfl,fun _ _ _ _ h => (by cases h)⟩
 ·have : n + (l.toArray.size - n) = l.toArray.size := by rw [hsz];omega
  rw [this] at key
  exact key
 ·rw [frm_congr (fun _ => undef) (fun _ => undef) _ (fun _ => false) a n (fun k hk => ⟨hall n (Nat.le_refl _) k hk,fun _ => rfl⟩),hfrm]
 ·intro i hi hs;rw [hall n (Nat.le_refl _) i hi] at hs;cases hs
end
section
variable {dfs : List Deferred} {P : Program} {n : Nat} {L : Sl} {H : Hp} {w0 : World} {bs : List Res} {Q : Exit → Act → World → Prop} {ops : Array Oper} {rest : List Oper} {K : Act → World → Prop}
variable {d : Option Tmp} {ty : TypeId} {pos : String} {aft : Array Edge} {g : Option (Nat × Bool)} {v : Value} {t : Tmp} {op : Op} {x y z : Operand} {T T' : TypeId}
variable {N hn : Nat} {pa : List (Nat × Oper × Value)} {E : Sl → Hp → List Res → Prop} {r q : PlT} {i k : Nat}
def AltT (dfs : List Deferred) (P : Program) (ops : Array Oper) (n : Nat) (w0 : World) (N : Nat) (E : Sl → Hp → List Res → Prop) (i k : Nat) (o : Oper) (r : PlT) (pa : List (Nat × Oper × Value)) (L : Sl) (H : Hp) (bs : List Res) : Prop :=
 (∀ t,o.dst = some t → t < N) ∧ At dfs N L H w0 bs (one P ops (fun _ _ _ => False) o fun a' W' => ∃ v H' bs',Fr dfs N (putL o.dst v L) a' ∧ St H' w0 bs' W' ∧ (k = 1 ∨ (∀ W,St H' w0 bs' W → St H w0 bs W) ∨ RedoP dfs P ops n w0 N L H' bs' i pa) ∧ FlowT dfs P ops n w0 N E r pa (putL o.dst v L) H' bs')
theorem FlowT.h1 {o : Oper} (h : AltT dfs P ops hn w0 N E i k o r pa L H bs) : FlowT dfs P ops hn w0 N E (.alt i k o r .no) pa L H bs := ⟨h,trivial⟩
theorem FlowT.h {o : Oper} (h : AltT dfs P ops hn w0 N E i k o r pa L H bs) (hq : FlowT dfs P ops hn w0 N E q pa L H bs) : FlowT dfs P ops hn w0 N E (.alt i k o r q) pa L H bs := ⟨h,hq⟩
theorem FlowT.nn : FlowT dfs P ops hn w0 N E .no pa L H bs := trivial
theorem FlowT.yv (hy : Yl P L H w0 bs ⟨some t,op,ty,pos,aft,none⟩ v) (ht : Nat.blt t N = true) (h : FlowT dfs P ops hn w0 N E r ((i,⟨some t,op,ty,pos,aft,none⟩,v) :: pa) ((t,v) :: L) H bs) : FlowT dfs P ops hn w0 N E (.light i ⟨some t,op,ty,pos,aft,none⟩ r) pa L H bs :=
 ⟨v,fun a W f s => .inl ⟨by simp [Region.wanted],hy a W (fun x u e => f.ev e) s⟩,blt_of ht,h⟩
theorem FlowT.m (hx : ev L x = some v) (ht : Nat.blt t N = true) (h : FlowT dfs P ops hn w0 N E r ((i,⟨some t,.move x,ty,pos,aft,none⟩,v) :: pa) ((t,v) :: L) H bs) : FlowT dfs P ops hn w0 N E (.light i ⟨some t,.move x,ty,pos,aft,none⟩ r) pa L H bs := .yv (.move hx) ht h
theorem AltT.into {H' : Hp} {bs' : List Res} (hw : k = 1 ∨ (∀ W,St H' w0 bs' W → St H w0 bs W) ∨ RedoP dfs P ops hn w0 N L H' bs' i pa) (h : FlowT dfs P ops hn w0 N E r pa ((t,v) :: L) H' bs') :
 At dfs N ((t,v) :: L) H' w0 bs' (fun a' W' => ∃ v H' bs',Fr dfs N (putL (some t) v L) a' ∧ St H' w0 bs' W' ∧ (k = 1 ∨ (∀ W,St H' w0 bs' W → St H w0 bs W) ∨ RedoP dfs P ops hn w0 N L H' bs' i pa) ∧ FlowT dfs P ops hn w0 N E r pa (putL (some t) v L) H' bs') := fun _ _ f s => ⟨v,H',bs',f,s,hw,h⟩
theorem AltT.al {l : List Value} (hz : zeroN P T = some l) (ht : Nat.blt t N = true) (h : ∀ b,FlowT dfs P ops hn w0 N E r pa ((t,.pointer (some ⟨b,0,none⟩)) :: L) H (.box b l T :: bs)) : AltT dfs P ops hn w0 N E i k ⟨some t,.alloc T,ty,pos,aft,none⟩ r pa L H bs :=
 ⟨blt_of ht,alloc hz ht fun b => AltT.into (.inr<|.inl fun _ s => s.drop) (h b)⟩
theorem AltT.ct {X : Type} {f : FuncId} {xs : List Operand} {vs : List Value} {ats : Array TypeId} {C : X → Hp → Prop} {val : X → Value} (hf : callN P f = true) (hv : evs L xs = some vs)
 (hc : ∀ W,St H w0 bs W → Calls P f vs.toArray W fun e W' => ∃ x H',C x H' ∧ e = .returned (val x) ∧ Grow H W H' W') (ht : Nat.blt t N = true)
 (h : ∀ x H',C x H' → HUp w0 H H' → FlowT dfs P ops hn w0 N E r pa ((t,val x) :: L) H' bs) : AltT dfs P ops hn w0 N E i k ⟨some t,.call ⟨.value (.func f),xs.toArray,ats⟩,ty,pos,aft,none⟩ r pa L H bs :=
 ⟨blt_of ht,callT hf hv hc ht fun x H' hx u => AltT.into (.inr<|.inl fun _ s => s.weakH u.up) (h x H' hx u)⟩
theorem AltT.c3 {X : Type} {f : FuncId} {xs : List Operand} {vs : List Value} {ats : Array TypeId} {C : X → Prop} {val : X → Value} {H' : X → Hp} {bs' : X → List Res} (hf : callN P f = true) (hv : evs L xs = some vs)
 (hc : ∀ W,St H w0 bs W → Calls P f vs.toArray W fun e W' => ∃ x,C x ∧ e = .returned (val x) ∧ St (H' x) w0 (bs' x) W') (ht : Nat.blt t N = true)
 (hr : ∀ x,C x → RedoP dfs P ops hn w0 N L (H' x) (bs' x) i pa) (h : ∀ x,C x → FlowT dfs P ops hn w0 N E r pa ((t,val x) :: L) (H' x) (bs' x)) : AltT dfs P ops hn w0 N E i 2 ⟨some t,.call ⟨.value (.func f),xs.toArray,ats⟩,ty,pos,aft,none⟩ r pa L H bs :=
 ⟨blt_of ht,callS hf hv hc ht fun x hx => AltT.into (.inr<|.inr<|hr x hx) (h x hx)⟩
theorem FlowT.fn {l tl : List Oper} {nn : Nat} (ht : l.drop nn = tl) (h : At dfs N L H w0 bs (wpList P ops Q tl)) : FlowT dfs P ops hn w0 N (fun L H bs => At dfs N L H w0 bs (wpList P ops Q (l.drop nn))) .done pa L H bs := by
 subst ht;exact h
theorem At.ft {id : Nat} {l : List Oper} {p : PlT} (nn : Nat) (p0 : Pi0) (hm : P.follows .mixedOrders = true) (hB : (parB l.toArray nn [] && okT l.toArray nn [] [] p0) = true) (ht : fillT l p0 = p)
 (h : FlowT dfs P l.toArray nn w0 n (fun L H bs => At dfs n L H w0 bs (wpList P l.toArray Q (l.drop nn))) p [] L H bs) : At dfs n L H w0 bs ((Code.region id l.toArray true).wp P Q) := flowT nn p0 hm hB ht h
end
def SliceAt (H : Hp) (v : Value) (n : Nat) (xs : List Value) : Prop := (v = .slice none 0 0 ∧ n = 0) ∨ ∃ b c,v = .slice (some ⟨b,0,none⟩) n c ∧ n ≤ c ∧ c ≤ maxLen ∧ MemAt H b 0 xs
theorem Upd.new {bs bs' : List Res} {x y : Res} (h : Upd bs x y bs') : y ∈ bs' := by
 induction h with
 | head => exact .head _
 | tail _ ih => exact .tail _ ih
theorem SliceAt.up {H H' : Hp} {v : Value} {n : Nat} {xs : List Value} (h : SliceAt H v n xs) (u : Up H H') : SliceAt H' v n xs := by
 rcases h with h | ⟨b,c,e,h1,h2,h3⟩
 ·exact .inl h
 ·exact .inr ⟨b,c,e,h1,h2,h3.up u⟩
section
variable {dfs : List Deferred} {P : Program} {n : Nat} {L : Sl} {H : Hp} {w0 : World} {bs : List Res} {Q : Exit → Act → World → Prop} {ops : Array Oper} {rest : List Oper} {K : Act → World → Prop}
variable {d : Option Tmp} {ty : TypeId} {pos : String} {aft : Array Edge} {v : Value} {t : Tmp} {x y : Operand} {T : TypeId}
theorem St.boxRowZ {b m z : Nat} {l : List Value} {e : TypeId} {W : World} (h : St H w0 (.box b l e :: bs) W) (hz : l.length = m * z) (hl : m ≤ maxLen) : St H w0 (.row e z (.slice (some ⟨b,0,none⟩) m m) m l :: bs) W := by
 have hb := h.own _ (.head _)
 refine ⟨h.ext,h.agr,fun x hx => ?_,?_⟩
 ·rcases List.mem_cons.1 hx with rfl | hx
  ·exact ⟨⟨hz,.inr ⟨b,m,l.toArray,rfl,hb.1.1,hb.1.2,Nat.le_refl _,hl,by simpa using hz,by rw [← hz];simp⟩⟩,fun c e => hb.2 c e⟩
  ·exact h.own x (.tail _ hx)
 ·have h1 := h.apart
  rw [List.pairwise_cons] at h1 ⊢
  exact ⟨fun z hz c e => h1.1 z hz c e,h1.2⟩
variable {N hn i : Nat} {pa : List (Nat × Oper × Value)} {E : Sl → Hp → List Res → Prop} {q : PlT}
theorem AltT.blR {ps : List (Nat × Operand)} {pv : List (Nat × Value)} {len z k : Nat} {e : TypeId} {l : List Value} (hv : evp L ps = some pv) (hb : bslN P T len pv = some (e,l)) (ht : Nat.blt t N = true) (hz : l.length = len * z) (hl : len ≤ maxLen)
 (h : ∀ b,FlowT dfs P ops hn w0 N E q pa ((t,.slice (some ⟨b,0,none⟩) len len) :: L) H (.row e z (.slice (some ⟨b,0,none⟩) len len) len l :: bs)) : AltT dfs P ops hn w0 N E i k ⟨some t,.buildSlice T len ps.toArray,ty,pos,aft,none⟩ q pa L H bs :=
 ⟨blt_of ht,buildSlice hv hb ht fun b => reSt (fun _ s => s.boxRowZ hz hl) (AltT.into (.inr<|.inl fun _ s => s.drop) (h b))⟩
end
section
variable {dfs : List Deferred} {P : Program} {n : Nat} {L : Sl} {H : Hp} {w0 : World} {bs : List Res} {Q : Exit → Act → World → Prop} {ops : Array Oper} {rest : List Oper} {K : Act → World → Prop}
variable {d : Option Tmp} {ty : TypeId} {pos : String} {aft : Array Edge} {v : Value} {t : Tmp} {x y : Operand} {T : TypeId}
theorem appendD {e : TypeId} {size bytes m c k : Nat} {p : Option Addr} {r : Value} {xs : List Value} {ds : List D} {bs' : List Value → Value → List Res} (hT : rowN P T = some (e,size,bytes)) (hx : ev L x = some r)
 (hm : ∀ news r',Upd bs (.row e size r k xs) (.row e size r' (k + m) (xs ++ news)) (bs' news r')) (hy : ev L y = some (.slice p m c)) (hr : Rep H (.seq size ds) [.slice p m c])
 (h63 : k + m ≤ maxLen) (hb : (k + m) * bytes ≤ 140737488355328) (ht : Nat.blt t n = true)
 (h : ∀ news r',RepZ H size ds news → At dfs n ((t,r') :: L) H w0 (bs' news r') K) : At dfs n L H w0 bs (one P ops Q ⟨some t,.call ⟨.builtin .append,#[x,y],#[T,T]⟩,ty,pos,aft,none⟩ K) := by
 have hlen := hr.len
 unfold Rep at hr
 obtain ⟨p',c',h1,h2,h3,h4⟩ := hr
 injection h1 with h1 _
 injection h1 with e1 e2 e3
 subst e1 e3
 rcases h4 with h4 | ⟨b,off,cs,rfl,hmem,hz⟩
 ·subst h4
  obtain rfl : m = 0 := e2
  cases p with
  | some A => exact appendA hT hx (hm []) hy (fun W s j u e => by simp at e) (by simp) (by simp) h63 hb ht fun r' _ => h [] r' .nil
  | none =>
   obtain ⟨hu,i,z,hi,hz,hsz,hby,hzs,h0⟩ := rowN_spec hT
   have e4 : bs' [] r = bs := (hm [] r).same (by rw [Nat.add_zero,List.append_nil])
   have h5 := h [] r .nil
   rw [e4] at h5
   intro a W f s
   refine one_plain rfl ?_
   unfold Oper.wp
   have hown : W.ownsRow w0.heap.size e size r k xs := (s.own _ (hm [] r).mem).1
   have hrun : (Builtin.append_ #[T,T] ty #[r,.slice none 0 c]).run P W = .ok r W := by
    rcases hown.2 with ⟨rfl,rfl⟩ | ⟨g,cap,cur,rfl,hbg,hgc,hnc,hcm,hcs,htake⟩
    ·simp [Builtin.append_,run_underlying hu,sizeOf,typeInfo,hi,Builtin.lenOf,Builtin.firstCells]
    ·simp [Builtin.append_,run_underlying hu,sizeOf,typeInfo,hi,Builtin.lenOf,Builtin.firstCells,hnc,storeCells]
   simp [execOp,resolve,invoke,builtin,f.ev hx,f.ev hy,hrun,Result.andThen,Oper.upon]
   exact h5 _ _ (f.put ht _) s
 ·exact appendA hT hx (hm cs) hy (fun W s j u e => by rw [Addr.add_lit];exact hmem.cell s.agr e) (by rw [hz.len,e2]) hz.one h63 hb ht fun r' _ => h cs r' hz
theorem At.apD {e : TypeId} {size bytes m c k : Nat} {p : Option Addr} {r : Value} {xs : List Value} {ds : List D} {bs' : List Value → Value → List Res} (hT : rowN P T = some (e,size,bytes)) (hx : ev L x = some r)
 (hm : ∀ news r',Upd bs (.row e size r k xs) (.row e size r' (k + m) (xs ++ news)) (bs' news r')) (hy : ev L y = some (.slice p m c)) (hr : Rep H (.seq size ds) [.slice p m c])
 (h63 : k + m ≤ maxLen) (hb : (k + m) * bytes ≤ 140737488355328) (ht : Nat.blt t n = true)
 (h : ∀ news r',RepZ H size ds news → At dfs n ((t,r') :: L) H w0 (bs' news r') (wpList P ops Q rest)) : At dfs n L H w0 bs (wpList P ops Q (⟨some t,.call ⟨.builtin .append,#[x,y],#[T,T]⟩,ty,pos,aft,none⟩ :: rest)) := cons (appendD hT hx hm hy hr h63 hb ht h)
theorem At.blR {ps : List (Nat × Operand)} {pv : List (Nat × Value)} {len z : Nat} {e : TypeId} {l : List Value} (hv : evp L ps = some pv) (hb : bslN P T len pv = some (e,l)) (ht : Nat.blt t n = true) (hz : l.length = len * z) (hl : len ≤ maxLen)
 (h : ∀ b,At dfs n ((t,.slice (some ⟨b,0,none⟩) len len) :: L) H w0 (.row e z (.slice (some ⟨b,0,none⟩) len len) len l :: bs) (wpList P ops Q rest)) : At dfs n L H w0 bs (wpList P ops Q (⟨some t,.buildSlice T len ps.toArray,ty,pos,aft,none⟩ :: rest)) :=
 .bl hv hb ht fun b => reSt (fun _ s => s.boxRowZ hz hl) (h b)
theorem At.rs {e : TypeId} {size k : Nat} {r : Value} {xs : List Value} {G : Act → World → Prop} (hm : Res.row e size r k xs ∈ bs) (hk : 0 < k) (h : ∀ g c,r = .slice (some ⟨g,0,none⟩) k c → At dfs n L H w0 bs G) : At dfs n L H w0 bs G := fun a W f s => by
 have ho : W.ownsRow w0.heap.size e size r k xs := (s.own _ hm).1
 rcases ho.2 with ⟨hr,h0⟩ | ⟨g,cap,cur,hr,_⟩
 ·omega
 ·exact h g cap hr a W f s
theorem Yl.fld {i : Nat} {u : Value} (hx : ev L x = some v) (hr : ∀ W,(Instr.field T v i).run P W = .ok u W) {gd : Option (Nat × Bool)} : Yl P L H w0 bs ⟨d,.field T x i,ty,pos,aft,gd⟩ u := .of_run fun a W f s => by
 unfold execOp
 simp only [f x _ hx,Sem.run_bind,hr W,Result.andThen,Sem.run_pure]
theorem setsL_app : ∀ (vs l more : List Value) (off : Nat),off + vs.length ≤ l.length → setsL (l ++ more) off vs = setsL l off vs ++ more
 | [],l,more,off,_ => rfl
 | v :: r,l,more,off,h => by
  unfold setsL
  rw [List.length_cons] at h
  rw [List.set_append_left _ _ (by omega)]
  exact setsL_app r (l.set off v) more (off + 1) (by rw [List.length_set];omega)
theorem setsL_right : ∀ (vs p l : List Value) (off : Nat),setsL (p ++ l) (p.length + off) vs = p ++ setsL l off vs
 | [],p,l,off => rfl
 | v :: r,p,l,off => by
  unfold setsL
  rw [List.set_append_right _ _ (by omega),show p.length + off - p.length = off by omega,Nat.add_assoc]
  exact setsL_right r p (l.set off v) (off + 1)
theorem RepZ.put {H : Hp} {z : Nat} {d : D} {vs : List Value} (hd : Rep H d vs) (hz : vs.length = z) : ∀ {ds : List D} {l : List Value} {i : Nat},RepZ H z ds l → i < ds.length → RepZ H z (ds.set i d) (setsL l (i * z) vs)
 | [],l,i,_,hi => by simp at hi
 | d0 :: r,l,0,h,_ => by
  unfold RepZ at h
  obtain ⟨x,y,rfl,h1,h2,h3⟩ := h
  rw [List.set_cons_zero,Nat.zero_mul,setsL_app _ _ _ _ (by omega)]
  have := setsL_all vs [] x (by omega)
  simp only [List.nil_append,List.length_nil] at this
  rw [this]
  unfold RepZ
  exact ⟨vs,y,rfl,hz,hd,h3⟩
 | d0 :: r,l,i + 1,h,hi => by
  unfold RepZ at h
  obtain ⟨x,y,rfl,h1,h2,h3⟩ := h
  have := RepZ.put hd hz (i := i) h3 (by simpa using hi)
  rw [List.set_cons_succ,show (i + 1) * z = x.length + i * z by rw [h1,Nat.succ_mul];omega,setsL_right]
  unfold RepZ
  exact ⟨x,_,rfl,h1,h2,this⟩
theorem setsL_len : ∀ (vs l : List Value) (off : Nat),(setsL l off vs).length = l.length
 | [],l,off => rfl
 | v :: r,l,off => by unfold setsL;rw [setsL_len r,List.length_set]
variable {N hn i : Nat} {pa : List (Nat × Oper × Value)} {E : Sl → Hp → List Res → Prop} {q : PlT} {fr : List (Nat × Nat × Oper)}
theorem AltT.apD {e : TypeId} {size bytes m c k : Nat} {p : Option Addr} {r : Value} {xs : List Value} {ds : List D} {bs' : List Value → Value → List Res} (hT : rowN P T = some (e,size,bytes)) (hx : ev L x = some r)
 (hm : ∀ news r',Upd bs (.row e size r k xs) (.row e size r' (k + m) (xs ++ news)) (bs' news r')) (hy : ev L y = some (.slice p m c)) (hr : Rep H (.seq size ds) [.slice p m c])
 (h63 : k + m ≤ maxLen) (hb : (k + m) * bytes ≤ 140737488355328) (ht : Nat.blt t N = true)
 (hr2 : ∀ news r',RedoP dfs P ops hn w0 N L H (bs' news r') i pa) (h : ∀ news p c,RepZ H size ds news → FlowT dfs P ops hn w0 N E q pa ((t,.slice p (k + m) c) :: L) H (bs' news (.slice p (k + m) c))) :
 AltT dfs P ops hn w0 N E i 2 ⟨some t,.call ⟨.builtin .append,#[x,y],#[T,T]⟩,ty,pos,aft,none⟩ q pa L H bs :=
 ⟨blt_of ht,appendD hT hx hm hy hr h63 hb ht fun news r' hz => At.ra (hm news r').new fun p c e => by subst e;exact AltT.into (.inr<|.inr<|hr2 _ _) (h news p c hz)⟩
theorem FlowP.apD {e : TypeId} {size bytes m c k : Nat} {p : Option Addr} {r : Value} {xs : List Value} {ds : List D} {bs' : List Value → Value → List Res} (hT : rowN P T = some (e,size,bytes)) (hx : ev L x = some r)
 (hm : ∀ news r',Upd bs (.row e size r k xs) (.row e size r' (k + m) (xs ++ news)) (bs' news r')) (hy : ev L y = some (.slice p m c)) (hr : Rep H (.seq size ds) [.slice p m c])
 (h63 : k + m ≤ maxLen) (hb : (k + m) * bytes ≤ 140737488355328) (ht : Nat.blt t N = true)
 (hr2 : ∀ news r',RedoP dfs P ops hn w0 N L H (bs' news r') i pa) (h : ∀ news p c,RepZ H size ds news → FlowP dfs P ops hn w0 N E fr pa ((t,.slice p (k + m) c) :: L) H (bs' news (.slice p (k + m) c))) :
 FlowP dfs P ops hn w0 N E ((i,3,⟨some t,.call ⟨.builtin .append,#[x,y],#[T,T]⟩,ty,pos,aft,none⟩) :: fr) pa L H bs :=
 ⟨blt_of ht,appendD hT hx hm hy hr h63 hb ht fun news r' hz => At.ra (hm news r').new fun p c e => by subst e;exact FlowP.into (.inr<|.inr<|hr2 _ _) (h news p c hz)⟩
theorem FlowP.apD0 {e : TypeId} {size bytes m c : Nat} {p : Option Addr} {r : Value} {ds : List D} {bs' : List Value → Value → List Res} (hT : rowN P T = some (e,size,bytes)) (hx : ev L x = some r)
 (hm : ∀ news r',Upd bs (.row e size r 0 []) (.row e size r' m news) (bs' news r')) (hy : ev L y = some (.slice p m c)) (hr : Rep H (.seq size ds) [.slice p m c])
 (h63 : m ≤ maxLen) (hb : m * bytes ≤ 140737488355328) (ht : Nat.blt t N = true)
 (hr2 : ∀ news r',RedoP dfs P ops hn w0 N L H (bs' news r') i pa) (h : ∀ news p c,RepZ H size ds news → FlowP dfs P ops hn w0 N E fr pa ((t,.slice p m c) :: L) H (bs' news (.slice p m c))) :
 FlowP dfs P ops hn w0 N E ((i,3,⟨some t,.call ⟨.builtin .append,#[x,y],#[T,T]⟩,ty,pos,aft,none⟩) :: fr) pa L H bs :=
 .apD hT hx (k := 0) (xs := []) (fun news r' => by rw [Nat.zero_add];exact hm news r') hy hr (by omega) (by rw [Nat.zero_add];exact hb) ht hr2 fun news p c hz => by rw [Nat.zero_add];exact h news p c hz
end
end Go.Sx
