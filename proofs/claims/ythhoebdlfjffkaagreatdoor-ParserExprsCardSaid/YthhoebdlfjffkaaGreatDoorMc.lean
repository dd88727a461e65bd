/- Texts of the proof, one behind the other. -/
import Derived.Test.YthhoebdlfjffkaaGreatDoorMb
import Derived.Shelf.Strconv.Itoa0
import Derived.Shelf.Strconv.Itoa1
import Derived.Shelf.LaysM
import Derived.Shelf.Strconv.Itoa2
import Derived.Shelf.Strconv.Itoa3
import Derived.Shelf.Strconv.Itoa4
import Derived.Shelf.Strings.Prefix
import Derived.Test.YthhoebdlfjffkaaGreatDoorProg
import Derived.ProofKit
import Derived.Lib.LaidTab
import Derived.Deep.Slices
import Derived.Deep.Fields
import Derived.OpenShut
import Derived.ChangeKeysEq
import Derived.RangeFuncNested
import Derived.RangeFuncLeaves
import Derived.RangeFuncCalls
import Derived.OwnWalkIn
import Derived.TacticsIn
set_option linter.all false
namespace Go.Proofs.YthhoebdlfjffkaaGreatDoor
open Go.RowKit Go.Par Go.Sx
set_option maxRecDepth 100000 in
theorem checkExpr_any (H : Hp) (G : Gl H) (e : Ex) (cs : List Value) (h : Rep H (dEx .u8 e) cs) (he : e.depth ≤ 1000000) (w : World) (hA : Agr H w) :
 Calls Tryz.prog 15 #[.agg cs.toArray] w fun r w' => r = .returned (.int .i64 (checkE e : Nat)) ∧ Ext w w' := by
 obtain ⟨op,nm,nn,args⟩ := e
 obtain ⟨p,c,rfl,hs,hnm⟩ := ex_open h
 refine Sx.enter (H := H) Tryz.func15 rfl Tryz.ntmps15 rfl hA ?_
 refine .sr<|.bx Z Z Z fun b1 => ?_
 refine Sx.freezeBox fun H1 u1 m1 => ?_
 refine .a Z Z<|.nt<|.sq<|.bk<|.sr<|.yv (.loadMW Z Fx.agg27 m1 Z) Z<|.yv (.call Fx.call29 Z (fun W s => exprDepth_any _ H1 _ W (h.up u1.up) he s.agr)) Z<|.yv (.gtr Z Z) Z<|.a Z Z<|.nt<|.cd Z (fun h3 => ?_) (fun h3 => ?_)
 ·try simp only [dt] at h3
  refine .sr<|.a Z Z<|.nt<|.rt<|.bR<|.tR<|?_
  refine Sx.ret1 (.inl rfl) rfl (.tmp rfl) fun W s => ⟨?_,s.ext⟩
  first
   | (rw [checkE,if_pos (by omega)];rfl)
   | (rw [checkE,if_neg (by omega),if_pos (by simpa using h7)];rfl)
   | (rw [checkE,if_neg (by omega),if_neg (by simpa using h7),if_pos (by simpa using h10)];rfl)
   | (rw [checkE,if_neg (by omega),if_neg (by simpa using h7),if_neg (by simpa using h10)];rfl)
 try simp only [df] at h3
 refine .sr<|.yv (.call Fx.call30 Z (fun W s => everyExpr_any 31 namE namedExpr_any H1 (G.up u1.up) _ _ b1 0 W (h.up u1.up) m1 s.agr)) Z<|.yv (.not Z) Z<|.a Z Z<|.nt<|.cd Z (fun h7 => ?_) (fun h7 => ?_)
 ·skip
  refine .sr<|.a Z Z<|.nt<|.rt<|.bR<|.tR<|?_
  refine Sx.ret1 (.inl rfl) rfl (.tmp rfl) fun W s => ⟨?_,s.ext⟩
  first
   | (rw [checkE,if_pos (by omega)];rfl)
   | (rw [checkE,if_neg (by omega),if_pos (by simpa using h7)];rfl)
   | (rw [checkE,if_neg (by omega),if_neg (by simpa using h7),if_pos (by simpa using h10)];rfl)
   | (rw [checkE,if_neg (by omega),if_neg (by simpa using h7),if_neg (by simpa using h10)];rfl)
 skip
 refine .sr<|.yv (.call Fx.call30 Z (fun W s => everyExpr_any 32 frmE formedExpr_any H1 (G.up u1.up) _ _ b1 0 W (h.up u1.up) m1 s.agr)) Z<|.yv (.not Z) Z<|.a Z Z<|.nt<|.cd Z (fun h10 => ?_) (fun h10 => ?_)
 ·skip
  refine .sr<|.a Z Z<|.nt<|.rt<|.bR<|.tR<|?_
  refine Sx.ret1 (.inl rfl) rfl (.tmp rfl) fun W s => ⟨?_,s.ext⟩
  first
   | (rw [checkE,if_pos (by omega)];rfl)
   | (rw [checkE,if_neg (by omega),if_pos (by simpa using h7)];rfl)
   | (rw [checkE,if_neg (by omega),if_neg (by simpa using h7),if_pos (by simpa using h10)];rfl)
   | (rw [checkE,if_neg (by omega),if_neg (by simpa using h7),if_neg (by simpa using h10)];rfl)
 skip
 refine .sk<|.bN<|.tN<|.sr<|.a Z Z<|.nt<|.rt<|?_
 refine Sx.ret1 (.inl rfl) rfl (.tmp rfl) fun W s => ⟨?_,s.ext⟩
 first
  | (rw [checkE,if_pos (by omega)];rfl)
  | (rw [checkE,if_neg (by omega),if_pos (by simpa using h7)];rfl)
  | (rw [checkE,if_neg (by omega),if_neg (by simpa using h7),if_pos (by simpa using h10)];rfl)
  | (rw [checkE,if_neg (by omega),if_neg (by simpa using h7),if_neg (by simpa using h10)];rfl)
set_option maxRecDepth 100000 in
theorem within_any (gf : FuncId) (q : Ex → Bool) (hg : ExFn gf q) (H : Hp) (G : Gl H) (kd : UInt8) (nm hd : Str) (ex : List Ex) (th el : List Sm) (cs : List Value) (b o : Nat) (w : World) (h : Rep H (dSm .u8 (.mk kd nm hd ex th el)) cs) (hm : MemAt H b o cs) (hA : Agr H w) :
 Calls Tryz.prog 142 #[.pointer (some ⟨b,o,none⟩),.func (.func gf) #[] #[]] w fun r w' => r = .returned (.bool (Ex.alls q ex)) ∧ Ext w w' := by
 obtain ⟨p,c,p1,c1,p2,c2,rfl,hs,hs1,hs2,hn1,hn2⟩ := sm_open h
 have hcap := hs.cap
 refine Sx.enter (H := H) Tryz.func142 rfl Tryz.ntmps142 rfl hA ?_
 refine .sr<|.a Z Z<|.nt<|.sq<|.sr<|.m Z Z<|.yv (.nilCheck Z) Z<|.yv (.fieldAddr Z Fx.field208_3) Z<|.yv (.loadM Z Fx.agg25 hm (k := 3) Z Z) Z<|.yv (.lenSl Fx.sl25 Z) Z<|.m Z Z<|.nt<|.bk<|.lp (X := Nat) [(0,_),(1,_),(10,_)] ⟨rfl,rfl,rfl,trivial⟩ [] (fun k => [(11,.int .i64 (k : Nat))]) (fun k => H) (fun k => []) (fun k => k ≤ ex.length ∧ Ex.alls q (ex.take k) = true) (fun k => ex.length - k) 0 (fun _ s => s) ⟨rfl,trivial⟩ ⟨by omega,rfl⟩ fun k hC => ?_
 obtain ⟨hk0,hal⟩ := hC
 refine .sr<|.yv (.lss Z Z) Z<|.nt<|.sq<|.cd Z (fun h12 => ?_) (fun h12 => ?_)
 ·try simp only [dt] at h12
  have hk : k < ex.length := by omega
  obtain ⟨b5,o5,c5,hp5,r5,l5,m5⟩ := hs.elem (map_at hk)
  cases hp5
  refine .sk<|.tN<|.sq<|.bk<|.sr<|.m Z Z<|.a Z Z<|.ns<|.m Z Z<|.yv (.nilCheck Z) Z<|.yv (.fieldAddr Z Fx.field208_3) Z<|.yv (.loadM Z Fx.agg25 hm (k := 3) Z Z) Z<|.m Z Z<|.yv (.indexSl Fx.sl25 Z Z Z (by omega) (q := o5 + k * 4) Z) Z<|.m Z Z<|.yv (.call Fx.call30 Z (fun W s => everyExpr_any gf q hg H G _ c5 b5 (o5 + k * 4) W r5 m5 s.agr)) Z<|.yv (.not Z) Z<|.nt<|.cd Z (fun h22 => ?_) (fun h22 => ?_)
  ·skip
   refine .sr<|.a Z Z<|.nt<|.rt<|.bR<|.tR<|.tR<|.bR<|.tR<|?_
   refine Sx.ret1 (.inl rfl) rfl (.tmp rfl) fun W s => ⟨retB ?_,s.ext⟩
   first
    | (rw [alls_bad hk (by simpa using h22)])
    | (rw [hal])
  skip
  exact .sk<|.bN<|.tN<|.rg<|.yv (.add Z Z (w6 (by omega))) Z<|.m Z Z<|.nt<|.ag (k + 1) ⟨rfl,trivial⟩ ⟨rfl,rfl,rfl,trivial⟩ (fun _ s => s) ⟨by omega,by rw [alls_succ hk,hal];simpa using h22⟩ (by omega)
 try simp only [df] at h12
 obtain rfl : k = ex.length := by omega
 rw [List.take_length] at hal
 refine .ex<|.tE<|.tE<|.bE<|.tN<|.sr<|.a Z Z<|.nt<|.rt<|?_
 refine Sx.ret1 (.inl rfl) rfl (.tmp rfl) fun W s => ⟨retB ?_,s.ext⟩
 first
  | (rw [alls_bad hk (by simpa using h22)])
  | (rw [hal])
def SmFn (gf : FuncId) (q : Sm → Bool) : Prop := callN Tryz.prog gf = true ∧ ∀ (H : Hp),Gl H → ∀ (e : Sm) (cs : List Value) (b o : Nat) (w : World),Rep H (dSm .u8 e) cs → MemAt H b o cs → okS1 e = true → Agr H w →
 Calls Tryz.prog gf #[.pointer (some ⟨b,o,none⟩)] w fun r w' => r = .returned (.bool (q e)) ∧ Ext w w'
set_option maxRecDepth 100000 in
theorem namedStmt_any : SmFn 105 namS := by
 refine ⟨Fx.call105,fun H G e cs b o w h hm hok hA => ?_⟩
 obtain ⟨kd,nm,hd,ex,th,el⟩ := e
 obtain ⟨p,c,p1,c1,p2,c2,rfl,hs,hs1,hs2,hn1,hn2⟩ := sm_open h
 have hcap := hs.cap
 have hcap1 := hs1.cap
 have hcap2 := hs2.cap
 refine Sx.enter (H := H) Tryz.func105 rfl Tryz.ntmps105 rfl hA ?_
 refine .sr<|.a Z Z<|.ns<|.m Z Z<|.yv (.nilCheck Z) Z<|.yv (.fieldAddr Z Fx.field208_0) Z<|.yv (.loadM Z Fx.agg206 hm (k := 0) Z Z) Z<|.yv (.call Fx.call141 Z (fun W s => form_any H G kd W s.agr)) Z<|.m Z Z<|.yv (.extract Z Z) Z<|.yv (.extract Z Z) Z<|.al Fx.zero236 Z fun b3 => .sV .head Z Z Fx.size236 Z (by simp [formC,Value.oneCell']) Z<|.a Z Z<|.nt<|.sq<|.sr<|.yv (.fieldAddr Z Fx.field236_0) Z<|.yv (.load Z Fx.agg4 (.head _) Z) Z<|.m Z Z<|.b2 (fun h15 => ?_) (fun h15 => ?_)
 ·skip
  refine .gd Z Z<|.yv (.move Z) Z<|.gd Z Z<|.yv (.nilCheck Z) Z<|.gd Z Z<|.yv (.fieldAddr Z Fx.field208_1) Z<|.gd Z Z<|.yv (.loadM Z Fx.agg9 hm (k := 1) Z Z) Z<|.gd Z Z<|.yv (.call Fx.call58 Z (fun W s => isName_any H G nm (by omega) W s.agr)) Z<|.gd Z Z<|.yv (.not Z) Z<|.yv (.pickT Z Z) Z<|.m Z Z<|.b2 (fun h23 => ?_) (fun h23 => ?_)
  ·skip
   refine .gF Z Z Z Z<|.gF Z Z Z Z<|.gF Z Z Z Z<|.gU Z Z Z<|.gU Z Z Z<|.gU Z Z Z<|.gU Z Z Z<|.gU Z Z Z<|.gU Z Z Z<|.gF Z Z Z Z<|.yv (.pickT Z Z) Z<|.nt<|.cT Z<|.sr<|.a Z Z<|.nt<|.rt<|.tR<|?_
   refine Sx.ret1 (.inl rfl) rfl (.tmp rfl) fun W s => ⟨retB ?_,s.ext⟩
   first
    | (simp only [namS];simp_all)
  skip
  refine .gd Z Z<|.yv (.fieldAddr Z Fx.field236_1) Z<|.gd Z Z<|.yv (.load Z Fx.agg4 (.head _) Z) Z<|.gd Z Z<|.yv (.move Z) Z<|.b2 (fun h26 => ?_) (fun h26 => ?_)
  ·skip
   refine .gd Z Z<|.yv (.move Z) Z<|.gd Z Z<|.yv (.nilCheck Z) Z<|.gd Z Z<|.yv (.fieldAddr Z Fx.field208_2) Z<|.gd Z Z<|.yv (.loadM Z Fx.agg9 hm (k := 2) Z Z) Z<|.gd Z Z<|.yv (.call Fx.call58 Z (fun W s => isName_any H G hd (by omega) W s.agr)) Z<|.gd Z Z<|.yv (.not Z) Z<|.gd Z Z<|.yv (.pickT Z Z) Z<|.yv (.pickF Z Z) Z<|.nt<|.cd Z (fun h34 => ?_) (fun h34 => ?_)
   ·skip
    refine .sr<|.a Z Z<|.nt<|.rt<|.tR<|?_
    refine Sx.ret1 (.inl rfl) rfl (.tmp rfl) fun W s => ⟨retB ?_,s.ext⟩
    first
     | (simp only [namS];simp_all)
   skip
   refine .sk<|.tN<|.sr<|.m Z Z<|.yv (.call Fx.call142 Z (fun W s => within_any 31 namE namedExpr_any H G _ _ _ _ _ _ _ b o W h hm s.agr)) Z<|.a Z Z<|.nt<|.rt<|?_
   refine Sx.ret1 (.inl rfl) rfl (.tmp rfl) fun W s => ⟨retB ?_,s.ext⟩
   first
    | (simp only [namS];simp_all)
  skip
  refine .gF Z Z Z Z<|.gF Z Z Z Z<|.gF Z Z Z Z<|.gF Z Z Z Z<|.gF Z Z Z Z<|.gF Z Z Z Z<|.gd Z Z<|.yv (.pickF Z Z) Z<|.yv (.pickF Z Z) Z<|.nt<|.cF Z<|.sk<|.tN<|.sr<|.m Z Z<|.yv (.call Fx.call142 Z (fun W s => within_any 31 namE namedExpr_any H G _ _ _ _ _ _ _ b o W h hm s.agr)) Z<|.a Z Z<|.nt<|.rt<|?_
  refine Sx.ret1 (.inl rfl) rfl (.tmp rfl) fun W s => ⟨retB ?_,s.ext⟩
  first
   | (simp only [namS];simp_all)
 skip
 refine .gF Z Z Z Z<|.gF Z Z Z Z<|.gF Z Z Z Z<|.gF Z Z Z Z<|.gF Z Z Z Z<|.gF Z Z Z Z<|.yv (.pickF Z Z) Z<|.m Z Z<|.gd Z Z<|.yv (.fieldAddr Z Fx.field236_1) Z<|.gd Z Z<|.yv (.load Z Fx.agg4 (.head _) Z) Z<|.gd Z Z<|.yv (.move Z) Z<|.b2 (fun h26 => ?_) (fun h26 => ?_)
 ·skip
  refine .gd Z Z<|.yv (.move Z) Z<|.gd Z Z<|.yv (.nilCheck Z) Z<|.gd Z Z<|.yv (.fieldAddr Z Fx.field208_2) Z<|.gd Z Z<|.yv (.loadM Z Fx.agg9 hm (k := 2) Z Z) Z<|.gd Z Z<|.yv (.call Fx.call58 Z (fun W s => isName_any H G hd (by omega) W s.agr)) Z<|.gd Z Z<|.yv (.not Z) Z<|.gd Z Z<|.yv (.pickT Z Z) Z<|.yv (.pickF Z Z) Z<|.nt<|.cd Z (fun h34 => ?_) (fun h34 => ?_)
  ·skip
   refine .sr<|.a Z Z<|.nt<|.rt<|.tR<|?_
   refine Sx.ret1 (.inl rfl) rfl (.tmp rfl) fun W s => ⟨retB ?_,s.ext⟩
   first
    | (simp only [namS];simp_all)
  skip
  refine .sk<|.tN<|.sr<|.m Z Z<|.yv (.call Fx.call142 Z (fun W s => within_any 31 namE namedExpr_any H G _ _ _ _ _ _ _ b o W h hm s.agr)) Z<|.a Z Z<|.nt<|.rt<|?_
  refine Sx.ret1 (.inl rfl) rfl (.tmp rfl) fun W s => ⟨retB ?_,s.ext⟩
  first
   | (simp only [namS];simp_all)
 skip
 refine .gF Z Z Z Z<|.gF Z Z Z Z<|.gF Z Z Z Z<|.gF Z Z Z Z<|.gF Z Z Z Z<|.gF Z Z Z Z<|.gd Z Z<|.yv (.pickF Z Z) Z<|.yv (.pickF Z Z) Z<|.nt<|.cF Z<|.sk<|.tN<|.sr<|.m Z Z<|.yv (.call Fx.call142 Z (fun W s => within_any 31 namE namedExpr_any H G _ _ _ _ _ _ _ b o W h hm s.agr)) Z<|.a Z Z<|.nt<|.rt<|?_
 refine Sx.ret1 (.inl rfl) rfl (.tmp rfl) fun W s => ⟨retB ?_,s.ext⟩
 first
  | (simp only [namS];simp_all)
set_option maxRecDepth 100000 in
theorem formedStmt_any : SmFn 108 frmS := by
 refine ⟨Fx.call108,fun H G e cs b o w h hm hok hA => ?_⟩
 obtain ⟨kd,nm,hd,ex,th,el⟩ := e
 obtain ⟨p,c,p1,c1,p2,c2,rfl,hs,hs1,hs2,hn1,hn2⟩ := sm_open h
 have hcap := hs.cap
 have hcap1 := hs1.cap
 have hcap2 := hs2.cap
 refine Sx.enter (H := H) Tryz.func108 rfl Tryz.ntmps108 rfl hA ?_
 refine .sr<|.a Z Z<|.ns<|.m Z Z<|.yv (.nilCheck Z) Z<|.yv (.fieldAddr Z Fx.field208_0) Z<|.yv (.loadM Z Fx.agg206 hm (k := 0) Z Z) Z<|.yv (.call Fx.call141 Z (fun W s => form_any H G kd W s.agr)) Z<|.m Z Z<|.yv (.extract Z Z) Z<|.yv (.extract Z Z) Z<|.al Fx.zero236 Z fun b3 => .sV .head Z Z Fx.size236 Z (by simp [formC,Value.oneCell']) Z<|.a Z Z<|.nt<|.sq<|.sr<|.m Z Z<|.yv (.nilCheck Z) Z<|.yv (.fieldAddr Z Fx.field208_3) Z<|.yv (.loadM Z Fx.agg25 hm (k := 3) Z Z) Z<|.yv (.lenSl Fx.sl25 Z) Z<|.a Z Z<|.nt<|.bk<|.cu (X := Bool) [(0,_),(3,_)] ⟨rfl,rfl,trivial⟩ (fun z => [(19,.bool z)]) (fun z => H) (fun z => [.box b3 (formC (formOf kd)) 236]) (fun z => z = (!okKd kd || decide ((ex.length : Int) < ((formOf kd).lo : Nat)) || decide (((formOf kd).hi : Nat) < (ex.length : Int)))) ?_ fun z hC => ?_
 ·
  refine .sr<|.m Z Z<|.yv (.not Z) Z<|.a Z Z<|.nt<|.cd Z (fun h19 => ?_) (fun h19 => ?_)
  ·skip
   exact .sk<|.tN<|.me _ ⟨rfl,trivial⟩ ⟨rfl,rfl,trivial⟩ (fun _ s => s) (by first | (simp_all;done) | (simp_all;omega) | (simp_all;intros;omega))
  skip
  refine .sr<|.m Z Z<|.yv (.fieldAddr Z Fx.field236_2) Z<|.yv (.load Z Fx.agg3 (.head _) Z) Z<|.yv (.lss Z Z) Z<|.a Z Z<|.nt<|.cd Z (fun h19 => ?_) (fun h19 => ?_)
  ·skip
   exact .sk<|.tN<|.me _ ⟨rfl,trivial⟩ ⟨rfl,rfl,trivial⟩ (fun _ s => s) (by first | (simp_all;done) | (simp_all;omega) | (simp_all;intros;omega))
  skip
  exact .rg<|.m Z Z<|.yv (.fieldAddr Z Fx.field236_3) Z<|.yv (.load Z Fx.agg3 (.head _) Z) Z<|.yv (.gtr Z Z) Z<|.a Z Z<|.nt<|.me _ ⟨rfl,trivial⟩ ⟨rfl,rfl,trivial⟩ (fun _ s => s) (by first | (simp_all;done) | (simp_all;omega) | (simp_all;intros;omega))
 have e1 := hC
 refine .cd Z (fun h19 => ?_) (fun h19 => ?_)
 ·skip
  refine .sr<|.a Z Z<|.nt<|.rt<|.bR<|.tR<|?_
  refine Sx.ret1 (.inl rfl) rfl (.tmp rfl) fun W s => ⟨retB ?_,s.ext⟩
  first
   | (rw [frmS_eq,← e1,← e2,← e3,h19,h30,h51];simp)
   | (rw [frmS_eq,← e1,← e2,← e3,h19,h30,h51];rfl)
   | (rw [frmS_eq,← e1,← e2,h19,h30];rfl)
   | (rw [frmS_eq,← e1,h19];rfl)
 skip
 refine .cu (X := Bool) [(0,_),(3,_)] ⟨rfl,rfl,trivial⟩ (fun z => [(30,.bool z)]) (fun z => H) (fun z => [.box b3 (formC (formOf kd)) 236]) (fun z => z = ((!(formOf kd).nm && decide (¬ nm = [])) || (!(formOf kd).hd && decide (¬ hd = [])))) ?_ fun z hC => ?_
 ·
  refine .sr<|.yv (.fieldAddr Z Fx.field236_0) Z<|.yv (.load Z Fx.agg4 (.head _) Z) Z<|.yv (.not Z) Z<|.m Z Z<|.b2 (fun h34 => ?_) (fun h34 => ?_)
  ·skip
   refine .gd Z Z<|.yv (.move Z) Z<|.gd Z Z<|.yv (.nilCheck Z) Z<|.gd Z Z<|.yv (.fieldAddr Z Fx.field208_1) Z<|.gd Z Z<|.yv (.loadM Z Fx.agg9 hm (k := 1) Z Z) Z<|.gd Z Z<|.yv (.neS Z Z) Z<|.yv (.pickT Z Z) Z<|.a Z Z<|.nt<|.cd Z (fun h30 => ?_) (fun h30 => ?_)
   ·skip
    exact .sk<|.tN<|.me _ ⟨rfl,trivial⟩ ⟨rfl,rfl,trivial⟩ (fun _ s => s) (by first | (simp_all;done) | (simp_all;omega) | (simp_all;intros;omega))
   skip
   refine .rg<|.yv (.fieldAddr Z Fx.field236_1) Z<|.yv (.load Z Fx.agg4 (.head _) Z) Z<|.yv (.not Z) Z<|.m Z Z<|.b2 (fun h44 => ?_) (fun h44 => ?_)
   ·skip
    exact .gd Z Z<|.yv (.move Z) Z<|.gd Z Z<|.yv (.nilCheck Z) Z<|.gd Z Z<|.yv (.fieldAddr Z Fx.field208_2) Z<|.gd Z Z<|.yv (.loadM Z Fx.agg9 hm (k := 2) Z Z) Z<|.gd Z Z<|.yv (.neS Z Z) Z<|.yv (.pickT Z Z) Z<|.a Z Z<|.nt<|.me _ ⟨rfl,trivial⟩ ⟨rfl,rfl,trivial⟩ (fun _ s => s) (by first | (simp_all;done) | (simp_all;omega) | (simp_all;intros;omega))
   skip
   exact .gF Z Z Z Z<|.gF Z Z Z Z<|.gF Z Z Z Z<|.gF Z Z Z Z<|.gF Z Z Z Z<|.yv (.pickF Z Z) Z<|.a Z Z<|.nt<|.me _ ⟨rfl,trivial⟩ ⟨rfl,rfl,trivial⟩ (fun _ s => s) (by first | (simp_all;done) | (simp_all;omega) | (simp_all;intros;omega))
  skip
  refine .gF Z Z Z Z<|.gF Z Z Z Z<|.gF Z Z Z Z<|.gF Z Z Z Z<|.gF Z Z Z Z<|.yv (.pickF Z Z) Z<|.a Z Z<|.nt<|.cF Z<|.rg<|.yv (.fieldAddr Z Fx.field236_1) Z<|.yv (.load Z Fx.agg4 (.head _) Z) Z<|.yv (.not Z) Z<|.m Z Z<|.b2 (fun h44 => ?_) (fun h44 => ?_)
  ·skip
   exact .gd Z Z<|.yv (.move Z) Z<|.gd Z Z<|.yv (.nilCheck Z) Z<|.gd Z Z<|.yv (.fieldAddr Z Fx.field208_2) Z<|.gd Z Z<|.yv (.loadM Z Fx.agg9 hm (k := 2) Z Z) Z<|.gd Z Z<|.yv (.neS Z Z) Z<|.yv (.pickT Z Z) Z<|.a Z Z<|.nt<|.me _ ⟨rfl,trivial⟩ ⟨rfl,rfl,trivial⟩ (fun _ s => s) (by first | (simp_all;done) | (simp_all;omega) | (simp_all;intros;omega))
  skip
  exact .gF Z Z Z Z<|.gF Z Z Z Z<|.gF Z Z Z Z<|.gF Z Z Z Z<|.gF Z Z Z Z<|.yv (.pickF Z Z) Z<|.a Z Z<|.nt<|.me _ ⟨rfl,trivial⟩ ⟨rfl,rfl,trivial⟩ (fun _ s => s) (by first | (simp_all;done) | (simp_all;omega) | (simp_all;intros;omega))
 have e2 := hC
 refine .cd Z (fun h30 => ?_) (fun h30 => ?_)
 ·skip
  refine .sr<|.a Z Z<|.nt<|.rt<|.bR<|.tR<|?_
  refine Sx.ret1 (.inl rfl) rfl (.tmp rfl) fun W s => ⟨retB ?_,s.ext⟩
  first
   | (rw [frmS_eq,← e1,← e2,← e3,h19,h30,h51];simp)
   | (rw [frmS_eq,← e1,← e2,← e3,h19,h30,h51];rfl)
   | (rw [frmS_eq,← e1,← e2,h19,h30];rfl)
   | (rw [frmS_eq,← e1,h19];rfl)
 skip
 refine .cu (X := Bool) [(0,_)] ⟨rfl,trivial⟩ (fun z => [(51,.bool z)]) (fun z => H) (fun z => [.box b3 (formC (formOf kd)) 236]) (fun z => z = ((!(formOf kd).th && decide ((0 : Int) < th.length)) || (!(formOf kd).el && decide ((0 : Int) < el.length)))) ?_ fun z hC => ?_
 ·
  refine .sr<|.yv (.fieldAddr Z Fx.field236_4) Z<|.yv (.load Z Fx.agg4 (.head _) Z) Z<|.yv (.not Z) Z<|.m Z Z<|.b2 (fun h55 => ?_) (fun h55 => ?_)
  ·skip
   refine .gd Z Z<|.yv (.move Z) Z<|.gd Z Z<|.yv (.nilCheck Z) Z<|.gd Z Z<|.yv (.fieldAddr Z Fx.field208_4) Z<|.gd Z Z<|.yv (.loadM Z Fx.agg159 hm (k := 4) Z Z) Z<|.gd Z Z<|.yv (.lenSl Fx.sl159 Z) Z<|.gd Z Z<|.yv (.gtr Z Z) Z<|.yv (.pickT Z Z) Z<|.a Z Z<|.nt<|.cd Z (fun h51 => ?_) (fun h51 => ?_)
   ·skip
    exact .sk<|.tN<|.me _ ⟨rfl,trivial⟩ ⟨rfl,trivial⟩ (fun _ s => s) (by first | (simp_all;done) | (simp_all;omega) | (simp_all;intros;omega))
   skip
   refine .rg<|.yv (.fieldAddr Z Fx.field236_5) Z<|.yv (.load Z Fx.agg4 (.head _) Z) Z<|.yv (.not Z) Z<|.m Z Z<|.b2 (fun h66 => ?_) (fun h66 => ?_)
   ·skip
    exact .gd Z Z<|.yv (.move Z) Z<|.gd Z Z<|.yv (.nilCheck Z) Z<|.gd Z Z<|.yv (.fieldAddr Z Fx.field208_5) Z<|.gd Z Z<|.yv (.loadM Z Fx.agg159 hm (k := 5) Z Z) Z<|.gd Z Z<|.yv (.lenSl Fx.sl159 Z) Z<|.gd Z Z<|.yv (.gtr Z Z) Z<|.yv (.pickT Z Z) Z<|.a Z Z<|.nt<|.me _ ⟨rfl,trivial⟩ ⟨rfl,trivial⟩ (fun _ s => s) (by first | (simp_all;done) | (simp_all;omega) | (simp_all;intros;omega))
   skip
   exact .gF Z Z Z Z<|.gF Z Z Z Z<|.gF Z Z Z Z<|.gF Z Z Z Z<|.gF Z Z Z Z<|.gF Z Z Z Z<|.yv (.pickF Z Z) Z<|.a Z Z<|.nt<|.me _ ⟨rfl,trivial⟩ ⟨rfl,trivial⟩ (fun _ s => s) (by first | (simp_all;done) | (simp_all;omega) | (simp_all;intros;omega))
  skip
  refine .gF Z Z Z Z<|.gF Z Z Z Z<|.gF Z Z Z Z<|.gF Z Z Z Z<|.gF Z Z Z Z<|.gF Z Z Z Z<|.yv (.pickF Z Z) Z<|.a Z Z<|.nt<|.cF Z<|.rg<|.yv (.fieldAddr Z Fx.field236_5) Z<|.yv (.load Z Fx.agg4 (.head _) Z) Z<|.yv (.not Z) Z<|.m Z Z<|.b2 (fun h66 => ?_) (fun h66 => ?_)
  ·skip
   exact .gd Z Z<|.yv (.move Z) Z<|.gd Z Z<|.yv (.nilCheck Z) Z<|.gd Z Z<|.yv (.fieldAddr Z Fx.field208_5) Z<|.gd Z Z<|.yv (.loadM Z Fx.agg159 hm (k := 5) Z Z) Z<|.gd Z Z<|.yv (.lenSl Fx.sl159 Z) Z<|.gd Z Z<|.yv (.gtr Z Z) Z<|.yv (.pickT Z Z) Z<|.a Z Z<|.nt<|.me _ ⟨rfl,trivial⟩ ⟨rfl,trivial⟩ (fun _ s => s) (by first | (simp_all;done) | (simp_all;omega) | (simp_all;intros;omega))
  skip
  exact .gF Z Z Z Z<|.gF Z Z Z Z<|.gF Z Z Z Z<|.gF Z Z Z Z<|.gF Z Z Z Z<|.gF Z Z Z Z<|.yv (.pickF Z Z) Z<|.a Z Z<|.nt<|.me _ ⟨rfl,trivial⟩ ⟨rfl,trivial⟩ (fun _ s => s) (by first | (simp_all;done) | (simp_all;omega) | (simp_all;intros;omega))
 have e3 := hC
 refine .cd Z (fun h51 => ?_) (fun h51 => ?_)
 ·skip
  refine .sr<|.a Z Z<|.nt<|.rt<|.bR<|.tR<|?_
  refine Sx.ret1 (.inl rfl) rfl (.tmp rfl) fun W s => ⟨retB ?_,s.ext⟩
  first
   | (rw [frmS_eq,← e1,← e2,← e3,h19,h30,h51];simp)
   | (rw [frmS_eq,← e1,← e2,← e3,h19,h30,h51];rfl)
   | (rw [frmS_eq,← e1,← e2,h19,h30];rfl)
   | (rw [frmS_eq,← e1,h19];rfl)
 skip
 refine .sk<|.bN<|.tN<|.sr<|.m Z Z<|.yv (.call Fx.call142 Z (fun W s => within_any 32 frmE formedExpr_any H G _ _ _ _ _ _ _ b o W h hm s.agr)) Z<|.a Z Z<|.nt<|.rt<|?_
 refine Sx.ret1 (.inl rfl) rfl (.tmp rfl) fun W s => ⟨retB ?_,s.ext⟩
 first
  | (rw [frmS_eq,← e1,← e2,← e3,h19,h30,h51];simp)
  | (rw [frmS_eq,← e1,← e2,← e3,h19,h30,h51];rfl)
  | (rw [frmS_eq,← e1,← e2,h19,h30];rfl)
  | (rw [frmS_eq,← e1,h19];rfl)
theorem Fx.call104 : callN Tryz.prog 104 = Bool.true := by kernel_rfl
theorem Fx.call138 : callN Tryz.prog 138 = Bool.true := by kernel_rfl
theorem Fx.call139 : callN Tryz.prog 139 = Bool.true := by kernel_rfl
set_option maxRecDepth 100000 in
theorem every_any (gf : FuncId) (q : Sm → Bool) (hg : SmFn gf q) (H : Hp) (G : Gl H) : ∀ (l : List Sm) (p : Option Addr) (n c : Nat) (w : World),Rep H (.seq 6 (l.map (dSm .u8))) [.slice p n c] → Sm.alls okS1 l = true → Agr H w →
 Calls Tryz.prog 104 #[.slice p n c,.func (.func gf) #[] #[]] w fun r w' => r = .returned (.bool (Sm.alls q l)) ∧ Ext w w' := by
 refine Sm.lists fun l ih => ?_
 intro p n c w hs hok hA
 obtain rfl : n = l.length := by have := hs.len.1;simpa using this
 have hcap := hs.cap
 refine Sx.enter (H := H) Tryz.func104 rfl Tryz.ntmps104 rfl hA ?_
 refine .sr<|.a Z Z<|.nt<|.sq<|.sr<|.m Z Z<|.yv (.lenSl Fx.sl159 Z) Z<|.m Z Z<|.nt<|.bk<|.lp (X := Nat) [(0,_),(1,_),(8,_)] ⟨rfl,rfl,rfl,trivial⟩ [] (fun k => [(9,.int .i64 (k : Nat))]) (fun k => H) (fun k => []) (fun k => k ≤ l.length ∧ Sm.alls q (l.take k) = true) (fun k => l.length - k) 0 (fun _ s => s) ⟨rfl,trivial⟩ ⟨by omega,rfl⟩ fun k hC => ?_
 obtain ⟨hk0,hal⟩ := hC
 refine .sr<|.yv (.lss Z Z) Z<|.nt<|.sq<|.cd Z (fun h10 => ?_) (fun h10 => ?_)
 ·try simp only [dt] at h10
  have hk : k < l.length := by omega
  obtain ⟨bE,oE,cE,hpE,rE,lE,mE⟩ := hs.elem (map_at hk)
  cases hpE
  have hi := ih _ (List.getElem_mem hk)
  have hf := salls_succ (q := q) hk
  have hbad := fun h => salls_bad (q := q) hk h
  have hok1 := salls_at hk hok
  generalize hx : l[k] = x at rE hi hf hbad hok1
  obtain ⟨kd,nm,hd,ex,th,el⟩ := x
  obtain ⟨p1,c1,p2,c2,p3,c3,rfl,hs1,hs2,hs3,hn1,hn2⟩ := sm_open rE
  simp only [Sm.th,Sm.el] at hi
  simp only [sall_mk,Bool.and_eq_true] at hok1
  refine .sk<|.tN<|.sq<|.bk<|.sr<|.m Z Z<|.a Z Z<|.ns<|.m Z Z<|.m Z Z<|.yv (.indexSl Fx.sl159 Z Z Z (by omega) (q := oE + k * 6) Z) Z<|.a Z Z<|.ns<|.m Z Z<|.m Z Z<|.yv (.callV (fi := []) (ca := []) Z hg.1 Z (fun W s => hg.2 H G _ _ bE (oE + k * 6) W rE mE hok1.1.1 s.agr)) Z<|.yv (.not Z) Z<|.m Z Z<|.b2 (fun h19 => ?_) (fun h19 => ?_)
  ·skip
   refine .gF Z Z Z Z<|.gF Z Z Z Z<|.gF Z Z Z Z<|.gF Z Z Z Z<|.gF Z Z Z Z<|.gF Z Z Z Z<|.gF Z Z Z Z<|.yv (.pickT Z Z) Z<|.m Z Z<|.gF Z Z Z Z<|.gF Z Z Z Z<|.gF Z Z Z Z<|.gF Z Z Z Z<|.gF Z Z Z Z<|.gF Z Z Z Z<|.gF Z Z Z Z<|.yv (.pickT Z Z) Z<|.nt<|.cT Z<|.sr<|.a Z Z<|.nt<|.rt<|.bR<|.tR<|.tR<|.bR<|.tR<|?_
   refine Sx.ret1 (.inl rfl) rfl (.tmp rfl) fun W s => ⟨retB ?_,s.ext⟩
   first
    | (rw [hal])
    | (rw [hbad (by rw [sall_mk];simp_all)])
  skip
  refine .gd Z Z<|.yv (.move Z) Z<|.gd Z Z<|.yv (.nilCheck Z) Z<|.gd Z Z<|.yv (.fieldAddr Z Fx.field208_4) Z<|.gd Z Z<|.yv (.loadM Z Fx.agg159 mE (k := 4) Z Z) Z<|.gd Z Z<|.yv (.move Z) Z<|.gd Z Z<|.yv (.call Fx.call104 Z (fun W s => hi.1 _ _ _ W hs2 hok1.1.2 s.agr)) Z<|.gd Z Z<|.yv (.not Z) Z<|.yv (.pickF Z Z) Z<|.m Z Z<|.b2 (fun h28 => ?_) (fun h28 => ?_)
  ·skip
   refine .gF Z Z Z Z<|.gF Z Z Z Z<|.gF Z Z Z Z<|.gF Z Z Z Z<|.gF Z Z Z Z<|.gF Z Z Z Z<|.gF Z Z Z Z<|.yv (.pickT Z Z) Z<|.nt<|.cT Z<|.sr<|.a Z Z<|.nt<|.rt<|.bR<|.tR<|.tR<|.bR<|.tR<|?_
   refine Sx.ret1 (.inl rfl) rfl (.tmp rfl) fun W s => ⟨retB ?_,s.ext⟩
   first
    | (rw [hal])
    | (rw [hbad (by rw [sall_mk];simp_all)])
  skip
  refine .gd Z Z<|.yv (.move Z) Z<|.gd Z Z<|.yv (.nilCheck Z) Z<|.gd Z Z<|.yv (.fieldAddr Z Fx.field208_5) Z<|.gd Z Z<|.yv (.loadM Z Fx.agg159 mE (k := 5) Z Z) Z<|.gd Z Z<|.yv (.move Z) Z<|.gd Z Z<|.yv (.call Fx.call104 Z (fun W s => hi.2 _ _ _ W hs3 hok1.2 s.agr)) Z<|.gd Z Z<|.yv (.not Z) Z<|.yv (.pickF Z Z) Z<|.nt<|.cd Z (fun h36 => ?_) (fun h36 => ?_)
  ·skip
   refine .sr<|.a Z Z<|.nt<|.rt<|.bR<|.tR<|.tR<|.bR<|.tR<|?_
   refine Sx.ret1 (.inl rfl) rfl (.tmp rfl) fun W s => ⟨retB ?_,s.ext⟩
   first
    | (rw [hal])
    | (rw [hbad (by rw [sall_mk];simp_all)])
  skip
  exact .sk<|.bN<|.tN<|.rg<|.yv (.add Z Z (w6 (by omega))) Z<|.m Z Z<|.nt<|.ag (k + 1) ⟨rfl,trivial⟩ ⟨rfl,rfl,rfl,trivial⟩ (fun _ s => s) ⟨by omega,by rw [hf,hal,sall_mk];simp_all⟩ (by omega)
 try simp only [df] at h10
 obtain rfl : k = l.length := by omega
 rw [List.take_length] at hal
 refine .ex<|.tE<|.tE<|.bE<|.tN<|.sr<|.a Z Z<|.nt<|.rt<|?_
 refine Sx.ret1 (.inl rfl) rfl (.tmp rfl) fun W s => ⟨retB ?_,s.ext⟩
 first
  | (rw [hal])
  | (rw [hbad (by rw [sall_mk];simp_all)])
set_option maxRecDepth 100000 in
theorem statements_any (H : Hp) : ∀ (l : List Sm) (p : Option Addr) (n c : Nat) (w : World),Rep H (.seq 6 (l.map (dSm .u8))) [.slice p n c] → Sm.counts l ≤ 1000000 → Agr H w →
 Calls Tryz.prog 138 #[.slice p n c] w fun r w' => r = .returned (.int .i64 (Sm.counts l : Nat)) ∧ Ext w w' := by
 refine Sm.lists fun l ih => ?_
 intro p n c w hs hb hA
 obtain rfl : n = l.length := by have := hs.len.1;simpa using this
 have hcap := hs.cap
 have hl0 := scounts_len l
 refine Sx.enter (H := H) Tryz.func138 rfl Tryz.ntmps138 rfl hA ?_
 refine .sr<|.a Z Z<|.ns<|.m Z Z<|.yv (.lenSl Fx.sl159 Z) Z<|.a Z Z<|.nt<|.sq<|.sr<|.m Z Z<|.yv (.lenSl Fx.sl159 Z) Z<|.m Z Z<|.nt<|.bk<|.lp (X := Nat) [(0,_),(8,_)] ⟨rfl,rfl,trivial⟩ [] (fun k => [(3,.int .i64 ((l.length + (Sm.counts (l.take k) - k) : Nat) : Int)),(9,.int .i64 (k : Nat))]) (fun k => H) (fun k => []) (fun k => k ≤ l.length) (fun k => l.length - k) 0 (fun _ s => s) ⟨rfl,rfl,trivial⟩ (by omega) fun k hC => ?_
 refine .sr<|.yv (.lss Z Z) Z<|.nt<|.sq<|.cd Z (fun h10 => ?_) (fun h10 => ?_)
 ·try simp only [dt] at h10
  have hk : k < l.length := by omega
  obtain ⟨bE,oE,cE,hpE,rE,lE,mE⟩ := hs.elem (map_at hk)
  cases hpE
  have hi := ih _ (List.getElem_mem hk)
  have hf := scounts_succ hk
  have hle := scounts_take l (k + 1)
  have hlk := scounts_len (l.take k)
  rw [List.length_take,Nat.min_eq_left (by omega)] at hlk
  generalize hx : l[k] = x at rE hi hf
  obtain ⟨kd,nm,hd,ex,th,el⟩ := x
  obtain ⟨p1,c1,p2,c2,p3,c3,rfl,hs1,hs2,hs3,hn1,hn2⟩ := sm_open rE
  simp only [Sm.th,Sm.el] at hi
  rw [scount_mk] at hf
  have e1 : th.length ≤ Sm.counts th := scounts_len th
  exact .sk<|.tN<|.sq<|.bk<|.sr<|.m Z Z<|.a Z Z<|.nt<|.fl (trip := [(_,_,_),(_,_,_),(_,_,_),(_,_,_),(_,_,_),(_,_,_),(_,_,_),(_,_,_),(_,_,_),(_,_,_),(_,_,_),(_,_,_),(_,_,_),(_,_,_),(_,_,_)]) 15 [(0,0),(1,0),(2,0),(3,0),(4,0),(5,0),(6,0),(7,0),(8,0),(9,0),(10,0),(11,0),(12,0),(13,0),(14,0)] (by kernel_rfl) (by kernel_rfl) Z<|.m Z Z<|.m Z Z<|.m Z Z<|.yv (.indexSl Fx.sl159 Z Z Z (by omega) (q := oE + k * 6) Z) Z<|.yv (.fieldAddr Z Fx.field208_4) Z<|.yv (.loadM Z Fx.agg159 mE (k := 4) Z Z) Z<|.yv (.call Fx.call138 Z (fun W s => hi.1 _ _ _ W hs2 (by omega) s.agr)) Z<|.m Z Z<|.m Z Z<|.yv (.indexSl Fx.sl159 Z Z Z (by omega) (q := oE + k * 6) Z) Z<|.yv (.fieldAddr Z Fx.field208_5) Z<|.yv (.loadM Z Fx.agg159 mE (k := 5) Z Z) Z<|.yv (.call Fx.call138 Z (fun W s => hi.2 _ _ _ W hs3 (by omega) s.agr)) Z<|.yv (.add Z Z (c := ((Sm.counts th + Sm.counts el : Nat) : Int)) ((w6 (by omega)).trans (by omega))) Z<|.yv (.add Z Z (c := ((l.length + (Sm.counts (l.take (k + 1)) - (k + 1)) : Nat) : Int)) ((w6 (by omega)).trans (by omega))) Z<|.fn (tl := [_]) Z<|.a Z Z<|.nl<|.bN<|.tN<|.rg<|.yv (.add Z Z (w6 (by omega))) Z<|.m Z Z<|.nt<|.ag (k + 1) ⟨rfl,rfl,trivial⟩ ⟨rfl,rfl,trivial⟩ (fun _ s => s) (by omega) (by omega)
 try simp only [df] at h10
 obtain rfl : k = l.length := by omega
 rw [List.take_length]
 have hlk := scounts_len l
 refine .ex<|.tE<|.tE<|.bE<|.tN<|.sr<|.m Z Z<|.a Z Z<|.nt<|.rt<|?_
 refine Sx.ret1 (.inl rfl) rfl (.tmp rfl) fun W s => ⟨?_,s.ext⟩
 first
  | (rw [show l.length + (Sm.counts l - l.length) = Sm.counts l by omega])
set_option maxRecDepth 100000 in
theorem sdepth_any (H : Hp) : ∀ (l : List Sm) (p : Option Addr) (n c : Nat) (w : World),Rep H (.seq 6 (l.map (dSm .u8))) [.slice p n c] → Sm.deeps l ≤ 1000000 → Agr H w →
 Calls Tryz.prog 139 #[.slice p n c] w fun r w' => r = .returned (.int .i64 (Sm.deeps l : Nat)) ∧ Ext w w' := by
 refine Sm.lists fun l ih => ?_
 intro p n c w hs hb hA
 obtain rfl : n = l.length := by have := hs.len.1;simpa using this
 have hcap := hs.cap
 refine Sx.enter (H := H) Tryz.func139 rfl Tryz.ntmps139 rfl hA ?_
 refine .sr<|.a Z Z<|.nt<|.sq<|.sr<|.m Z Z<|.yv (.lenSl Fx.sl159 Z) Z<|.yv (.eql Z Z) Z<|.nt<|.cd Z (fun h7 => ?_) (fun h7 => ?_)
 ·try simp only [dt] at h7
  obtain rfl : l = [] := List.eq_nil_of_length_eq_zero (by omega)
  refine .sr<|.a Z Z<|.nt<|.rt<|.tR<|?_
  refine Sx.ret1 (.inl rfl) rfl (.tmp rfl) fun W s => ⟨?_,s.ext⟩
  first
   | (rfl)
   | (rw [show ((Sm.deeps l - 1 : Nat) : Int) + 1 = (Sm.deeps l : Nat) by
    have : 0 < Sm.deeps l := by
     match l,h7 with
     | ⟨kd,nm,hd,ex,th,el⟩ :: r,_ => simp only [Sm.deeps,sdepth_mk];omega
    omega])
 try simp only [df] at h7
 refine .sk<|.tN<|.sr<|.a Z Z<|.nt<|.sq<|.sr<|.m Z Z<|.yv (.lenSl Fx.sl159 Z) Z<|.m Z Z<|.nt<|.bk<|.lp (X := Nat) [(0,_),(9,_)] ⟨rfl,rfl,trivial⟩ [] (fun k => [(3,.int .i64 ((Sm.deeps (l.take k) - 1 : Nat) : Int)),(10,.int .i64 (k : Nat))]) (fun k => H) (fun k => []) (fun k => k ≤ l.length) (fun k => l.length - k) 0 (fun _ s => s) ⟨rfl,rfl,trivial⟩ (by omega) fun k hC => ?_
 refine .sr<|.yv (.lss Z Z) Z<|.nt<|.sq<|.cd Z (fun h11 => ?_) (fun h11 => ?_)
 ·try simp only [dt] at h11
  have hk : k < l.length := by omega
  obtain ⟨bE,oE,cE,hpE,rE,lE,mE⟩ := hs.elem (map_at hk)
  cases hpE
  have hi := ih _ (List.getElem_mem hk)
  have hf := sdeeps_succ hk
  have hle := sdeeps_take l (k + 1)
  generalize hx : l[k] = x at rE hi hf
  obtain ⟨kd,nm,hd,ex,th,el⟩ := x
  obtain ⟨p1,c1,p2,c2,p3,c3,rfl,hs1,hs2,hs3,hn1,hn2⟩ := sm_open rE
  simp only [Sm.th,Sm.el] at hi
  rw [sdepth_mk] at hf
  exact .sk<|.tN<|.sq<|.bk<|.sr<|.m Z Z<|.a Z Z<|.nt<|.fl (trip := [(_,_,_),(_,_,_),(_,_,_),(_,_,_),(_,_,_),(_,_,_),(_,_,_),(_,_,_),(_,_,_),(_,_,_),(_,_,_),(_,_,_),(_,_,_),(_,_,_)]) 14 [(0,0),(1,0),(2,0),(3,0),(4,0),(5,0),(6,0),(7,0),(8,0),(9,0),(10,0),(11,0),(12,0),(13,0)] (by kernel_rfl) (by kernel_rfl) Z<|.m Z Z<|.m Z Z<|.m Z Z<|.yv (.indexSl Fx.sl159 Z Z Z (by omega) (q := oE + k * 6) Z) Z<|.yv (.fieldAddr Z Fx.field208_4) Z<|.yv (.loadM Z Fx.agg159 mE (k := 4) Z Z) Z<|.yv (.call Fx.call139 Z (fun W s => hi.1 _ _ _ W hs2 (by omega) s.agr)) Z<|.m Z Z<|.m Z Z<|.yv (.indexSl Fx.sl159 Z Z Z (by omega) (q := oE + k * 6) Z) Z<|.yv (.fieldAddr Z Fx.field208_5) Z<|.yv (.loadM Z Fx.agg159 mE (k := 5) Z Z) Z<|.yv (.call Fx.call139 Z (fun W s => hi.2 _ _ _ W hs3 (by omega) s.agr)) Z<|.yv (.max3 Z Z Z (c := ((Sm.deeps (l.take (k + 1)) - 1 : Nat) : Int)) (by omega)) Z<|.fn (tl := [_]) Z<|.a Z Z<|.nl<|.bN<|.tN<|.rg<|.yv (.add Z Z (w6 (by omega))) Z<|.m Z Z<|.nt<|.ag (k + 1) ⟨rfl,rfl,trivial⟩ ⟨rfl,rfl,trivial⟩ (fun _ s => s) (by omega) (by omega)
 try simp only [df] at h11
 obtain rfl : k = l.length := by omega
 rw [List.take_length]
 refine .ex<|.tE<|.tE<|.bE<|.tN<|.sr<|.m Z Z<|.yv (.add Z Z (w6 (by omega))) Z<|.a Z Z<|.nt<|.rt<|?_
 refine Sx.ret1 (.inl rfl) rfl (.tmp rfl) fun W s => ⟨?_,s.ext⟩
 first
  | (rfl)
  | (rw [show ((Sm.deeps l - 1 : Nat) : Int) + 1 = (Sm.deeps l : Nat) by
   have : 0 < Sm.deeps l := by
    match l,h7 with
    | ⟨kd,nm,hd,ex,th,el⟩ :: r,_ => simp only [Sm.deeps,sdepth_mk];omega
   omega])
theorem Fx.agg52 : aggN Tryz.prog 52 = Option.some Option.none := by kernel_rfl
theorem Fx.agg149 : aggN Tryz.prog 149 = Option.some Option.none := by kernel_rfl
theorem Fx.call102 : callN Tryz.prog 102 = Bool.true := by kernel_rfl
theorem Fx.call103 : callN Tryz.prog 103 = Bool.true := by kernel_rfl
theorem Fx.call107 : callN Tryz.prog 107 = Bool.true := by kernel_rfl
theorem Fx.call140 : callN Tryz.prog 140 = Bool.true := by kernel_rfl
theorem Fx.field151_1 : fieldN Tryz.prog 151 1 = Option.some 1 := by kernel_rfl
theorem Fx.field151_2 : fieldN Tryz.prog 151 2 = Option.some 2 := by kernel_rfl
theorem Fx.field162_0 : fieldN Tryz.prog 162 0 = Option.some 0 := by kernel_rfl
theorem Fx.field162_1 : fieldN Tryz.prog 162 1 = Option.some 1 := by kernel_rfl
theorem Fx.field162_2 : fieldN Tryz.prog 162 2 = Option.some 2 := by kernel_rfl
theorem Fx.size27 : sizeN Tryz.prog 27 = Option.some 4 := by kernel_rfl
theorem Fx.sl52 : slN Tryz.prog 52 = Option.some 1 := by kernel_rfl
theorem Fx.zero27 : zeroN Tryz.prog 27 = Option.some
 [Go.Value.int Go.IntKind.u8 (Int.ofNat 0),Go.Value.string { data := { toList := [] } },
  Go.Value.int Go.IntKind.i64 (Int.ofNat 0),Go.Value.slice Option.none 0 0] := by kernel_rfl
set_option maxRecDepth 100000 in
theorem smallStmt_any : SmFn 140 smaS := by
 refine ⟨Fx.call140,fun H G e cs b o w h hm hok hA => ?_⟩
 obtain ⟨kd,nm,hd,ex,th,el⟩ := e
 rw [okS1] at hok
 obtain ⟨p,c,p1,c1,p2,c2,rfl,hs,hs1,hs2,hn1,hn2⟩ := sm_open h
 have hcap := hs.cap
 refine Sx.enter (H := H) Tryz.func140 rfl Tryz.ntmps140 rfl hA ?_
 refine .sr<|.a Z Z<|.nt<|.sq<|.sr<|.m Z Z<|.yv (.nilCheck Z) Z<|.yv (.fieldAddr Z Fx.field208_3) Z<|.yv (.loadM Z Fx.agg25 hm (k := 3) Z Z) Z<|.yv (.lenSl Fx.sl25 Z) Z<|.m Z Z<|.nt<|.bk<|.lp (X := Nat) [(8,_),(9,_)] ⟨rfl,rfl,trivial⟩ [] (fun k => [(10,.int .i64 (k : Nat))]) (fun k => H) (fun k => []) (fun k => k ≤ ex.length ∧ (ex.take k).all (fun x => decide (x.depth ≤ 8)) = true) (fun k => ex.length - k) 0 (fun _ s => s) ⟨rfl,trivial⟩ ⟨by omega,rfl⟩ fun k hC => ?_
 obtain ⟨hk0,hal⟩ := hC
 refine .sr<|.yv (.lss Z Z) Z<|.nt<|.sq<|.cd Z (fun h11 => ?_) (fun h11 => ?_)
 ·try simp only [dt] at h11
  have hk : k < ex.length := by omega
  obtain ⟨bE,oE,cE,hpE,rE,lE,mE⟩ := hs.elem (map_at hk)
  cases hpE
  have hd1 := lall_at hk hok
  simp only [decide_eq_true_eq] at hd1
  refine .sk<|.tN<|.sq<|.bk<|.sr<|.yv (.indexSl Fx.sl25 Z Z Z (by omega) (q := oE + k * 4) Z) Z<|.yv (.loadMW Z Fx.agg27 mE lE) Z<|.al Fx.zero27 Z fun b4 => .sV .head Z Z Fx.size27 lE rE.one Z<|.ns<|.yv (.loadW Z Fx.agg27 (.head _) lE) Z<|.yv (.call Fx.call29 Z (fun W s => exprDepth_any _ H cE W rE hd1 s.agr)) Z<|.yv (.gtr Z Z) Z<|.nt<|.cd Z (fun h16 => ?_) (fun h16 => ?_)
  ·try simp only [dt] at h16
   refine .sr<|.a Z Z<|.nt<|.rt<|.bR<|.tR<|.tR<|.bR<|.tR<|?_
   refine Sx.ret1 (.inl rfl) rfl (.tmp rfl) fun W s => ⟨retB ?_,s.ext⟩
   first
    | (rw [smaS,hal])
    | (rw [smaS,lall_bad hk (by simp;omega)])
  try simp only [df] at h16
  exact .sk<|.bN<|.tN<|.rg<|.yv (.add Z Z (w6 (by omega))) Z<|.m Z Z<|.nt<|.ag (k + 1) ⟨rfl,trivial⟩ ⟨rfl,rfl,trivial⟩ (fun _ s => s.pick [] [] Z Z) ⟨by omega,by rw [lall_succ hk,hal];simp;omega⟩ (by omega)
 try simp only [df] at h11
 obtain rfl : k = ex.length := by omega
 rw [List.take_length] at hal
 refine .ex<|.tE<|.tE<|.bE<|.tN<|.sr<|.a Z Z<|.nt<|.rt<|?_
 refine Sx.ret1 (.inl rfl) rfl (.tmp rfl) fun W s => ⟨retB ?_,s.ext⟩
 first
  | (rw [smaS,hal])
  | (rw [smaS,lall_bad hk (by simp;omega)])
def HdFn (gf : FuncId) (q : Hd → Bool) : Prop := callN Tryz.prog gf = true ∧ ∀ (H : Hp),Gl H → ∀ (e : Hd) (cs : List Value) (w : World),Rep H (dHd .u8 e) cs → okH e = true → Agr H w →
 Calls Tryz.prog gf #[.agg cs.toArray] w fun r w' => r = .returned (.bool (q e)) ∧ Ext w w'
set_option maxRecDepth 100000 in
theorem smallHandler_any : HdFn 102 smaH := by
 refine ⟨Fx.call102,fun H G e cs w h hok hA => ?_⟩
 simp only [okH,Bool.and_eq_true,decide_eq_true_eq] at hok
 obtain ⟨⟨ho1,ho2⟩,ho3⟩ := hok
 obtain ⟨p1,c1,p2,c2,rfl,hnm,hs1,hs2⟩ := hd_open h
 have hcap := hs1.cap
 refine Sx.enter (H := H) Tryz.func102 rfl Tryz.ntmps102 rfl hA ?_
 refine .sr<|.bx Z Z Z fun b1 => .a Z Z<|.nt<|.sq<|.sr<|.yv (.fieldAddr Z Fx.field162_1) Z<|.yv (.load Z Fx.agg52 (.head _) Z) Z<|.yv (.lenSl Fx.sl52 Z) Z<|.yv (.gtr Z Z) Z<|.m Z Z<|.b2 (fun h7 => ?_) (fun h7 => ?_)
 ·try simp only [dt] at h7
  refine .gF Z Z Z Z<|.gF Z Z Z Z<|.gF Z Z Z Z<|.gF Z Z Z Z<|.yv (.pickT Z Z) Z<|.m Z Z<|.gF Z Z Z Z<|.gF Z Z Z Z<|.gF Z Z Z Z<|.gF Z Z Z Z<|.yv (.pickT Z Z) Z<|.nt<|.cT Z<|.sr<|.a Z Z<|.nt<|.rt<|.tR<|?_
  refine Sx.ret1 (.inl rfl) rfl (.tmp rfl) fun W s => ⟨retB ?_,s.ext⟩
  first
   | (simp only [smaH];simp;omega)
   | (simp only [smaH];simp [show ¬ 4 < e.ps.length by omega,show ¬ 40 < Sm.counts e.body by omega,show ¬ 8 < Sm.deeps e.body by omega])
 try simp only [df] at h7
 refine .gd Z Z<|.yv (.fieldAddr Z Fx.field162_2) Z<|.gd Z Z<|.yv (.load Z Fx.agg159 (.head _) Z) Z<|.gd Z Z<|.yv (.call Fx.call138 Z (fun W s => statements_any H _ _ _ _ W hs2 ho1 s.agr)) Z<|.gd Z Z<|.yv (.gtr Z Z) Z<|.yv (.pickF Z Z) Z<|.m Z Z<|.b2 (fun h13 => ?_) (fun h13 => ?_)
 ·try simp only [dt] at h13
  refine .gF Z Z Z Z<|.gF Z Z Z Z<|.gF Z Z Z Z<|.gF Z Z Z Z<|.yv (.pickT Z Z) Z<|.nt<|.cT Z<|.sr<|.a Z Z<|.nt<|.rt<|.tR<|?_
  refine Sx.ret1 (.inl rfl) rfl (.tmp rfl) fun W s => ⟨retB ?_,s.ext⟩
  first
   | (simp only [smaH];simp;omega)
   | (simp only [smaH];simp [show ¬ 4 < e.ps.length by omega,show ¬ 40 < Sm.counts e.body by omega,show ¬ 8 < Sm.deeps e.body by omega])
 try simp only [df] at h13
 refine .gd Z Z<|.yv (.fieldAddr Z Fx.field162_2) Z<|.gd Z Z<|.yv (.load Z Fx.agg159 (.head _) Z) Z<|.gd Z Z<|.yv (.call Fx.call139 Z (fun W s => sdepth_any H _ _ _ _ W hs2 ho2 s.agr)) Z<|.gd Z Z<|.yv (.gtr Z Z) Z<|.yv (.pickF Z Z) Z<|.nt<|.cd Z (fun h18 => ?_) (fun h18 => ?_)
 ·try simp only [dt] at h18
  refine .sr<|.a Z Z<|.nt<|.rt<|.tR<|?_
  refine Sx.ret1 (.inl rfl) rfl (.tmp rfl) fun W s => ⟨retB ?_,s.ext⟩
  first
   | (simp only [smaH];simp;omega)
   | (simp only [smaH];simp [show ¬ 4 < e.ps.length by omega,show ¬ 40 < Sm.counts e.body by omega,show ¬ 8 < Sm.deeps e.body by omega])
 try simp only [df] at h18
 refine .sk<|.tN<|.sr<|.yv (.fieldAddr Z Fx.field162_2) Z<|.yv (.load Z Fx.agg159 (.head _) Z) Z<|.yv (.call Fx.call104 Z (fun W s => every_any 140 smaS smallStmt_any H G _ _ _ _ W hs2 ho3 s.agr)) Z<|.a Z Z<|.nt<|.rt<|?_
 refine Sx.ret1 (.inl rfl) rfl (.tmp rfl) fun W s => ⟨retB ?_,s.ext⟩
 first
  | (simp only [smaH];simp;omega)
  | (simp only [smaH];simp [show ¬ 4 < e.ps.length by omega,show ¬ 40 < Sm.counts e.body by omega,show ¬ 8 < Sm.deeps e.body by omega])
set_option maxRecDepth 100000 in
theorem formedHandler_any : HdFn 107 frmH := by
 refine ⟨Fx.call107,fun H G e cs w h hok hA => ?_⟩
 simp only [okH,Bool.and_eq_true,decide_eq_true_eq] at hok
 obtain ⟨⟨ho1,ho2⟩,ho3⟩ := hok
 obtain ⟨p1,c1,p2,c2,rfl,hnm,hs1,hs2⟩ := hd_open h
 have hcap := hs1.cap
 refine Sx.enter (H := H) Tryz.func107 rfl Tryz.ntmps107 rfl hA ?_
 refine .sr<|.bx Z Z Z fun b1 => .a Z Z<|.ns<|.yv (.fieldAddr Z Fx.field162_2) Z<|.yv (.load Z Fx.agg159 (.head _) Z) Z<|.yv (.call Fx.call104 Z (fun W s => every_any 108 frmS formedStmt_any H G _ _ _ _ W hs2 ho3 s.agr)) Z<|.a Z Z<|.nt<|.rt<|?_
 refine Sx.ret1 (.inl rfl) rfl (.tmp rfl) fun W s => ⟨retB ?_,s.ext⟩
 first
  | (rw [frmH])
set_option maxRecDepth 100000 in
theorem namedHandler_any : HdFn 103 namH := by
 refine ⟨Fx.call103,fun H G e cs w h hok hA => ?_⟩
 simp only [okH,Bool.and_eq_true,decide_eq_true_eq] at hok
 obtain ⟨⟨ho1,ho2⟩,ho3⟩ := hok
 obtain ⟨p1,c1,p2,c2,rfl,hnm,hs1,hs2⟩ := hd_open h
 have hcap := hs1.cap
 refine Sx.enter (H := H) Tryz.func103 rfl Tryz.ntmps103 rfl hA ?_
 refine .sr<|.bx Z Z Z fun b1 => .a Z Z<|.ns<|.yv (.fieldAddr Z Fx.field162_0) Z<|.yv (.load Z Fx.agg9 (.head _) Z) Z<|.yv (.call Fx.call58 Z (fun W s => isName_any H G _ (by omega) W s.agr)) Z<|.a Z Z<|.nt<|.sq<|.sr<|.yv (.fieldAddr Z Fx.field162_1) Z<|.yv (.load Z Fx.agg52 (.head _) Z) Z<|.yv (.lenSl Fx.sl52 Z) Z<|.m Z Z<|.nt<|.bk<|.lp (X := Nat) [(1,_),(10,_),(11,_)] ⟨rfl,rfl,rfl,trivial⟩ [_] (fun k => [(12,.int .i64 (k : Nat)),(3,.bool (nameB e.nm && (e.ps.take k).all nameB))]) (fun k => H) (fun k => []) (fun k => k ≤ e.ps.length) (fun k => e.ps.length - k) 0 (fun _ s => s) ⟨rfl,(by rw [List.take_zero,List.all_nil,Bool.and_true];rfl),trivial⟩ (by omega) fun k hC => ?_
 refine .sr<|.yv (.lss Z Z) Z<|.nt<|.sq<|.cd Z (fun h13 => ?_) (fun h13 => ?_)
 ·try simp only [dt] at h13
  have hk : k < e.ps.length := by omega
  obtain ⟨bE,oE,cE,hpE,rE,lE,mE⟩ := hs1.elem (map_at hk)
  cases hpE
  obtain ⟨rfl,hsl⟩ := str_open rE
  refine .sk<|.tN<|.sq<|.bk<|.sr<|.yv (.indexSl Fx.sl52 Z Z Z (by omega) (q := oE + k * 1) Z) Z<|.yv (.loadM Z Fx.agg9 mE (k := 0) Z Z) Z<|.a Z Z<|.nt<|.rg<|.m Z Z<|.m Z Z<|.b2 (fun h17 => ?_) (fun h17 => ?_)
  ·skip
   exact .gd Z Z<|.yv (.move Z) Z<|.gd Z Z<|.yv (.call Fx.call58 Z (fun W s => isName_any H G _ (by omega) W s.agr)) Z<|.yv (.pickT Z Z) Z<|.a Z Z<|.nl<|.bN<|.tN<|.rg<|.yv (.add Z Z (w6 (by omega))) Z<|.m Z Z<|.nt<|.ag (k + 1) ⟨rfl,(by rw [lall_succ hk,← Bool.and_assoc];rw [h17];rfl),trivial⟩ ⟨rfl,rfl,rfl,trivial⟩ (fun _ s => s) (by omega) (by omega)
  skip
  exact .gF Z Z Z Z<|.gF Z Z Z Z<|.yv (.pickF Z Z) Z<|.a Z Z<|.nl<|.bN<|.tN<|.rg<|.yv (.add Z Z (w6 (by omega))) Z<|.m Z Z<|.nt<|.ag (k + 1) ⟨rfl,(by rw [lall_succ hk,← Bool.and_assoc];rw [h17];rfl),trivial⟩ ⟨rfl,rfl,rfl,trivial⟩ (fun _ s => s) (by omega) (by omega)
 try simp only [df] at h13
 obtain rfl : k = e.ps.length := by omega
 rw [List.take_length]
 refine .ex<|.tE<|.tE<|.bE<|.tN<|.sr<|.m Z Z<|.m Z Z<|.b2 (fun h23 => ?_) (fun h23 => ?_)
 ·skip
  refine .gd Z Z<|.yv (.fieldAddr Z Fx.field162_2) Z<|.gd Z Z<|.yv (.load Z Fx.agg159 (.head _) Z) Z<|.gd Z Z<|.yv (.call Fx.call104 Z (fun W s => every_any 105 namS namedStmt_any H G _ _ _ _ W hs2 ho3 s.agr)) Z<|.yv (.pickT Z Z) Z<|.a Z Z<|.nt<|.rt<|?_
  refine Sx.ret1 (.inl rfl) rfl (.tmp rfl) fun W s => ⟨retB ?_,s.ext⟩
  first
   | (rw [namH,h23];simp)
   | (rw [namH,h23];rfl)
 skip
 refine .gF Z Z Z Z<|.gF Z Z Z Z<|.gF Z Z Z Z<|.yv (.pickF Z Z) Z<|.a Z Z<|.nt<|.rt<|?_
 refine Sx.ret1 (.inl rfl) rfl (.tmp rfl) fun W s => ⟨retB ?_,s.ext⟩
 first
  | (rw [namH,h23];simp)
  | (rw [namH,h23];rfl)
set_option maxRecDepth 100000 in
theorem formedVar_any (H : Hp) (x : Vr) (cs : List Value) (h : Rep H (dVr .u8 x) cs) (w : World) (hA : Agr H w) :
 Calls Tryz.prog 106 #[.agg cs.toArray] w fun r w' => r = .returned (.bool (frmV x)) ∧ Ext w w' := by
 obtain ⟨rfl,hnm⟩ := vr_open h
 refine Sx.enter (H := H) Tryz.func106 rfl Tryz.ntmps106 rfl hA ?_
 refine .sr<|.bx Z Z Z fun b1 => .a Z Z<|.nt<|.sq<|.sr<|.yv (.fieldAddr Z Fx.field151_1) Z<|.yv (.load Z Fx.agg149 (.head _) Z) Z<|.nt<|.bk<|.sr<|.yv (.eql Z Z) Z<|.a Z Z<|.nt<|.cd Z (fun h5 => ?_) (fun h5 => ?_)
 ·try simp only [dt] at h5
  have hv : x.ty = 1 := UInt8.toNat_inj.1 (by show x.ty.toNat = 1;omega)
  refine .sr<|.yv (.fieldAddr Z Fx.field151_2) Z<|.yv (.load Z Fx.agg2 (.head _) Z) Z<|.yv (.neq Z Z) Z<|.a Z Z<|.nt<|.rt<|.bR<|.tR<|?_
  refine Sx.ret1 (.inl rfl) rfl (.tmp rfl) fun W s => ⟨retB ?_,s.ext⟩
  first
   | (simp only [frmV,hv];simp;done)
   | (simp only [frmV,hv];simp;omega)
   | (simp only [frmV,hv];simp_all)
   | (simp only [frmV];simp [hv1,hv2,hv3])
 try simp only [df] at h5
 have hv1 : ¬ x.ty = 1 := fun e => h5 (by rw [e];rfl)
 refine .sr<|.yv (.eql Z Z) Z<|.a Z Z<|.nt<|.cd Z (fun h10 => ?_) (fun h10 => ?_)
 ·try simp only [dt] at h10
  have hv : x.ty = 2 := UInt8.toNat_inj.1 (by show x.ty.toNat = 2;omega)
  refine .sr<|.yv (.fieldAddr Z Fx.field151_2) Z<|.yv (.load Z Fx.agg2 (.head _) Z) Z<|.yv (.eql Z Z) Z<|.m Z Z<|.b2 (fun h15 => ?_) (fun h15 => ?_)
  ·try simp only [dt] at h15
   refine .gF Z Z Z Z<|.gF Z Z Z Z<|.gF Z Z Z Z<|.yv (.pickT Z Z) Z<|.a Z Z<|.nt<|.rt<|.bR<|.tR<|?_
   refine Sx.ret1 (.inl rfl) rfl (.tmp rfl) fun W s => ⟨retB ?_,s.ext⟩
   first
    | (simp only [frmV,hv];simp;done)
    | (simp only [frmV,hv];simp;omega)
    | (simp only [frmV,hv];simp_all)
    | (simp only [frmV];simp [hv1,hv2,hv3])
  try simp only [df] at h15
  refine .gd Z Z<|.yv (.fieldAddr Z Fx.field151_2) Z<|.gd Z Z<|.yv (.load Z Fx.agg2 (.head _) Z) Z<|.gd Z Z<|.yv (.eql Z Z) Z<|.yv (.pickF Z Z) Z<|.a Z Z<|.nt<|.rt<|.bR<|.tR<|?_
  refine Sx.ret1 (.inl rfl) rfl (.tmp rfl) fun W s => ⟨retB ?_,s.ext⟩
  first
   | (simp only [frmV,hv];simp;done)
   | (simp only [frmV,hv];simp;omega)
   | (simp only [frmV,hv];simp_all)
   | (simp only [frmV];simp [hv1,hv2,hv3])
 try simp only [df] at h10
 have hv2 : ¬ x.ty = 2 := fun e => h10 (by rw [e];rfl)
 refine .sr<|.yv (.eql Z Z) Z<|.a Z Z<|.nt<|.cd Z (fun h20 => ?_) (fun h20 => ?_)
 ·try simp only [dt] at h20
  have hv : x.ty = 3 := UInt8.toNat_inj.1 (by show x.ty.toNat = 3;omega)
  refine .sr<|.yv (.fieldAddr Z Fx.field151_2) Z<|.yv (.load Z Fx.agg2 (.head _) Z) Z<|.yv (.eql Z Z) Z<|.a Z Z<|.nt<|.rt<|.bR<|.tR<|?_
  refine Sx.ret1 (.inl rfl) rfl (.tmp rfl) fun W s => ⟨retB ?_,s.ext⟩
  first
   | (simp only [frmV,hv];simp;done)
   | (simp only [frmV,hv];simp;omega)
   | (simp only [frmV,hv];simp_all)
   | (simp only [frmV];simp [hv1,hv2,hv3])
 try simp only [df] at h20
 have hv3 : ¬ x.ty = 3 := fun e => h20 (by rw [e];rfl)
 refine .sk<|.bN<|.tN<|.sr<|.a Z Z<|.nt<|.rt<|?_
 refine Sx.ret1 (.inl rfl) rfl (.tmp rfl) fun W s => ⟨retB ?_,s.ext⟩
 first
  | (simp only [frmV,hv];simp;done)
  | (simp only [frmV,hv];simp;omega)
  | (simp only [frmV,hv];simp_all)
  | (simp only [frmV];simp [hv1,hv2,hv3])
theorem Fx.agg45 : aggN Tryz.prog 45 = Option.some Option.none := by kernel_rfl
theorem Fx.agg46 : aggN Tryz.prog 46 = Option.some Option.none := by kernel_rfl
theorem Fx.agg47 : aggN Tryz.prog 47 = Option.some Option.none := by kernel_rfl
theorem Fx.agg49 : aggN Tryz.prog 49 = Option.some (Option.some 4) := by kernel_rfl
theorem Fx.agg102 : aggN Tryz.prog 102 = Option.some (Option.some 2) := by kernel_rfl
theorem Fx.agg105 : aggN Tryz.prog 105 = Option.some (Option.some 3) := by kernel_rfl
theorem Fx.agg107 : aggN Tryz.prog 107 = Option.some Option.none := by kernel_rfl
theorem Fx.agg108 : aggN Tryz.prog 108 = Option.some Option.none := by kernel_rfl
theorem Fx.agg110 : aggN Tryz.prog 110 = Option.some (Option.some 3) := by kernel_rfl
theorem Fx.agg151 : aggN Tryz.prog 151 = Option.some (Option.some 3) := by kernel_rfl
theorem Fx.agg153 : aggN Tryz.prog 153 = Option.some Option.none := by kernel_rfl
theorem Fx.agg155 : aggN Tryz.prog 155 = Option.some (Option.some 1) := by kernel_rfl
theorem Fx.agg162 : aggN Tryz.prog 162 = Option.some (Option.some 3) := by kernel_rfl
theorem Fx.call101 : callN Tryz.prog 101 = Bool.true := by kernel_rfl
theorem Fx.call106 : callN Tryz.prog 106 = Bool.true := by kernel_rfl
theorem Fx.field49_0 : fieldN Tryz.prog 49 0 = Option.some 0 := by kernel_rfl
theorem Fx.field49_1 : fieldN Tryz.prog 49 1 = Option.some 1 := by kernel_rfl
theorem Fx.field49_2 : fieldN Tryz.prog 49 2 = Option.some 2 := by kernel_rfl
theorem Fx.field49_3 : fieldN Tryz.prog 49 3 = Option.some 3 := by kernel_rfl
theorem Fx.field102_0 : fieldN Tryz.prog 102 0 = Option.some 0 := by kernel_rfl
theorem Fx.field105_0 : fieldN Tryz.prog 105 0 = Option.some 0 := by kernel_rfl
theorem Fx.field105_1 : fieldN Tryz.prog 105 1 = Option.some 1 := by kernel_rfl
theorem Fx.field105_2 : fieldN Tryz.prog 105 2 = Option.some 2 := by kernel_rfl
theorem Fx.field110_0 : fieldN Tryz.prog 110 0 = Option.some 0 := by kernel_rfl
theorem Fx.field110_1 : fieldN Tryz.prog 110 1 = Option.some 1 := by kernel_rfl
theorem Fx.field110_2 : fieldN Tryz.prog 110 2 = Option.some 2 := by kernel_rfl
theorem Fx.field151_0 : fieldN Tryz.prog 151 0 = Option.some 0 := by kernel_rfl
theorem Fx.field155_0 : fieldN Tryz.prog 155 0 = Option.some 0 := by kernel_rfl
theorem Fx.size102 : sizeN Tryz.prog 102 = Option.some 2 := by kernel_rfl
theorem Fx.size105 : sizeN Tryz.prog 105 = Option.some 3 := by kernel_rfl
theorem Fx.size110 : sizeN Tryz.prog 110 = Option.some 3 := by kernel_rfl
theorem Fx.size151 : sizeN Tryz.prog 151 = Option.some 3 := by kernel_rfl
theorem Fx.size155 : sizeN Tryz.prog 155 = Option.some 1 := by kernel_rfl
theorem Fx.size162 : sizeN Tryz.prog 162 = Option.some 3 := by kernel_rfl
theorem Fx.sl45 : slN Tryz.prog 45 = Option.some 2 := by kernel_rfl
theorem Fx.sl46 : slN Tryz.prog 46 = Option.some 3 := by kernel_rfl
theorem Fx.sl47 : slN Tryz.prog 47 = Option.some 3 := by kernel_rfl
theorem Fx.sl107 : slN Tryz.prog 107 = Option.some 3 := by kernel_rfl
theorem Fx.sl108 : slN Tryz.prog 108 = Option.some 1 := by kernel_rfl
theorem Fx.sl153 : slN Tryz.prog 153 = Option.some 3 := by kernel_rfl
theorem Fx.zero102 : zeroN Tryz.prog 102 = Option.some [Go.Value.string { data := { toList := [] } },Go.Value.bool Bool.false] := by kernel_rfl
theorem Fx.zero105 : zeroN Tryz.prog 105 = Option.some
 [Go.Value.string { data := { toList := [] } },Go.Value.string { data := { toList := [] } },
  Go.Value.int Go.IntKind.i64 (Int.ofNat 0)] := by kernel_rfl
theorem Fx.zero110 : zeroN Tryz.prog 110 = Option.some
 [Go.Value.string { data := { toList := [] } },Go.Value.slice Option.none 0 0,Go.Value.slice Option.none 0 0] := by kernel_rfl
theorem Fx.zero151 : zeroN Tryz.prog 151 = Option.some
 [Go.Value.string { data := { toList := [] } },Go.Value.int Go.IntKind.u8 (Int.ofNat 0),
  Go.Value.int Go.IntKind.i64 (Int.ofNat 0)] := by kernel_rfl
theorem Fx.zero155 : zeroN Tryz.prog 155 = Option.some [Go.Value.slice Option.none 0 0] := by kernel_rfl
theorem Fx.zero162 : zeroN Tryz.prog 162 = Option.some
 [Go.Value.string { data := { toList := [] } },Go.Value.slice Option.none 0 0,Go.Value.slice Option.none 0 0] := by kernel_rfl
set_option maxRecDepth 100000 in
theorem everyHandler_any (gf : FuncId) (q : Hd → Bool) (hg : HdFn gf q) (H : Hp) (G : Gl H) (f : Ft) (cs : List Value) (h : Rep H (dFt .u8 f) cs) (hok : evH okH f = true) (w : World) (hA : Agr H w) :
 Calls Tryz.prog 101 #[.agg cs.toArray,.func (.func gf) #[] #[]] w fun r w' => r = .returned (.bool (evH q f)) ∧ Ext w w' := by
 rw [evH_eq] at hok
 obtain ⟨p1,c1,p2,c2,p3,c3,rfl,hnm,hs1,hs2,hs3⟩ := ft_open h
 have hcap1 := hs1.cap
 have hcap2 := hs2.cap
 have hcap3 := hs3.cap
 refine Sx.enter (H := H) Tryz.func101 rfl Tryz.ntmps101 rfl hA ?_
 refine .sr<|.bx Z Z Z fun b2 => .a Z Z<|.nt<|.sq<|.sr<|.yv (.fieldAddr Z Fx.field49_3) Z<|.yv (.load Z Fx.agg47 (.head _) Z) Z<|.yv (.lenSl Fx.sl47 Z) Z<|.m Z Z<|.nt<|.bk<|.lp (X := Nat) [(1,_),(12,_),(13,_)] ⟨rfl,rfl,rfl,trivial⟩ [_] (fun k1 => [(14,.int .i64 (k1 : Nat))]) (fun k1 => H) (fun k1 => []) (fun k1 => k1 ≤ f.comps.length ∧ (f.comps.take k1).all (cpAll q) = true) (fun k1 => f.comps.length - k1) 0 (fun _ s => s) ⟨rfl,trivial⟩ ⟨by omega,rfl⟩ fun k1 hC => ?_
 obtain ⟨hq1,hal1⟩ := hC
 refine .sr<|.yv (.lss Z Z) Z<|.nt<|.sq<|.cd Z (fun h15 => ?_) (fun h15 => ?_)
 ·try simp only [dt] at h15
  have hk1 : k1 < f.comps.length := by omega
  obtain ⟨bE1,oE1,cE1,hpE1,rE1,lE1,mE1⟩ := hs3.elem (map_at hk1)
  cases hpE1
  have hok1 := lall_at hk1 hok
  generalize hx1 : f.comps[k1] = x1 at rE1 hok1
  obtain ⟨p4,c4,p5,c5,rfl,hn4,hs4,hs5⟩ := cp_open rE1
  have hcap5 := hs5.cap
  rw [cpAll] at hok1
  refine .sk<|.tN<|.sq<|.bk<|.sr<|.yv (.indexSl Fx.sl47 Z Z Z (by omega) (q := oE1 + k1 * 3) Z) Z<|.yv (.loadMW Z Fx.agg110 mE1 Z) Z<|.al Fx.zero110 Z fun b6 => .sW .head Z Z Fx.size110 (by simp [Value.oneCell',strV]) Z<|.ns<|.yv (.fieldAddr Z Fx.field110_2) Z<|.yv (.load Z Fx.agg108 (.head _) Z) Z<|.yv (.lenSl Fx.sl108 Z) Z<|.m Z Z<|.nt<|.bk<|.lp (X := Nat) [(1,_),(12,_),(13,_),(14,_),(19,_),(20,_)] ⟨rfl,rfl,rfl,rfl,rfl,rfl,trivial⟩ [_,_] (fun k2 => [(21,.int .i64 (k2 : Nat))]) (fun k2 => H) (fun k2 => []) (fun k2 => k2 ≤ x1.vers.length ∧ (x1.vers.take k2).all (fun v => v.all q) = true) (fun k2 => x1.vers.length - k2) 0 (fun _ s => s) ⟨rfl,trivial⟩ ⟨by omega,rfl⟩ fun k2 hC => ?_
  obtain ⟨hq2,hal2⟩ := hC
  refine .sr<|.yv (.lss Z Z) Z<|.nt<|.sq<|.cd Z (fun h22 => ?_) (fun h22 => ?_)
  ·try simp only [dt] at h22
   have hk2 : k2 < x1.vers.length := by omega
   obtain ⟨bE2,oE2,cE2,hpE2,rE2,lE2,mE2⟩ := hs5.elem (map_at hk2)
   cases hpE2
   have hok2 := lall_at hk2 hok1
   generalize hx2 : x1.vers[k2] = x2 at rE2 hok2
   obtain ⟨p6,c6,rfl,hs6⟩ := vs_open rE2
   have hcap6 := hs6.cap
   refine .sk<|.tN<|.sq<|.bk<|.sr<|.yv (.indexSl Fx.sl108 Z Z Z (by omega) (q := oE2 + k2 * 1) Z) Z<|.yv (.loadMW Z Fx.agg155 mE2 Z) Z<|.al Fx.zero155 Z fun b8 => .sW .head Z Z Fx.size155 (by simp [Value.oneCell',strV]) Z<|.ns<|.yv (.fieldAddr Z Fx.field155_0) Z<|.yv (.load Z Fx.agg153 (.head _) Z) Z<|.yv (.lenSl Fx.sl153 Z) Z<|.m Z Z<|.nt<|.bk<|.lp (X := Nat) [(1,_),(12,_),(13,_),(14,_),(19,_),(20,_),(21,_),(26,_),(27,_)] ⟨rfl,rfl,rfl,rfl,rfl,rfl,rfl,rfl,rfl,trivial⟩ [_,_,_] (fun k3 => [(28,.int .i64 (k3 : Nat))]) (fun k3 => H) (fun k3 => []) (fun k3 => k3 ≤ x2.length ∧ (x2.take k3).all q = true) (fun k3 => x2.length - k3) 0 (fun _ s => s) ⟨rfl,trivial⟩ ⟨by omega,rfl⟩ fun k3 hC => ?_
   obtain ⟨hq3,hal3⟩ := hC
   refine .sr<|.yv (.lss Z Z) Z<|.nt<|.sq<|.cd Z (fun h29 => ?_) (fun h29 => ?_)
   ·try simp only [dt] at h29
    have hk3 : k3 < x2.length := by omega
    obtain ⟨bE3,oE3,cE3,hpE3,rE3,lE3,mE3⟩ := hs6.elem (map_at hk3)
    cases hpE3
    have hok3 := lall_at hk3 hok2
    refine .sk<|.tN<|.sq<|.bk<|.sr<|.yv (.indexSl Fx.sl153 Z Z Z (by omega) (q := oE3 + k3 * 3) Z) Z<|.yv (.loadMW Z Fx.agg162 mE3 lE3) Z<|.al Fx.zero162 Z fun b10 => .sV .head Z Z Fx.size162 lE3 rE3.one Z<|.ns<|.m Z Z<|.yv (.loadW Z Fx.agg162 (.head _) lE3) Z<|.yv (.callV (fi := []) (ca := []) Z hg.1 Z (fun W s => hg.2 H G _ _ W rE3 hok3 s.agr)) Z<|.yv (.not Z) Z<|.nt<|.cd Z (fun h35 => ?_) (fun h35 => ?_)
    ·skip
     refine .sr<|.a Z Z<|.nt<|.rt<|.bR<|.tR<|.tR<|.bR<|.bR<|.tR<|.tR<|.bR<|.bR<|.tR<|.tR<|.bR<|.tR<|?_
     refine Sx.ret1 (.inl rfl) rfl (.tmp rfl) fun W s => ⟨retB ?_,s.ext⟩
     first
      | (rw [evH_eq,hal1])
      | (rw [evH_eq,lall_bad hk1 (by rw [hx1,cpAll];exact lall_bad hk2 (by rw [hx2];exact lall_bad hk3 (by simpa using h35)))])
    skip
    exact .sk<|.bN<|.tN<|.rg<|.yv (.add Z Z (w6 (by omega))) Z<|.m Z Z<|.nt<|.ag (k3 + 1) ⟨rfl,trivial⟩ ⟨rfl,rfl,rfl,rfl,rfl,rfl,rfl,rfl,rfl,trivial⟩ (fun _ s => s.pick [1,2,3] [_,_,_] Z Z) ⟨by omega,by rw [lall_succ hk3,hal3];simpa using h35⟩ (by omega)
   try simp only [df] at h29
   obtain rfl : k3 = x2.length := by omega
   rw [List.take_length] at hal3
   exact .ex<|.tE<|.tE<|.bE<|.bN<|.tN<|.rg<|.yv (.add Z Z (w6 (by omega))) Z<|.m Z Z<|.nt<|.ag (k2 + 1) ⟨rfl,trivial⟩ ⟨rfl,rfl,rfl,rfl,rfl,rfl,trivial⟩ (fun _ s => s.pick [1,2] [_,_] Z Z) ⟨by omega,by rw [lall_succ hk2,hal2,hx2,hal3];rfl⟩ (by omega)
  try simp only [df] at h22
  obtain rfl : k2 = x1.vers.length := by omega
  rw [List.take_length] at hal2
  exact .ex<|.tE<|.tE<|.bE<|.bN<|.tN<|.rg<|.yv (.add Z Z (w6 (by omega))) Z<|.m Z Z<|.nt<|.ag (k1 + 1) ⟨rfl,trivial⟩ ⟨rfl,rfl,rfl,trivial⟩ (fun _ s => s.pick [1] [_] Z Z) ⟨by omega,by rw [lall_succ hk1,hal1,hx1,cpAll,hal2];rfl⟩ (by omega)
 try simp only [df] at h15
 obtain rfl : k1 = f.comps.length := by omega
 rw [List.take_length] at hal1
 refine .ex<|.tE<|.tE<|.bE<|.tN<|.sr<|.a Z Z<|.nt<|.rt<|?_
 refine Sx.ret1 (.inl rfl) rfl (.tmp rfl) fun W s => ⟨retB ?_,s.ext⟩
 first
  | (rw [evH_eq,hal1])
  | (rw [evH_eq,lall_bad hk1 (by rw [hx1,cpAll];exact lall_bad hk2 (by rw [hx2];exact lall_bad hk3 (by simpa using h35)))])
set_option maxRecDepth 100000 in
theorem formed_any (H : Hp) (G : Gl H) (f : Ft) (cs : List Value) (h : Rep H (dFt .u8 f) cs) (hok : evH okH f = true) (w : World) (hA : Agr H w) :
 Calls Tryz.prog 63 #[.agg cs.toArray] w fun r w' => r = .returned (.bool (frmF f)) ∧ Ext w w' := by
 obtain ⟨p1,c1,p2,c2,p3,c3,rfl,hnm,hs1,hs2,hs3⟩ := ft_open h
 have hcap1 := hs1.cap
 have hcap2 := hs2.cap
 have hcap3 := hs3.cap
 refine Sx.enter (H := H) Tryz.func63 rfl Tryz.ntmps63 rfl hA ?_
 refine .sr<|.bx Z Z Z fun b1 => .a Z Z<|.nt<|.sq<|.sr<|.yv (.fieldAddr Z Fx.field49_2) Z<|.yv (.load Z Fx.agg46 (.head _) Z) Z<|.yv (.lenSl Fx.sl46 Z) Z<|.m Z Z<|.nt<|.bk<|.lp (X := Nat) [(1,_),(10,_),(11,_)] ⟨rfl,rfl,rfl,trivial⟩ [_] (fun k0 => [(12,.int .i64 (k0 : Nat))]) (fun k0 => H) (fun k0 => []) (fun k0 => k0 ≤ f.links.length ∧ (f.links.take k0).all lkB = true) (fun k0 => f.links.length - k0) 0 (fun _ s => s) ⟨rfl,trivial⟩ ⟨by omega,rfl⟩ fun k0 hC => ?_
 obtain ⟨hq0,hal0⟩ := hC
 refine .sr<|.yv (.lss Z Z) Z<|.nt<|.sq<|.cd Z (fun h13 => ?_) (fun h13 => ?_)
 ·try simp only [dt] at h13
  have hk0 : k0 < f.links.length := by omega
  obtain ⟨bE0,oE0,cE0,hpE0,rE0,lE0,mE0⟩ := hs2.elem (map_at hk0)
  cases hpE0
  obtain ⟨rfl,hn5,hn6⟩ := lk_open rE0
  refine .sk<|.tN<|.sq<|.bk<|.sr<|.yv (.indexSl Fx.sl46 Z Z Z (by omega) (q := oE0 + k0 * 3) Z) Z<|.yv (.loadMW Z Fx.agg105 mE0 Z) Z<|.al Fx.zero105 Z fun b4 => .sW .head Z Z Fx.size105 (by simp [Value.oneCell',strV]) Z<|.ns<|.yv (.fieldAddr Z Fx.field105_2) Z<|.yv (.load Z Fx.agg3 (.head _) Z) Z<|.yv (.lss Z Z) Z<|.m Z Z<|.b2 (fun h19 => ?_) (fun h19 => ?_)
  ·try simp only [dt] at h19
   refine .gF Z Z Z Z<|.gF Z Z Z Z<|.gF Z Z Z Z<|.yv (.pickT Z Z) Z<|.nt<|.cT Z<|.sr<|.a Z Z<|.nt<|.rt<|.bR<|.tR<|.tR<|.bR<|.tR<|?_
   refine Sx.ret1 (.inl rfl) rfl (.tmp rfl) fun W s => ⟨retB ?_,s.ext⟩
   first
    | (rw [frmF,hal0,hal1];simp)
    | (rw [frmF,lall_bad hk0 (by simp [lkB];omega)];simp)
    | (rw [frmF,show f.comps.all (fun c => c.vars.all frmV) = false from lall_bad hk1 (by rw [hx1];exact lall_bad hk2 (by simpa using h41))];simp)
  try simp only [df] at h19
  refine .gd Z Z<|.yv (.fieldAddr Z Fx.field105_2) Z<|.gd Z Z<|.yv (.load Z Fx.agg3 (.head _) Z) Z<|.gd Z Z<|.yv (.gtr Z Z) Z<|.yv (.pickF Z Z) Z<|.nt<|.cd Z (fun h23 => ?_) (fun h23 => ?_)
  ·try simp only [dt] at h23
   refine .sr<|.a Z Z<|.nt<|.rt<|.bR<|.tR<|.tR<|.bR<|.tR<|?_
   refine Sx.ret1 (.inl rfl) rfl (.tmp rfl) fun W s => ⟨retB ?_,s.ext⟩
   first
    | (rw [frmF,hal0,hal1];simp)
    | (rw [frmF,lall_bad hk0 (by simp [lkB];omega)];simp)
    | (rw [frmF,show f.comps.all (fun c => c.vars.all frmV) = false from lall_bad hk1 (by rw [hx1];exact lall_bad hk2 (by simpa using h41))];simp)
  try simp only [df] at h23
  exact .sk<|.bN<|.tN<|.rg<|.yv (.add Z Z (w6 (by omega))) Z<|.m Z Z<|.nt<|.ag (k0 + 1) ⟨rfl,trivial⟩ ⟨rfl,rfl,rfl,trivial⟩ (fun _ s => s.pick [1] [_] Z Z) ⟨by omega,by rw [lall_succ hk0,hal0];simp [lkB];omega⟩ (by omega)
 try simp only [df] at h13
 obtain rfl : k0 = f.links.length := by omega
 rw [List.take_length] at hal0
 refine .ex<|.tE<|.tE<|.bE<|.tN<|.sq<|.sr<|.yv (.fieldAddr Z Fx.field49_3) Z<|.yv (.load Z Fx.agg47 (.head _) Z) Z<|.yv (.lenSl Fx.sl47 Z) Z<|.m Z Z<|.nt<|.bk<|.lp (X := Nat) [(1,_),(26,_),(27,_)] ⟨rfl,rfl,rfl,trivial⟩ [_] (fun k1 => [(28,.int .i64 (k1 : Nat))]) (fun k1 => H) (fun k1 => []) (fun k1 => k1 ≤ f.comps.length ∧ (f.comps.take k1).all (fun c => c.vars.all frmV) = true) (fun k1 => f.comps.length - k1) 0 (fun _ s => s) ⟨rfl,trivial⟩ ⟨by omega,rfl⟩ fun k1 hC => ?_
 obtain ⟨hq1,hal1⟩ := hC
 refine .sr<|.yv (.lss Z Z) Z<|.nt<|.sq<|.cd Z (fun h29 => ?_) (fun h29 => ?_)
 ·try simp only [dt] at h29
  have hk1 : k1 < f.comps.length := by omega
  obtain ⟨bE1,oE1,cE1,hpE1,rE1,lE1,mE1⟩ := hs3.elem (map_at hk1)
  cases hpE1
  generalize hx1 : f.comps[k1] = x1 at rE1
  obtain ⟨p4,c4,p5,c5,rfl,hn4,hs4,hs5⟩ := cp_open rE1
  have hcap4 := hs4.cap
  refine .sk<|.tN<|.sq<|.bk<|.sr<|.yv (.indexSl Fx.sl47 Z Z Z (by omega) (q := oE1 + k1 * 3) Z) Z<|.yv (.loadMW Z Fx.agg110 mE1 Z) Z<|.al Fx.zero110 Z fun b6 => .sW .head Z Z Fx.size110 (by simp [Value.oneCell',strV]) Z<|.ns<|.yv (.fieldAddr Z Fx.field110_1) Z<|.yv (.load Z Fx.agg107 (.head _) Z) Z<|.yv (.lenSl Fx.sl107 Z) Z<|.m Z Z<|.nt<|.bk<|.lp (X := Nat) [(1,_),(26,_),(27,_),(28,_),(33,_),(34,_)] ⟨rfl,rfl,rfl,rfl,rfl,rfl,trivial⟩ [_,_] (fun k2 => [(35,.int .i64 (k2 : Nat))]) (fun k2 => H) (fun k2 => []) (fun k2 => k2 ≤ x1.vars.length ∧ (x1.vars.take k2).all frmV = true) (fun k2 => x1.vars.length - k2) 0 (fun _ s => s) ⟨rfl,trivial⟩ ⟨by omega,rfl⟩ fun k2 hC => ?_
  obtain ⟨hq2,hal2⟩ := hC
  refine .sr<|.yv (.lss Z Z) Z<|.nt<|.sq<|.cd Z (fun h36 => ?_) (fun h36 => ?_)
  ·try simp only [dt] at h36
   have hk2 : k2 < x1.vars.length := by omega
   obtain ⟨bE2,oE2,cE2,hpE2,rE2,lE2,mE2⟩ := hs4.elem (map_at hk2)
   cases hpE2

   refine .sk<|.tN<|.sq<|.bk<|.sr<|.yv (.indexSl Fx.sl107 Z Z Z (by omega) (q := oE2 + k2 * 3) Z) Z<|.yv (.loadMW Z Fx.agg151 mE2 lE2) Z<|.al Fx.zero151 Z fun b8 => .sV .head Z Z Fx.size151 lE2 rE2.one Z<|.ns<|.yv (.loadW Z Fx.agg151 (.head _) lE2) Z<|.yv (.call Fx.call106 Z (fun W s => formedVar_any H _ _ rE2 W s.agr)) Z<|.yv (.not Z) Z<|.nt<|.cd Z (fun h41 => ?_) (fun h41 => ?_)
   ·skip
    refine .sr<|.a Z Z<|.nt<|.rt<|.bR<|.tR<|.tR<|.bR<|.bR<|.tR<|.tR<|.bR<|.tR<|?_
    refine Sx.ret1 (.inl rfl) rfl (.tmp rfl) fun W s => ⟨retB ?_,s.ext⟩
    first
     | (rw [frmF,hal0,hal1];simp)
     | (rw [frmF,lall_bad hk0 (by simp [lkB];omega)];simp)
     | (rw [frmF,show f.comps.all (fun c => c.vars.all frmV) = false from lall_bad hk1 (by rw [hx1];exact lall_bad hk2 (by simpa using h41))];simp)
   skip
   exact .sk<|.bN<|.tN<|.rg<|.yv (.add Z Z (w6 (by omega))) Z<|.m Z Z<|.nt<|.ag (k2 + 1) ⟨rfl,trivial⟩ ⟨rfl,rfl,rfl,rfl,rfl,rfl,trivial⟩ (fun _ s => s.pick [1,2] [_,_] Z Z) ⟨by omega,by rw [lall_succ hk2,hal2];simpa using h41⟩ (by omega)
  try simp only [df] at h36
  obtain rfl : k2 = x1.vars.length := by omega
  rw [List.take_length] at hal2
  exact .ex<|.tE<|.tE<|.bE<|.bN<|.tN<|.rg<|.yv (.add Z Z (w6 (by omega))) Z<|.m Z Z<|.nt<|.ag (k1 + 1) ⟨rfl,trivial⟩ ⟨rfl,rfl,rfl,trivial⟩ (fun _ s => s.pick [1] [_] Z Z) ⟨by omega,by rw [lall_succ hk1,hal1,hx1,hal2];rfl⟩ (by omega)
 try simp only [df] at h29
 obtain rfl : k1 = f.comps.length := by omega
 rw [List.take_length] at hal1
 refine .ex<|.tE<|.tE<|.bE<|.tN<|.sr<|.yv (.loadW Z Fx.agg49 (.head _) Z) Z<|.yv (.call Fx.call101 Z (fun W s => everyHandler_any 107 frmH formedHandler_any H G f _ h hok W s.agr)) Z<|.a Z Z<|.nt<|.rt<|?_
 refine Sx.ret1 (.inl rfl) rfl (.tmp rfl) fun W s => ⟨retB ?_,s.ext⟩
 first
  | (rw [frmF,hal0,hal1];simp)
  | (rw [frmF,lall_bad hk0 (by simp [lkB];omega)];simp)
  | (rw [frmF,show f.comps.all (fun c => c.vars.all frmV) = false from lall_bad hk1 (by rw [hx1];exact lall_bad hk2 (by simpa using h41))];simp)
set_option maxRecDepth 100000 in
theorem named_any (H : Hp) (G : Gl H) (f : Ft) (cs : List Value) (h : Rep H (dFt .u8 f) cs) (hok : evH okH f = true) (w : World) (hA : Agr H w) :
 Calls Tryz.prog 62 #[.agg cs.toArray] w fun r w' => r = .returned (.bool (namF f)) ∧ Ext w w' := by
 obtain ⟨p1,c1,p2,c2,p3,c3,rfl,hnm,hs1,hs2,hs3⟩ := ft_open h
 have hcap1 := hs1.cap
 have hcap2 := hs2.cap
 have hcap3 := hs3.cap
 refine Sx.enter (H := H) Tryz.func62 rfl Tryz.ntmps62 rfl hA ?_
 refine .sr<|.bx Z Z Z fun b1 => .a Z Z<|.ns<|.yv (.fieldAddr Z Fx.field49_0) Z<|.yv (.load Z Fx.agg9 (.head _) Z) Z<|.yv (.call Fx.call58 Z (fun W s => isName_any H G _ (by omega) W s.agr)) Z<|.a Z Z<|.nt<|.sq<|.sr<|.yv (.fieldAddr Z Fx.field49_1) Z<|.yv (.load Z Fx.agg45 (.head _) Z) Z<|.yv (.lenSl Fx.sl45 Z) Z<|.m Z Z<|.nt<|.bk<|.lp (X := Nat) [(1,_),(16,_),(17,_)] ⟨rfl,rfl,rfl,trivial⟩ [_] (fun k0 => [(18,.int .i64 (k0 : Nat)),(3,.bool (nameB f.nm && (f.flags.take k0).all (fun x => nameB x.nm)))]) (fun k0 => H) (fun k0 => []) (fun k0 => k0 ≤ f.flags.length) (fun k0 => f.flags.length - k0) 0 (fun _ s => s) ⟨rfl,(by rw [List.take_zero,List.all_nil,Bool.and_true];rfl),trivial⟩ (by omega) fun k0 hC => ?_
 refine .sr<|.yv (.lss Z Z) Z<|.nt<|.sq<|.cd Z (fun h19 => ?_) (fun h19 => ?_)
 ·try simp only [dt] at h19
  have hk0 : k0 < f.flags.length := by omega
  obtain ⟨bE0,oE0,cE0,hpE0,rE0,lE0,mE0⟩ := hs1.elem (map_at hk0)
  cases hpE0
  obtain ⟨rfl,hn5⟩ := fg_open rE0
  refine .sk<|.tN<|.sq<|.bk<|.sr<|.yv (.indexSl Fx.sl45 Z Z Z (by omega) (q := oE0 + k0 * 2) Z) Z<|.yv (.loadMW Z Fx.agg102 mE0 Z) Z<|.al Fx.zero102 Z fun b5 => .sW .head Z Z Fx.size102 (by simp [Value.oneCell',strV]) Z<|.nt<|.rg<|.m Z Z<|.m Z Z<|.b2 (fun h23 => ?_) (fun h23 => ?_)
  ·skip
   exact .gd Z Z<|.yv (.fieldAddr Z Fx.field102_0) Z<|.gd Z Z<|.yv (.load Z Fx.agg9 (.head _) Z) Z<|.gd Z Z<|.yv (.call Fx.call58 Z (fun W s => isName_any H G _ (by omega) W s.agr)) Z<|.yv (.pickT Z Z) Z<|.a Z Z<|.nl<|.bN<|.tN<|.rg<|.yv (.add Z Z (w6 (by omega))) Z<|.m Z Z<|.nt<|.ag (k0 + 1) ⟨rfl,(by rw [lall_succ hk0,← Bool.and_assoc,h23];rfl),trivial⟩ ⟨rfl,rfl,rfl,trivial⟩ (fun _ s => s.pick [1] [_] Z Z) (by omega) (by omega)
  skip
  exact .gF Z Z Z Z<|.gF Z Z Z Z<|.gF Z Z Z Z<|.yv (.pickF Z Z) Z<|.a Z Z<|.nl<|.bN<|.tN<|.rg<|.yv (.add Z Z (w6 (by omega))) Z<|.m Z Z<|.nt<|.ag (k0 + 1) ⟨rfl,(by rw [lall_succ hk0,← Bool.and_assoc,h23];rfl),trivial⟩ ⟨rfl,rfl,rfl,trivial⟩ (fun _ s => s.pick [1] [_] Z Z) (by omega) (by omega)
 try simp only [df] at h19
 obtain rfl : k0 = f.flags.length := by omega
 rw [List.take_length]
 refine .ex<|.tE<|.tE<|.bE<|.tN<|.sq<|.sr<|.yv (.fieldAddr Z Fx.field49_2) Z<|.yv (.load Z Fx.agg46 (.head _) Z) Z<|.yv (.lenSl Fx.sl46 Z) Z<|.m Z Z<|.nt<|.bk<|.lp (X := Nat) [(1,_),(30,_),(31,_)] ⟨rfl,rfl,rfl,trivial⟩ [_] (fun k1 => [(32,.int .i64 (k1 : Nat)),(3,.bool (nameB f.nm && f.flags.all (fun x => nameB x.nm) && (f.links.take k1).all (fun x => nameB x.fr && nameB x.to)))]) (fun k1 => H) (fun k1 => []) (fun k1 => k1 ≤ f.links.length) (fun k1 => f.links.length - k1) 0 (fun _ s => s) ⟨rfl,(by rw [List.take_zero,List.all_nil,Bool.and_true];rfl),trivial⟩ (by omega) fun k1 hC => ?_
 refine .sr<|.yv (.lss Z Z) Z<|.nt<|.sq<|.cd Z (fun h33 => ?_) (fun h33 => ?_)
 ·try simp only [dt] at h33
  have hk1 : k1 < f.links.length := by omega
  obtain ⟨bE1,oE1,cE1,hpE1,rE1,lE1,mE1⟩ := hs2.elem (map_at hk1)
  cases hpE1
  obtain ⟨rfl,hn5,hn6⟩ := lk_open rE1
  refine .sk<|.tN<|.sq<|.bk<|.sr<|.yv (.indexSl Fx.sl46 Z Z Z (by omega) (q := oE1 + k1 * 3) Z) Z<|.yv (.loadMW Z Fx.agg105 mE1 Z) Z<|.al Fx.zero105 Z fun b7 => .sW .head Z Z Fx.size105 (by simp [Value.oneCell',strV]) Z<|.nt<|.rg<|.m Z Z<|.m Z Z<|.b2 (fun h37 => ?_) (fun h37 => ?_)
  ·skip
   refine .gd Z Z<|.yv (.fieldAddr Z Fx.field105_0) Z<|.gd Z Z<|.yv (.load Z Fx.agg9 (.head _) Z) Z<|.gd Z Z<|.yv (.call Fx.call58 Z (fun W s => isName_any H G _ (by omega) W s.agr)) Z<|.yv (.pickT Z Z) Z<|.m Z Z<|.b2 (fun h42 => ?_) (fun h42 => ?_)
   ·skip
    exact .gd Z Z<|.yv (.fieldAddr Z Fx.field105_1) Z<|.gd Z Z<|.yv (.load Z Fx.agg9 (.head _) Z) Z<|.gd Z Z<|.yv (.call Fx.call58 Z (fun W s => isName_any H G _ (by omega) W s.agr)) Z<|.yv (.pickT Z Z) Z<|.a Z Z<|.nl<|.bN<|.tN<|.rg<|.yv (.add Z Z (w6 (by omega))) Z<|.m Z Z<|.nt<|.ag (k1 + 1) ⟨rfl,(by rw [lall_succ hk1,← Bool.and_assoc,h37];first | rfl | (rw [Bool.true_and,h42];rfl)),trivial⟩ ⟨rfl,rfl,rfl,trivial⟩ (fun _ s => s.pick [1] [_] Z Z) (by omega) (by omega)
   skip
   exact .gF Z Z Z Z<|.gF Z Z Z Z<|.gF Z Z Z Z<|.yv (.pickF Z Z) Z<|.a Z Z<|.nl<|.bN<|.tN<|.rg<|.yv (.add Z Z (w6 (by omega))) Z<|.m Z Z<|.nt<|.ag (k1 + 1) ⟨rfl,(by rw [lall_succ hk1,← Bool.and_assoc,h37];first | rfl | (rw [Bool.true_and,h42];rfl)),trivial⟩ ⟨rfl,rfl,rfl,trivial⟩ (fun _ s => s.pick [1] [_] Z Z) (by omega) (by omega)
  skip
  exact .gF Z Z Z Z<|.gF Z Z Z Z<|.gF Z Z Z Z<|.yv (.pickF Z Z) Z<|.m Z Z<|.gF Z Z Z Z<|.gF Z Z Z Z<|.gF Z Z Z Z<|.yv (.pickF Z Z) Z<|.a Z Z<|.nl<|.bN<|.tN<|.rg<|.yv (.add Z Z (w6 (by omega))) Z<|.m Z Z<|.nt<|.ag (k1 + 1) ⟨rfl,(by rw [lall_succ hk1,← Bool.and_assoc,h37];first | rfl | (rw [Bool.true_and,h42];rfl)),trivial⟩ ⟨rfl,rfl,rfl,trivial⟩ (fun _ s => s.pick [1] [_] Z Z) (by omega) (by omega)
 try simp only [df] at h33
 obtain rfl : k1 = f.links.length := by omega
 rw [List.take_length]
 refine .ex<|.tE<|.tE<|.bE<|.tN<|.sq<|.sr<|.yv (.fieldAddr Z Fx.field49_3) Z<|.yv (.load Z Fx.agg47 (.head _) Z) Z<|.yv (.lenSl Fx.sl47 Z) Z<|.m Z Z<|.nt<|.bk<|.lp (X := Nat) [(1,_),(49,_),(50,_)] ⟨rfl,rfl,rfl,trivial⟩ [_] (fun k2 => [(51,.int .i64 (k2 : Nat)),(3,.bool (nameB f.nm && f.flags.all (fun x => nameB x.nm) && f.links.all (fun x => nameB x.fr && nameB x.to) && (f.comps.take k2).all (fun c : Cp => nameB c.nm && c.vars.all fun v => nameB v.nm)))]) (fun k2 => H) (fun k2 => []) (fun k2 => k2 ≤ f.comps.length) (fun k2 => f.comps.length - k2) 0 (fun _ s => s) ⟨rfl,(by rw [List.take_zero,List.all_nil,Bool.and_true];rfl),trivial⟩ (by omega) fun k2 hC => ?_
 refine .sr<|.yv (.lss Z Z) Z<|.nt<|.sq<|.cd Z (fun h52 => ?_) (fun h52 => ?_)
 ·try simp only [dt] at h52
  have hk2 : k2 < f.comps.length := by omega
  obtain ⟨bE2,oE2,cE2,hpE2,rE2,lE2,mE2⟩ := hs3.elem (map_at hk2)
  cases hpE2
  generalize hx2 : f.comps[k2] = x2 at rE2
  obtain ⟨p4,c4,p5,c5,rfl,hn4,hs4,hs5⟩ := cp_open rE2
  have hcap4 := hs4.cap
  refine .sk<|.tN<|.sq<|.bk<|.sr<|.yv (.indexSl Fx.sl47 Z Z Z (by omega) (q := oE2 + k2 * 3) Z) Z<|.yv (.loadMW Z Fx.agg110 mE2 Z) Z<|.al Fx.zero110 Z fun b9 => .sW .head Z Z Fx.size110 (by simp [Value.oneCell',strV]) Z<|.ns<|.m Z Z<|.m Z Z<|.b2 (fun h56 => ?_) (fun h56 => ?_)
  ·skip
   refine .gd Z Z<|.yv (.fieldAddr Z Fx.field110_0) Z<|.gd Z Z<|.yv (.load Z Fx.agg9 (.head _) Z) Z<|.gd Z Z<|.yv (.call Fx.call58 Z (fun W s => isName_any H G _ (by omega) W s.agr)) Z<|.yv (.pickT Z Z) Z<|.a Z Z<|.ns<|.yv (.fieldAddr Z Fx.field110_1) Z<|.yv (.load Z Fx.agg107 (.head _) Z) Z<|.yv (.lenSl Fx.sl107 Z) Z<|.m Z Z<|.nt<|.bk<|.lp (X := Nat) [(1,_),(49,_),(50,_),(51,_),(62,_),(63,_)] ⟨rfl,rfl,rfl,rfl,rfl,rfl,trivial⟩ [_,_] (fun k3 => [(64,.int .i64 (k3 : Nat)),(3,.bool (nameB f.nm && f.flags.all (fun x => nameB x.nm) && f.links.all (fun x => nameB x.fr && nameB x.to) && (f.comps.take k2).all (fun c : Cp => nameB c.nm && c.vars.all fun v => nameB v.nm) && nameB x2.nm && (x2.vars.take k3).all (fun v => nameB v.nm)))]) (fun k3 => H) (fun k3 => []) (fun k3 => k3 ≤ x2.vars.length) (fun k3 => x2.vars.length - k3) 0 (fun _ s => s) ⟨rfl,(by rw [List.take_zero,List.all_nil,Bool.and_true,h56];rfl),trivial⟩ (by omega) fun k3 hC => ?_
   refine .sr<|.yv (.lss Z Z) Z<|.nt<|.sq<|.cd Z (fun h65 => ?_) (fun h65 => ?_)
   ·try simp only [dt] at h65
    have hk3 : k3 < x2.vars.length := by omega
    obtain ⟨bE3,oE3,cE3,hpE3,rE3,lE3,mE3⟩ := hs4.elem (map_at hk3)
    cases hpE3
    obtain ⟨rfl,hn7⟩ := vr_open rE3
    refine .sk<|.tN<|.sq<|.bk<|.sr<|.yv (.indexSl Fx.sl107 Z Z Z (by omega) (q := oE3 + k3 * 3) Z) Z<|.yv (.loadMW Z Fx.agg151 mE3 Z) Z<|.al Fx.zero151 Z fun b11 => .sW .head Z Z Fx.size151 (by simp [Value.oneCell',strV]) Z<|.nt<|.rg<|.m Z Z<|.m Z Z<|.b2 (fun h69 => ?_) (fun h69 => ?_)
    ·skip
     exact .gd Z Z<|.yv (.fieldAddr Z Fx.field151_0) Z<|.gd Z Z<|.yv (.load Z Fx.agg9 (.head _) Z) Z<|.gd Z Z<|.yv (.call Fx.call58 Z (fun W s => isName_any H G _ (by omega) W s.agr)) Z<|.yv (.pickT Z Z) Z<|.a Z Z<|.nl<|.bN<|.tN<|.rg<|.yv (.add Z Z (w6 (by omega))) Z<|.m Z Z<|.nt<|.ag (k3 + 1) ⟨rfl,(by rw [lall_succ hk3,← Bool.and_assoc,h69];rfl),trivial⟩ ⟨rfl,rfl,rfl,rfl,rfl,rfl,trivial⟩ (fun _ s => s.pick [1,2] [_,_] Z Z) (by omega) (by omega)
    skip
    exact .gF Z Z Z Z<|.gF Z Z Z Z<|.gF Z Z Z Z<|.yv (.pickF Z Z) Z<|.a Z Z<|.nl<|.bN<|.tN<|.rg<|.yv (.add Z Z (w6 (by omega))) Z<|.m Z Z<|.nt<|.ag (k3 + 1) ⟨rfl,(by rw [lall_succ hk3,← Bool.and_assoc,h69];rfl),trivial⟩ ⟨rfl,rfl,rfl,rfl,rfl,rfl,trivial⟩ (fun _ s => s.pick [1,2] [_,_] Z Z) (by omega) (by omega)
   try simp only [df] at h65
   obtain rfl : k3 = x2.vars.length := by omega
   rw [List.take_length]
   exact .ex<|.tE<|.tE<|.bE<|.bN<|.tN<|.rg<|.yv (.add Z Z (w6 (by omega))) Z<|.m Z Z<|.nt<|.ag (k2 + 1) ⟨rfl,(by rw [lall_succ hk2,← Bool.and_assoc,hx2,← Bool.and_assoc];rfl),trivial⟩ ⟨rfl,rfl,rfl,trivial⟩ (fun _ s => s.pick [1] [_] Z Z) (by omega) (by omega)
  skip
  refine .gF Z Z Z Z<|.gF Z Z Z Z<|.gF Z Z Z Z<|.yv (.pickF Z Z) Z<|.a Z Z<|.ns<|.yv (.fieldAddr Z Fx.field110_1) Z<|.yv (.load Z Fx.agg107 (.head _) Z) Z<|.yv (.lenSl Fx.sl107 Z) Z<|.m Z Z<|.nt<|.bk<|.lp (X := Nat) [(1,_),(49,_),(50,_),(51,_),(62,_),(63,_)] ⟨rfl,rfl,rfl,rfl,rfl,rfl,trivial⟩ [_,_] (fun k3 => [(64,.int .i64 (k3 : Nat)),(3,.bool (nameB f.nm && f.flags.all (fun x => nameB x.nm) && f.links.all (fun x => nameB x.fr && nameB x.to) && (f.comps.take k2).all (fun c : Cp => nameB c.nm && c.vars.all fun v => nameB v.nm) && nameB x2.nm && (x2.vars.take k3).all (fun v => nameB v.nm)))]) (fun k3 => H) (fun k3 => []) (fun k3 => k3 ≤ x2.vars.length) (fun k3 => x2.vars.length - k3) 0 (fun _ s => s) ⟨rfl,(by rw [List.take_zero,List.all_nil,Bool.and_true,h56];rfl),trivial⟩ (by omega) fun k3 hC => ?_
  refine .sr<|.yv (.lss Z Z) Z<|.nt<|.sq<|.cd Z (fun h65 => ?_) (fun h65 => ?_)
  ·try simp only [dt] at h65
   have hk3 : k3 < x2.vars.length := by omega
   obtain ⟨bE3,oE3,cE3,hpE3,rE3,lE3,mE3⟩ := hs4.elem (map_at hk3)
   cases hpE3
   obtain ⟨rfl,hn7⟩ := vr_open rE3
   refine .sk<|.tN<|.sq<|.bk<|.sr<|.yv (.indexSl Fx.sl107 Z Z Z (by omega) (q := oE3 + k3 * 3) Z) Z<|.yv (.loadMW Z Fx.agg151 mE3 Z) Z<|.al Fx.zero151 Z fun b11 => .sW .head Z Z Fx.size151 (by simp [Value.oneCell',strV]) Z<|.nt<|.rg<|.m Z Z<|.m Z Z<|.b2 (fun h69 => ?_) (fun h69 => ?_)
   ·skip
    exact .gd Z Z<|.yv (.fieldAddr Z Fx.field151_0) Z<|.gd Z Z<|.yv (.load Z Fx.agg9 (.head _) Z) Z<|.gd Z Z<|.yv (.call Fx.call58 Z (fun W s => isName_any H G _ (by omega) W s.agr)) Z<|.yv (.pickT Z Z) Z<|.a Z Z<|.nl<|.bN<|.tN<|.rg<|.yv (.add Z Z (w6 (by omega))) Z<|.m Z Z<|.nt<|.ag (k3 + 1) ⟨rfl,(by rw [lall_succ hk3,← Bool.and_assoc,h69];rfl),trivial⟩ ⟨rfl,rfl,rfl,rfl,rfl,rfl,trivial⟩ (fun _ s => s.pick [1,2] [_,_] Z Z) (by omega) (by omega)
   skip
   exact .gF Z Z Z Z<|.gF Z Z Z Z<|.gF Z Z Z Z<|.yv (.pickF Z Z) Z<|.a Z Z<|.nl<|.bN<|.tN<|.rg<|.yv (.add Z Z (w6 (by omega))) Z<|.m Z Z<|.nt<|.ag (k3 + 1) ⟨rfl,(by rw [lall_succ hk3,← Bool.and_assoc,h69];rfl),trivial⟩ ⟨rfl,rfl,rfl,rfl,rfl,rfl,trivial⟩ (fun _ s => s.pick [1,2] [_,_] Z Z) (by omega) (by omega)
  try simp only [df] at h65
  obtain rfl : k3 = x2.vars.length := by omega
  rw [List.take_length]
  exact .ex<|.tE<|.tE<|.bE<|.bN<|.tN<|.rg<|.yv (.add Z Z (w6 (by omega))) Z<|.m Z Z<|.nt<|.ag (k2 + 1) ⟨rfl,(by rw [lall_succ hk2,← Bool.and_assoc,hx2,← Bool.and_assoc];rfl),trivial⟩ ⟨rfl,rfl,rfl,trivial⟩ (fun _ s => s.pick [1] [_] Z Z) (by omega) (by omega)
 try simp only [df] at h52
 obtain rfl : k2 = f.comps.length := by omega
 rw [List.take_length]
 refine .ex<|.tE<|.tE<|.bE<|.tN<|.sr<|.m Z Z<|.m Z Z<|.b2 (fun h77 => ?_) (fun h77 => ?_)
 ·skip
  refine .gd Z Z<|.yv (.loadW Z Fx.agg49 (.head _) Z) Z<|.gd Z Z<|.yv (.call Fx.call101 Z (fun W s => everyHandler_any 103 namH namedHandler_any H G f _ h hok W s.agr)) Z<|.yv (.pickT Z Z) Z<|.a Z Z<|.nt<|.rt<|?_
  refine Sx.ret1 (.inl rfl) rfl (.tmp rfl) fun W s => ⟨retB ?_,s.ext⟩
  first
   | (rw [namF,h77];simp)
   | (rw [namF,h77];rfl)
 skip
 refine .gF Z Z Z Z<|.gF Z Z Z Z<|.yv (.pickF Z Z) Z<|.a Z Z<|.nt<|.rt<|?_
 refine Sx.ret1 (.inl rfl) rfl (.tmp rfl) fun W s => ⟨retB ?_,s.ext⟩
 first
  | (rw [namF,h77];simp)
  | (rw [namF,h77];rfl)
theorem Fx.call61 : callN Tryz.prog 61 = Bool.true := by kernel_rfl
theorem Fx.call62 : callN Tryz.prog 62 = Bool.true := by kernel_rfl
theorem Fx.call63 : callN Tryz.prog 63 = Bool.true := by kernel_rfl
theorem Fx.map209 : mapN Tryz.prog 209 = Bool.true := by kernel_rfl
set_option maxRecDepth 100000 in
theorem small_any (H : Hp) (G : Gl H) (f : Ft) (cs : List Value) (h : Rep H (dFt .u8 f) cs) (hok : evH okH f = true) (w : World) (hA : Agr H w) :
 Calls Tryz.prog 61 #[.agg cs.toArray] w fun r w' => r = .returned (.bool (smlF f)) ∧ Ext w w' := by
 obtain ⟨p1,c1,p2,c2,p3,c3,rfl,hnm,hs1,hs2,hs3⟩ := ft_open h
 have hcap1 := hs1.cap
 have hcap2 := hs2.cap
 have hcap3 := hs3.cap
 refine Sx.enter (H := H) Tryz.func61 rfl Tryz.ntmps61 rfl hA ?_
 refine .sr<|.bx Z Z Z fun b1 => .a Z Z<|.ns<|.yv (.fieldAddr Z Fx.field49_3) Z<|.yv (.load Z Fx.agg47 (.head _) Z) Z<|.yv (.lenSl Fx.sl47 Z) Z<|.a Z Z<|.nt<|.sq<|.sr<|.m Z Z<|.yv (.eql Z Z) Z<|.m Z Z<|.b2 (fun h17 => ?_) (fun h17 => ?_)
 ·try simp only [dt] at h17
  refine .gF Z Z Z Z<|.gF Z Z Z Z<|.yv (.pickT Z Z) Z<|.m Z Z<|.gF Z Z Z Z<|.gF Z Z Z Z<|.gF Z Z Z Z<|.gF Z Z Z Z<|.yv (.pickT Z Z) Z<|.m Z Z<|.gF Z Z Z Z<|.gF Z Z Z Z<|.gF Z Z Z Z<|.gF Z Z Z Z<|.yv (.pickT Z Z) Z<|.nt<|.cT Z<|.sr<|.a Z Z<|.nt<|.rt<|.tR<|?_
  refine Sx.ret1 (.inl rfl) rfl (.tmp rfl) fun W s => ⟨retB ?_,s.ext⟩
  first
   | (rw [smlF,hal1,show limF f = true by simp only [limF,Bool.and_eq_true,decide_eq_true_eq];omega];simp)
   | (rw [smlF,show limF f = false by simp only [limF,Bool.and_eq_false_iff,decide_eq_false_iff_not];omega];rfl)
   | (rw [smlF,show f.comps.all smlC = false from lall_bad hk1 (by rw [hx1];simp only [smlC,Bool.and_eq_false_iff,decide_eq_false_iff_not];omega)];simp)
 try simp only [df] at h17
 refine .gd Z Z<|.yv (.move Z) Z<|.gd Z Z<|.yv (.gtr Z Z) Z<|.yv (.pickF Z Z) Z<|.m Z Z<|.b2 (fun h21 => ?_) (fun h21 => ?_)
 ·try simp only [dt] at h21
  refine .gF Z Z Z Z<|.gF Z Z Z Z<|.gF Z Z Z Z<|.gF Z Z Z Z<|.yv (.pickT Z Z) Z<|.m Z Z<|.gF Z Z Z Z<|.gF Z Z Z Z<|.gF Z Z Z Z<|.gF Z Z Z Z<|.yv (.pickT Z Z) Z<|.nt<|.cT Z<|.sr<|.a Z Z<|.nt<|.rt<|.tR<|?_
  refine Sx.ret1 (.inl rfl) rfl (.tmp rfl) fun W s => ⟨retB ?_,s.ext⟩
  first
   | (rw [smlF,hal1,show limF f = true by simp only [limF,Bool.and_eq_true,decide_eq_true_eq];omega];simp)
   | (rw [smlF,show limF f = false by simp only [limF,Bool.and_eq_false_iff,decide_eq_false_iff_not];omega];rfl)
   | (rw [smlF,show f.comps.all smlC = false from lall_bad hk1 (by rw [hx1];simp only [smlC,Bool.and_eq_false_iff,decide_eq_false_iff_not];omega)];simp)
 try simp only [df] at h21
 refine .gd Z Z<|.yv (.fieldAddr Z Fx.field49_1) Z<|.gd Z Z<|.yv (.load Z Fx.agg45 (.head _) Z) Z<|.gd Z Z<|.yv (.lenSl Fx.sl45 Z) Z<|.gd Z Z<|.yv (.gtr Z Z) Z<|.yv (.pickF Z Z) Z<|.m Z Z<|.b2 (fun h27 => ?_) (fun h27 => ?_)
 ·try simp only [dt] at h27
  refine .gF Z Z Z Z<|.gF Z Z Z Z<|.gF Z Z Z Z<|.gF Z Z Z Z<|.yv (.pickT Z Z) Z<|.nt<|.cT Z<|.sr<|.a Z Z<|.nt<|.rt<|.tR<|?_
  refine Sx.ret1 (.inl rfl) rfl (.tmp rfl) fun W s => ⟨retB ?_,s.ext⟩
  first
   | (rw [smlF,hal1,show limF f = true by simp only [limF,Bool.and_eq_true,decide_eq_true_eq];omega];simp)
   | (rw [smlF,show limF f = false by simp only [limF,Bool.and_eq_false_iff,decide_eq_false_iff_not];omega];rfl)
   | (rw [smlF,show f.comps.all smlC = false from lall_bad hk1 (by rw [hx1];simp only [smlC,Bool.and_eq_false_iff,decide_eq_false_iff_not];omega)];simp)
 try simp only [df] at h27
 refine .gd Z Z<|.yv (.fieldAddr Z Fx.field49_2) Z<|.gd Z Z<|.yv (.load Z Fx.agg46 (.head _) Z) Z<|.gd Z Z<|.yv (.lenSl Fx.sl46 Z) Z<|.gd Z Z<|.yv (.gtr Z Z) Z<|.yv (.pickF Z Z) Z<|.nt<|.cd Z (fun h32 => ?_) (fun h32 => ?_)
 ·try simp only [dt] at h32
  refine .sr<|.a Z Z<|.nt<|.rt<|.tR<|?_
  refine Sx.ret1 (.inl rfl) rfl (.tmp rfl) fun W s => ⟨retB ?_,s.ext⟩
  first
   | (rw [smlF,hal1,show limF f = true by simp only [limF,Bool.and_eq_true,decide_eq_true_eq];omega];simp)
   | (rw [smlF,show limF f = false by simp only [limF,Bool.and_eq_false_iff,decide_eq_false_iff_not];omega];rfl)
   | (rw [smlF,show f.comps.all smlC = false from lall_bad hk1 (by rw [hx1];simp only [smlC,Bool.and_eq_false_iff,decide_eq_false_iff_not];omega)];simp)
 try simp only [df] at h32
 refine .sk<|.tN<|.sq<|.sr<|.yv (.fieldAddr Z Fx.field49_3) Z<|.yv (.load Z Fx.agg47 (.head _) Z) Z<|.yv (.lenSl Fx.sl47 Z) Z<|.m Z Z<|.nt<|.bk<|.lp (X := Nat) [(1,_),(34,_),(35,_)] ⟨rfl,rfl,rfl,trivial⟩ [_] (fun k1 => [(36,.int .i64 (k1 : Nat))]) (fun k1 => H) (fun k1 => []) (fun k1 => k1 ≤ f.comps.length ∧ (f.comps.take k1).all smlC = true) (fun k1 => f.comps.length - k1) 0 (fun _ s => s) ⟨rfl,trivial⟩ ⟨by omega,rfl⟩ fun k1 hC => ?_
 obtain ⟨hq1,hal1⟩ := hC
 refine .sr<|.yv (.lss Z Z) Z<|.nt<|.sq<|.cd Z (fun h37 => ?_) (fun h37 => ?_)
 ·try simp only [dt] at h37
  have hk1 : k1 < f.comps.length := by omega
  obtain ⟨bE1,oE1,cE1,hpE1,rE1,lE1,mE1⟩ := hs3.elem (map_at hk1)
  cases hpE1
  generalize hx1 : f.comps[k1] = x1 at rE1
  obtain ⟨p4,c4,p5,c5,rfl,hn4,hs4,hs5⟩ := cp_open rE1
  have hcap5 := hs5.cap
  refine .sk<|.tN<|.sq<|.bk<|.sr<|.yv (.indexSl Fx.sl47 Z Z Z (by omega) (q := oE1 + k1 * 3) Z) Z<|.yv (.loadMW Z Fx.agg110 mE1 Z) Z<|.al Fx.zero110 Z fun b5 => .sW .head Z Z Fx.size110 (by simp [Value.oneCell',strV]) Z<|.nt<|.sq<|.sr<|.yv (.fieldAddr Z Fx.field110_2) Z<|.yv (.load Z Fx.agg108 (.head _) Z) Z<|.yv (.lenSl Fx.sl108 Z) Z<|.a Z Z<|.ns<|.yv (.fieldAddr Z Fx.field110_1) Z<|.yv (.load Z Fx.agg107 (.head _) Z) Z<|.yv (.lenSl Fx.sl107 Z) Z<|.yv (.gtr Z Z) Z<|.m Z Z<|.b2 (fun h47 => ?_) (fun h47 => ?_)
  ·try simp only [dt] at h47
   refine .gF Z Z Z Z<|.gF Z Z Z Z<|.yv (.pickT Z Z) Z<|.m Z Z<|.gF Z Z Z Z<|.gF Z Z Z Z<|.yv (.pickT Z Z) Z<|.nt<|.cT Z<|.sr<|.a Z Z<|.nt<|.rt<|.tR<|.bR<|.tR<|.tR<|.bR<|.tR<|?_
   refine Sx.ret1 (.inl rfl) rfl (.tmp rfl) fun W s => ⟨retB ?_,s.ext⟩
   first
    | (rw [smlF,hal1,show limF f = true by simp only [limF,Bool.and_eq_true,decide_eq_true_eq];omega];simp)
    | (rw [smlF,show limF f = false by simp only [limF,Bool.and_eq_false_iff,decide_eq_false_iff_not];omega];rfl)
    | (rw [smlF,show f.comps.all smlC = false from lall_bad hk1 (by rw [hx1];simp only [smlC,Bool.and_eq_false_iff,decide_eq_false_iff_not];omega)];simp)
  try simp only [df] at h47
  refine .gd Z Z<|.yv (.move Z) Z<|.gd Z Z<|.yv (.eql Z Z) Z<|.yv (.pickF Z Z) Z<|.m Z Z<|.b2 (fun h51 => ?_) (fun h51 => ?_)
  ·try simp only [dt] at h51
   refine .gF Z Z Z Z<|.gF Z Z Z Z<|.yv (.pickT Z Z) Z<|.nt<|.cT Z<|.sr<|.a Z Z<|.nt<|.rt<|.tR<|.bR<|.tR<|.tR<|.bR<|.tR<|?_
   refine Sx.ret1 (.inl rfl) rfl (.tmp rfl) fun W s => ⟨retB ?_,s.ext⟩
   first
    | (rw [smlF,hal1,show limF f = true by simp only [limF,Bool.and_eq_true,decide_eq_true_eq];omega];simp)
    | (rw [smlF,show limF f = false by simp only [limF,Bool.and_eq_false_iff,decide_eq_false_iff_not];omega];rfl)
    | (rw [smlF,show f.comps.all smlC = false from lall_bad hk1 (by rw [hx1];simp only [smlC,Bool.and_eq_false_iff,decide_eq_false_iff_not];omega)];simp)
  try simp only [df] at h51
  refine .gd Z Z<|.yv (.move Z) Z<|.gd Z Z<|.yv (.gtr Z Z) Z<|.yv (.pickF Z Z) Z<|.nt<|.cd Z (fun h54 => ?_) (fun h54 => ?_)
  ·try simp only [dt] at h54
   refine .sr<|.a Z Z<|.nt<|.rt<|.tR<|.bR<|.tR<|.tR<|.bR<|.tR<|?_
   refine Sx.ret1 (.inl rfl) rfl (.tmp rfl) fun W s => ⟨retB ?_,s.ext⟩
   first
    | (rw [smlF,hal1,show limF f = true by simp only [limF,Bool.and_eq_true,decide_eq_true_eq];omega];simp)
    | (rw [smlF,show limF f = false by simp only [limF,Bool.and_eq_false_iff,decide_eq_false_iff_not];omega];rfl)
    | (rw [smlF,show f.comps.all smlC = false from lall_bad hk1 (by rw [hx1];simp only [smlC,Bool.and_eq_false_iff,decide_eq_false_iff_not];omega)];simp)
  try simp only [df] at h54
  refine .sk<|.tN<|.sr<|.mm Fx.map209 Z fun b55 => .a Z Z<|.nt<|.sq<|.sr<|.yv (.fieldAddr Z Fx.field110_2) Z<|.yv (.load Z Fx.agg108 (.tail _<|.head _) Z) Z<|.yv (.lenSl Fx.sl108 Z) Z<|.m Z Z<|.nt<|.bk<|.lp (X := Nat) [(1,_),(7,_),(34,_),(35,_),(36,_),(57,_),(58,_)] ⟨rfl,rfl,rfl,rfl,rfl,rfl,rfl,trivial⟩ [_,_] (fun k2 => [(59,.int .i64 (k2 : Nat))]) (fun k2 => H) (fun k2 => [(.obj b55 (mo ((x1.vers.take k2).foldl stepV [])))]) (fun k2 => k2 ≤ x1.vers.length) (fun k2 => x1.vers.length - k2) 0 (fun _ s => s) ⟨rfl,trivial⟩ (by omega) fun k2 hC => ?_
  refine .sr<|.yv (.lss Z Z) Z<|.nt<|.sq<|.cd Z (fun h60 => ?_) (fun h60 => ?_)
  ·try simp only [dt] at h60
   have hk2 : k2 < x1.vers.length := by omega
   obtain ⟨bE2,oE2,cE2,hpE2,rE2,lE2,mE2⟩ := hs5.elem (map_at hk2)
   cases hpE2
   generalize hx2 : x1.vers[k2] = x2 at rE2
   obtain ⟨p6,c6,rfl,hs6⟩ := vs_open rE2
   have hcap6 := hs6.cap
   refine .sk<|.tN<|.sq<|.bk<|.sr<|.yv (.indexSl Fx.sl108 Z Z Z (by omega) (q := oE2 + k2 * 1) Z) Z<|.yv (.loadMW Z Fx.agg155 mE2 Z) Z<|.al Fx.zero155 Z fun b9 => .sW .head Z Z Fx.size155 (by simp [Value.oneCell',strV]) Z<|.ns<|.yv (.fieldAddr Z Fx.field155_0) Z<|.yv (.load Z Fx.agg153 (.head _) Z) Z<|.yv (.lenSl Fx.sl153 Z) Z<|.m Z Z<|.nt<|.bk<|.pm [1,0,2,3] [_,_,_,_] Z Z<|.lp (X := Nat) [(1,_),(7,_),(34,_),(35,_),(36,_),(57,_),(58,_),(59,_),(64,_),(65,_)] ⟨rfl,rfl,rfl,rfl,rfl,rfl,rfl,rfl,rfl,rfl,trivial⟩ [_,_,_] (fun k3 => [(66,.int .i64 (k3 : Nat))]) (fun k3 => H) (fun k3 => [(.obj b55 (mo ((x2.take k3).foldl stepH ((x1.vers.take k2).foldl stepV []))))]) (fun k3 => k3 ≤ x2.length) (fun k3 => x2.length - k3) 0 (fun _ s => s) ⟨rfl,trivial⟩ (by omega) fun k3 hC => ?_
   refine .sr<|.yv (.lss Z Z) Z<|.nt<|.sq<|.cd Z (fun h67 => ?_) (fun h67 => ?_)
   ·try simp only [dt] at h67
    have hk3 : k3 < x2.length := by omega
    obtain ⟨bE3,oE3,cE3,hpE3,rE3,lE3,mE3⟩ := hs6.elem (map_at hk3)
    cases hpE3
    generalize hx3 : x2[k3] = x3 at rE3
    obtain ⟨p7,c7,p8,c8,rfl,hn7,hs7,hs8⟩ := hd_open rE3
    exact .sk<|.tN<|.sq<|.bk<|.sr<|.yv (.indexSl Fx.sl153 Z Z Z (by omega) (q := oE3 + k3 * 3) Z) Z<|.yv (.loadMW Z Fx.agg162 mE3 Z) Z<|.al Fx.zero162 Z fun b11 => .sW .head Z Z Fx.size162 (by simp [Value.oneCell',strV]) Z<|.nt<|.rg<|.m Z Z<|.yv (.fieldAddr Z Fx.field162_0) Z<|.yv (.load Z Fx.agg9 (.head _) Z) Z<|.mu (.tail<|.head) Fx.map209 Z Z Z<|.nl<|.bN<|.tN<|.rg<|.yv (.add Z Z (w6 (by omega))) Z<|.m Z Z<|.nt<|.ag (k3 + 1) ⟨rfl,trivial⟩ ⟨rfl,rfl,rfl,rfl,rfl,rfl,rfl,rfl,rfl,rfl,trivial⟩ (fun W s => by rw [fold_succ hk3,hx3];exact (s.pick [1,2,3,4] _ Z Z)) (by omega) (by omega)
   try simp only [df] at h67
   obtain rfl : k3 = x2.length := by omega
   rw [List.take_length]
   exact .ex<|.tE<|.tE<|.bE<|.bN<|.tN<|.rg<|.yv (.add Z Z (w6 (by omega))) Z<|.m Z Z<|.nt<|.ag (k2 + 1) ⟨rfl,trivial⟩ ⟨rfl,rfl,rfl,rfl,rfl,rfl,rfl,trivial⟩ (fun W s => by rw [show (x1.vers.take (k2 + 1)).foldl stepV [] = x2.foldl stepH ((x1.vers.take k2).foldl stepV []) by rw [fold_succ hk2,hx2];rfl];exact (s.pick [0,2,3] _ Z Z)) (by omega) (by omega)
  try simp only [df] at h60
  obtain rfl : k2 = x1.vers.length := by omega
  rw [List.take_length]
  have hnm1 : (x1.vers.foldl stepV []).length = (namesOf x1).length := rfl
  refine .ex<|.tE<|.tE<|.bE<|.tN<|.sr<|.m Z Z<|.yv (.lenM Fx.map209 (.head _) Z) Z<|.yv (.gtr Z Z) Z<|.nt<|.cd Z (fun h77 => ?_) (fun h77 => ?_)
  ·try simp only [dt] at h77
   refine .sr<|.a Z Z<|.nt<|.rt<|.bR<|.tR<|.tR<|.bR<|.tR<|?_
   refine Sx.ret1 (.inl rfl) rfl (.tmp rfl) fun W s => ⟨retB ?_,s.ext⟩
   first
    | (rw [smlF,hal1,show limF f = true by simp only [limF,Bool.and_eq_true,decide_eq_true_eq];omega];simp)
    | (rw [smlF,show limF f = false by simp only [limF,Bool.and_eq_false_iff,decide_eq_false_iff_not];omega];rfl)
    | (rw [smlF,show f.comps.all smlC = false from lall_bad hk1 (by rw [hx1];simp only [smlC,Bool.and_eq_false_iff,decide_eq_false_iff_not];omega)];simp)
  try simp only [df] at h77
  exact .sk<|.bN<|.tN<|.rg<|.yv (.add Z Z (w6 (by omega))) Z<|.m Z Z<|.nt<|.ag (k1 + 1) ⟨rfl,trivial⟩ ⟨rfl,rfl,rfl,trivial⟩ (fun _ s => s.pick [2] [_] Z Z) ⟨by omega,by rw [lall_succ hk1,hal1,hx1];simp only [smlC,Bool.true_and,Bool.and_eq_true,decide_eq_true_eq];omega⟩ (by omega)
 try simp only [df] at h37
 obtain rfl : k1 = f.comps.length := by omega
 rw [List.take_length] at hal1
 refine .ex<|.tE<|.tE<|.bE<|.tN<|.sr<|.yv (.loadW Z Fx.agg49 (.head _) Z) Z<|.yv (.call Fx.call101 Z (fun W s => everyHandler_any 102 smaH smallHandler_any H G f _ h hok W s.agr)) Z<|.a Z Z<|.nt<|.rt<|?_
 refine Sx.ret1 (.inl rfl) rfl (.tmp rfl) fun W s => ⟨retB ?_,s.ext⟩
 first
  | (rw [smlF,hal1,show limF f = true by simp only [limF,Bool.and_eq_true,decide_eq_true_eq];omega];simp)
  | (rw [smlF,show limF f = false by simp only [limF,Bool.and_eq_false_iff,decide_eq_false_iff_not];omega];rfl)
  | (rw [smlF,show f.comps.all smlC = false from lall_bad hk1 (by rw [hx1];simp only [smlC,Bool.and_eq_false_iff,decide_eq_false_iff_not];omega)];simp)
set_option maxRecDepth 100000 in
theorem check_any (H : Hp) (G : Gl H) (f : Ft) (cs : List Value) (h : Rep H (dFt .u8 f) cs) (hok : evH okH f = true) (w : World) (hA : Agr H w) :
 Calls Tryz.prog 35 #[.agg cs.toArray] w fun r w' => r = .returned (.int .i64 (checkF f : Nat)) ∧ Ext w w' := by
 obtain ⟨p1,c1,p2,c2,p3,c3,rfl,hnm,hs1,hs2,hs3⟩ := ft_open h
 have hcap1 := hs1.cap
 have hcap2 := hs2.cap
 have hcap3 := hs3.cap
 refine Sx.enter (H := H) Tryz.func35 rfl Tryz.ntmps35 rfl hA ?_
 refine .sr<|.bx Z Z Z fun b1 => .a Z Z<|.nt<|.sq<|.bk<|.sr<|.yv (.loadW Z Fx.agg49 (.head _) Z) Z<|.yv (.call Fx.call61 Z (fun W s => small_any H G f _ h hok W s.agr)) Z<|.yv (.not Z) Z<|.a Z Z<|.nt<|.cd Z (fun h3 => ?_) (fun h3 => ?_)
 ·skip
  refine .sr<|.a Z Z<|.nt<|.rt<|.bR<|.tR<|?_
  refine Sx.ret1 (.inl rfl) rfl (.tmp rfl) fun W s => ⟨?_,s.ext⟩
  first
   | (rw [checkF,if_pos (by simpa using h3)];rfl)
   | (rw [checkF,if_neg (by simpa using h3),if_pos (by simpa using h7)];rfl)
   | (rw [checkF,if_neg (by simpa using h3),if_neg (by simpa using h7),if_pos (by simpa using h11)];rfl)
   | (rw [checkF,if_neg (by simpa using h3),if_neg (by simpa using h7),if_neg (by simpa using h11)];rfl)
 skip
 refine .sr<|.yv (.loadW Z Fx.agg49 (.head _) Z) Z<|.yv (.call Fx.call62 Z (fun W s => named_any H G f _ h hok W s.agr)) Z<|.yv (.not Z) Z<|.a Z Z<|.nt<|.cd Z (fun h7 => ?_) (fun h7 => ?_)
 ·skip
  refine .sr<|.a Z Z<|.nt<|.rt<|.bR<|.tR<|?_
  refine Sx.ret1 (.inl rfl) rfl (.tmp rfl) fun W s => ⟨?_,s.ext⟩
  first
   | (rw [checkF,if_pos (by simpa using h3)];rfl)
   | (rw [checkF,if_neg (by simpa using h3),if_pos (by simpa using h7)];rfl)
   | (rw [checkF,if_neg (by simpa using h3),if_neg (by simpa using h7),if_pos (by simpa using h11)];rfl)
   | (rw [checkF,if_neg (by simpa using h3),if_neg (by simpa using h7),if_neg (by simpa using h11)];rfl)
 skip
 refine .sr<|.yv (.loadW Z Fx.agg49 (.head _) Z) Z<|.yv (.call Fx.call63 Z (fun W s => formed_any H G f _ h hok W s.agr)) Z<|.yv (.not Z) Z<|.a Z Z<|.nt<|.cd Z (fun h11 => ?_) (fun h11 => ?_)
 ·skip
  refine .sr<|.a Z Z<|.nt<|.rt<|.bR<|.tR<|?_
  refine Sx.ret1 (.inl rfl) rfl (.tmp rfl) fun W s => ⟨?_,s.ext⟩
  first
   | (rw [checkF,if_pos (by simpa using h3)];rfl)
   | (rw [checkF,if_neg (by simpa using h3),if_pos (by simpa using h7)];rfl)
   | (rw [checkF,if_neg (by simpa using h3),if_neg (by simpa using h7),if_pos (by simpa using h11)];rfl)
   | (rw [checkF,if_neg (by simpa using h3),if_neg (by simpa using h7),if_neg (by simpa using h11)];rfl)
 skip
 refine .sk<|.bN<|.tN<|.sr<|.a Z Z<|.nt<|.rt<|?_
 refine Sx.ret1 (.inl rfl) rfl (.tmp rfl) fun W s => ⟨?_,s.ext⟩
 first
  | (rw [checkF,if_pos (by simpa using h3)];rfl)
  | (rw [checkF,if_neg (by simpa using h3),if_pos (by simpa using h7)];rfl)
  | (rw [checkF,if_neg (by simpa using h3),if_neg (by simpa using h7),if_pos (by simpa using h11)];rfl)
  | (rw [checkF,if_neg (by simpa using h3),if_neg (by simpa using h7),if_neg (by simpa using h11)];rfl)
end Go.Proofs.YthhoebdlfjffkaaGreatDoor
namespace Go.Proofs
open Go.Shelf
end Go.Proofs
namespace Go.Proofs.YthhoebdlfjffkaaGreatDoor
open Go.RowKit Go.Par Go.Sx
end Go.Proofs.YthhoebdlfjffkaaGreatDoor
namespace Go.Proofs.YthhoebdlfjffkaaGreatDoor
open Go.RowKit Go.Par Go.Sx
def Gt (H : Hp) : Prop := ∀ W,Agr H W → Lib.TabIs Tryz.prog W "internal/strconv.uint64pow10" .u64 Lib.pow10Tab
theorem Gt.up {H H' : Hp} (g : Gt H) (u : Up H H') : Gt H' := fun W a => g W fun b o e => a b o (u b o e)
theorem lalls_at {q : Ex → Bool} {l : List Ex} {k : Nat} (h : k < l.length) (ha : Ex.alls q l = true) : Ex.all q l[k] = true := by
 cases hb : Ex.all q l[k] with
 | true => rfl
 | false => rw [alls_bad h hb] at ha;cases ha
theorem Fx.bsl52_1 (x0 : ByteArray) : bslN Tryz.prog 52 1 [(0,.string x0)] = some (9,[.string x0]) := by kernel_rfl
theorem Fx.bsl52_2 (x0 : ByteArray) (x1 : ByteArray) : bslN Tryz.prog 52 2 [(0,.string x0),(1,.string x1)] = some (9,[.string x0,.string x1]) := by kernel_rfl
theorem Fx.size9 : sizeN Tryz.prog 9 = Option.some 1 := by kernel_rfl
theorem Fx.bsl52_3 (x0 : ByteArray) (x1 : ByteArray) (x2 : ByteArray) : bslN Tryz.prog 52 3 [(0,.string x0),(1,.string x1),(2,.string x2)] = some (9,[.string x0,.string x1,.string x2]) := by kernel_rfl
theorem Fx.bsl52_6 (x0 : ByteArray) (x1 : ByteArray) (x2 : ByteArray) (x3 : ByteArray) (x4 : ByteArray) (x5 : ByteArray) : bslN Tryz.prog 52 6 [(0,.string x0),(1,.string x1),(2,.string x2),(3,.string x3),(4,.string x4),(5,.string x5)] = some (9,[.string x0,.string x1,.string x2,.string x3,.string x4,.string x5]) := by kernel_rfl
theorem Fx.size3 : sizeN Tryz.prog 3 = Option.some 1 := by kernel_rfl
theorem Fx.call15 : callN Tryz.prog 15 = Bool.true := by kernel_rfl
theorem Fx.call35 : callN Tryz.prog 35 = Bool.true := by kernel_rfl
theorem Fx.field102_1 : fieldN Tryz.prog 102 1 = Option.some 1 := by kernel_rfl
theorem Fx.agg31 : aggN Tryz.prog 31 = Option.some Option.none := by kernel_rfl
theorem Fx.agg33 : aggN Tryz.prog 33 = Option.some (Option.some 4) := by kernel_rfl
theorem Fx.call14 : callN Tryz.prog 14 = Bool.true := by kernel_rfl
theorem Fx.field33_0 : fieldN Tryz.prog 33 0 = Option.some 0 := by kernel_rfl
theorem Fx.field33_1 : fieldN Tryz.prog 33 1 = Option.some 1 := by kernel_rfl
theorem Fx.field33_2 : fieldN Tryz.prog 33 2 = Option.some 2 := by kernel_rfl
theorem Fx.field33_3 : fieldN Tryz.prog 33 3 = Option.some 3 := by kernel_rfl
theorem Fx.int3 : intN Tryz.prog 3 = Option.some Go.IntKind.i64 := by kernel_rfl
theorem Fx.int24 : intN Tryz.prog 24 = Option.some Go.IntKind.u8 := by kernel_rfl
theorem Fx.row25 : rowN Tryz.prog 25 = Option.some (27,4,56) := by kernel_rfl
theorem Fx.size25 : sizeN Tryz.prog 25 = Option.some 1 := by kernel_rfl
theorem Fx.size33 : sizeN Tryz.prog 33 = Option.some 4 := by kernel_rfl
theorem Fx.sl31 : slN Tryz.prog 31 = Option.some 4 := by kernel_rfl
theorem Fx.zero33 : zeroN Tryz.prog 33 = Option.some
 [Go.Value.int Go.IntKind.i64 (Int.ofNat 0),Go.Value.string { data := { toList := [] } },
  Go.Value.int Go.IntKind.i64 (Int.ofNat 0),Go.Value.slice Option.none 0 0] := by kernel_rfl
theorem Fx.bld27_0_1_2 (x0 : Int) (x1 : ByteArray) (x2 : Int) : buildN Tryz.prog 27 [(0,.int .u8 x0),(1,.string x1),(2,.int .i64 x2)] = some [.int .u8 x0,.string x1,.int .i64 x2,.slice none 0 0] := by kernel_rfl
theorem Fx.bsl25_1 (x00 x01 x02 x03 : Value) : bslN Tryz.prog 25 1 [(0,.agg [x00,x01,x02,x03].toArray)] = some (27,[x00,x01,x02,x03]) := by kernel_rfl
def ExprOf (e : Ex) : Prop := Ex.all narrow e = true → ∀ (H : Hp) (cs : List Value) (w : World),Rep H (dEx .i64 e) cs → Agr H w →
 Calls Tryz.prog 14 #[.agg cs.toArray] w fun r w' => ∃ x H',Rep H' (dEx .u8 e) x ∧ r = .returned (.agg x.toArray) ∧ Grow H w H' w'
set_option maxRecDepth 100000 in
theorem expr_any (e : Ex) : ExprOf e := by
 induction e using Ex.ind with | _ op nm nn args ih
 intro hnr H cs w h hA
 rw [all_mk,Bool.and_eq_true,narrow_mk,decide_eq_true_eq] at hnr
 obtain ⟨p,c,rfl,hs,hnm⟩ := ex_open h
 have hcap := hs.cap
 have hn3 := hnr.1
 refine Sx.enter (H := H) Tryz.func14 rfl Tryz.ntmps14 rfl hA ?_
 refine .sr<|.bx Z Z Z fun b1 => .al Fx.zero27 Z fun b2 => ?_
 refine Sx.row0 27 4 ?_
 refine .ns<|.yv (.fieldAddr Z Fx.field33_0) Z<|.yv (.load Z Fx.agg3 (.tail _<|.tail _<|.head _) Z) Z<|.yv (.conv Z Fx.int3 Fx.int24 (c := (op.toNat : Nat)) (by have := op.toNat_lt;simp only [IntKind.wrap,IntKind.signed,IntKind.bits];simp;omega)) Z<|.yv (.fieldAddr Z Fx.field33_1) Z<|.yv (.load Z Fx.agg9 (.tail _<|.tail _<|.head _) Z) Z<|.yv (.fieldAddr Z Fx.field33_2) Z<|.yv (.load Z Fx.agg2 (.tail _<|.tail _<|.head _) Z) Z<|.yv (.build Z (Fx.bld27_0_1_2 _ _ _)) Z<|.al Fx.zero27 Z fun b3 => .sW .head Z Z Fx.size27 (by simp [Value.oneCell',strV]) Z<|.nt<|.sq<|.sr<|.yv (.fieldAddr Z Fx.field33_3) Z<|.yv (.load Z Fx.agg31 (.tail _<|.tail _<|.tail _<|.head _) Z) Z<|.yv (.lenSl Fx.sl31 Z) Z<|.m Z Z<|.nt<|.bk<|.lp (X := Nat × Hp × Value × List Value) [(2,_),(3,_),(15,_),(16,_)] ⟨rfl,rfl,rfl,rfl,trivial⟩ [_,_] (fun z => [(17,.int .i64 (z.1 : Nat))]) (fun z => z.2.1) (fun z => [.box b3 [.int .u8 op.toNat,strV nm,.int .i64 nn.toInt,z.2.2.1] 27,.row 27 4 z.2.2.1 z.1 z.2.2.2]) (fun z => z.1 ≤ args.length ∧ HUp w H z.2.1 ∧ RepZ z.2.1 4 ((args.take z.1).map (dEx .u8)) z.2.2.2) (fun z => args.length - z.1) (0,H,.slice none 0 0,[]) (fun _ s => s) ⟨rfl,trivial⟩ ⟨by simp,.refl,RepZ.nil⟩ fun z hC => ?_
 obtain ⟨k,H1,r,xs⟩ := z
 dsimp only at hC ⊢
 obtain ⟨hk0,u1,hz⟩ := hC
 refine .sr<|.yv (.lss Z Z) Z<|.nt<|.sq<|.cd Z (fun h18 => ?_) (fun h18 => ?_)
 ·try simp only [dt] at h18
  have hk : k < args.length := by omega
  obtain ⟨bE,oE,cE,hpE,rE,lE,mE⟩ := (hs.up u1.up).elem (map_at hk)
  cases hpE
  have hnr1 := lalls_at hk hnr.2
  refine .sk<|.tN<|.sq<|.bk<|.sr<|.yv (.indexSl Fx.sl31 Z Z Z (by omega) (q := oE + k * 4) Z) Z<|.yv (.loadMW Z Fx.agg33 mE lE) Z<|.al Fx.zero33 Z fun b5 => .sV .head Z Z Fx.size33 lE rE.one Z<|.nt<|.fl (trip := [(_,_,_),(_,_,_),(_,_,_),(_,_,_),(_,_,_)]) 5 [(0,0),(1,0),(2,0),(3,1),(4,1)] (by kernel_rfl) (by kernel_rfl) Z<|.yv (.fieldAddr Z Fx.field27_3) Z<|.yv (.load Z Fx.agg25 (.tail _<|.head _) Z) Z<|.yv (.loadW Z Fx.agg33 (.head _) lE) Z<|.ct (X := List Value) Fx.call14 Z (fun W s => ih _ (List.getElem_mem hk) hnr1 H1 cE W rE s.agr) Z fun x2 H2 hc2 u2 => ?_
  generalize hx : args[k] = x at hc2
  obtain ⟨op2,nm2,n2,args2⟩ := x
  obtain ⟨p2,c2,rfl,hs2,hnm2⟩ := ex_open hc2
  refine .bl Z (Fx.bsl25_1 _ _ _ _) Z fun b25 => .fn (tl := [_,_,_]) Z<|.ap (news := [.int .u8 op2.toNat,strV nm2,.int .i64 n2.toInt,.slice p2 args2.length c2]) Fx.row25 Z (fun _ => (.tail<|.tail<|.tail<|.head)) Z (.box (.head _) z0) Z (by simp [Value.oneCell',strV]) (by simp [maxLen];omega) (by omega) Z fun r26 _ => ?_
  refine At.ra (.tail _ (.tail _ (.tail _ (.head _)))) fun p26 c26 e26 => ?_
  exact .yv (.fieldAddr Z Fx.field27_3) Z<|.st (.tail<|.tail<|.head) Z Z Fx.size25 (by rw [e26];rfl) (nb Z) Z<|.nl<|.bN<|.tN<|.rg<|.yv (.add Z Z (w6 (by omega))) Z<|.m Z Z<|.nt<|.ag (x := (k,H1,r,xs)) (k + 1,H2,r26,xs ++ [.int .u8 op2.toNat,strV nm2,.int .i64 n2.toInt,.slice p2 args2.length c2]) ⟨rfl,trivial⟩ ⟨rfl,rfl,rfl,rfl,trivial⟩ (fun _ s => (s.pick [2,3,4,5] _ Z Z)) ⟨by dsimp only;omega,u1.trans u2,by dsimp only;rw [take_snoc hk,hx,List.map_append];exact (hz.up u2.up).snoc hc2 Z⟩ (by dsimp only;omega)
 try simp only [df] at h18
 obtain rfl : k = args.length := by omega
 rw [List.take_length] at hz
 refine At.ra (.tail _ (.head _)) fun p26 c26 e26 => ?_
 subst e26
 refine .ex<|.tE<|.tE<|.bE<|.tN<|.sr<|.yv (.loadW Z Fx.agg27 (.head _) Z) Z<|.sW (.tail<|.tail<|.head) Z Z Fx.size27 (by simp [Value.oneCell',strV]) Z<|.nt<|.rt<|?_
 refine At.pm [1,2] [_,_] rfl rfl ?_
 refine Sx.freezeSeq (ds := args.map (dEx .u8)) (by simp) hz fun H3 p3 c3 u3 hr3 hs3 => ?_
 refine Sx.ret1 (.inl rfl) rfl (.cell rfl Fx.agg27 (.head _) rfl) fun W s => ⟨_,H3,ex_shut hnm hs3,rfl,(u1.trans u3).grow s⟩
theorem Fx.int5 : intN Tryz.prog 5 = Option.some Go.IntKind.u8 := by kernel_rfl
end Go.Proofs.YthhoebdlfjffkaaGreatDoor
namespace Go.Proofs.YthhoebdlfjffkaaGreatDoor
open Go.RowKit Go.Par Go.Sx
end Go.Proofs.YthhoebdlfjffkaaGreatDoor
namespace Go.Proofs.YthhoebdlfjffkaaGreatDoor
open Go.RowKit Go.Par Go.Sx
structure Sp where
 wh : UInt8
 i : UInt8
 nm : UInt8
 n : Int64
 nodes : List Nd
def okE (e : Ex) : Bool := decide (e.depth ≤ 64) && Ex.all narrow e
def okS2 (N : Nat) : Sm → Bool
 | .mk _ _ _ ex _ _ => decide (ex.length ≤ N) && ex.all okE
structure okL (N : Nat) (l : List Sm) : Prop where
 cnt : Sm.counts l ≤ N
 dep : Sm.deeps l ≤ N
 all : Sm.alls (okS2 N) l = true
mutual
theorem sall_imp {q q' : Sm → Bool} (h : ∀ s,q s = true → q' s = true) : ∀ s,Sm.all q s = true → Sm.all q' s = true
 | .mk kd nm hd ex th el,hh => by
  rw [sall_mk] at hh ⊢
  simp only [Bool.and_eq_true] at hh ⊢
  exact ⟨⟨h _ hh.1.1,salls_imp h th hh.1.2⟩,salls_imp h el hh.2⟩
theorem salls_imp {q q' : Sm → Bool} (h : ∀ s,q s = true → q' s = true) : ∀ l,Sm.alls q l = true → Sm.alls q' l = true
 | [],_ => rfl
 | s :: r,hh => by
  rw [Sm.alls,Bool.and_eq_true] at hh ⊢
  exact ⟨sall_imp h s hh.1,salls_imp h r hh.2⟩
end
theorem okS2_mono {N M : Nat} (h : N ≤ M) : ∀ s,okS2 N s = true → okS2 M s = true
 | .mk _ _ _ ex _ _,hh => by
  simp only [okS2,Bool.and_eq_true,decide_eq_true_eq] at hh ⊢
  exact ⟨by omega,hh.2⟩
theorem okL.mono {N M : Nat} {l : List Sm} (h : okL N l) (k : N ≤ M) : okL M l := ⟨by have := h.cnt;omega,by have := h.dep;omega,salls_imp (okS2_mono k) l h.all⟩
theorem okL.nil {N : Nat} : okL N [] := ⟨by simp [Sm.counts],by simp [Sm.deeps],rfl⟩
theorem okL.app {N M : Nat} {a b : List Sm} (h : okL N a) (k : okL M b) : okL (N + M) (a ++ b) := by
 have h2 := h.mono (M := N + M) (by omega)
 have k2 := k.mono (M := N + M) (by omega)
 refine ⟨?_,?_,?_⟩
 ·rw [scounts_app];have := h.cnt;have := k.cnt;omega
 ·rw [sdeeps_app];have := h2.dep;have := k2.dep;omega
 ·rw [salls_app,h2.all,k2.all];rfl
theorem okL.len {N : Nat} {l : List Sm} (h : okL N l) : l.length ≤ N := Nat.le_trans (scounts_len l) h.cnt
theorem okL.left {N : Nat} {a b : List Sm} (h : okL N (a ++ b)) : okL N a := by
 obtain ⟨h1,h2,h3⟩ := h
 rw [scounts_app] at h1
 rw [sdeeps_app] at h2
 rw [salls_app,Bool.and_eq_true] at h3
 exact ⟨by omega,by omega,h3.1⟩
theorem okL.right {N : Nat} {a b : List Sm} (h : okL N (a ++ b)) : okL N b := by
 obtain ⟨h1,h2,h3⟩ := h
 rw [scounts_app] at h1
 rw [sdeeps_app] at h2
 rw [salls_app,Bool.and_eq_true] at h3
 exact ⟨by omega,by omega,h3.2⟩
theorem split_at {α : Type} {l : List α} {j : Nat} (h : j < l.length) : l = l.take j ++ ([l[j]] ++ l.drop (j + 1)) := by simp
theorem set_at {α : Type} {l : List α} {j : Nat} (h : j < l.length) (s : α) : l.set j s = l.take j ++ ([s] ++ l.drop (j + 1)) := by
 rw [List.set_eq_take_append_cons_drop,if_pos h];rfl
theorem okL.at {N : Nat} {l : List Sm} (h : okL N l) {j : Nat} (hj : j < l.length) : okL N [l[j]] := by
 have h2 := h
 rw [split_at hj] at h2
 exact h2.right.left
theorem okL.put {N M : Nat} {l : List Sm} (h : okL N l) {j : Nat} (hj : j < l.length) {s : Sm} (k : okL (N + M) [s]) : okL (N + (N + M)) (l.set j s) := by
 have h2 := h
 rw [split_at hj] at h2
 have h3 : okL N (l.take j ++ l.drop (j + 1)) := by
  obtain ⟨a1,a2,a3⟩ := h2
  simp only [scounts_app,sdeeps_app,salls_app,Bool.and_eq_true] at a1 a2 a3
  refine ⟨?_,?_,?_⟩
  ·rw [scounts_app];omega
  ·rw [sdeeps_app];omega
  ·rw [salls_app,a3.1,a3.2.2];rfl
 rw [set_at hj]
 obtain ⟨a1,a2,a3⟩ := h3
 obtain ⟨b1,b2,b3⟩ := k
 rw [scounts_app] at a1
 rw [sdeeps_app] at a2
 rw [salls_app,Bool.and_eq_true] at a3
 have m1 := okS2_mono (N := N) (M := N + (N + M)) (by omega)
 have m2 := okS2_mono (N := N + M) (M := N + (N + M)) (by omega)
 refine ⟨?_,?_,?_⟩
 ·rw [scounts_app,scounts_app];omega
 ·rw [sdeeps_app,sdeeps_app];omega
 ·rw [salls_app,salls_app,salls_imp m1 _ a3.1,salls_imp m2 _ b3,salls_imp m1 _ a3.2];rfl
structure okHd (N : Nat) (h : Hd) : Prop where
 ps : h.ps.length ≤ N
 body : okL N h.body
theorem okHd.mono {N M : Nat} {h : Hd} (k : okHd N h) (l : N ≤ M) : okHd M h := ⟨by have := k.ps;omega,k.body.mono l⟩
structure okV2 (N : Nat) (v : List Hd) : Prop where
 len : v.length ≤ N
 all : ∀ h ∈ v,okHd N h
theorem okV2.mono {N M : Nat} {v : List Hd} (k : okV2 N v) (l : N ≤ M) : okV2 M v := ⟨by have := k.len;omega,fun h m => (k.all h m).mono l⟩
theorem okV2.nil {N : Nat} : okV2 N [] := ⟨by simp,fun _ h => by cases h⟩
structure okCp (N : Nat) (c : Cp) : Prop where
 vars : c.vars.length ≤ N
 vers : c.vers.length ≤ N
 all : ∀ v ∈ c.vers,okV2 N v
theorem okCp.mono {N M : Nat} {c : Cp} (k : okCp N c) (l : N ≤ M) : okCp M c := ⟨by have := k.vars;omega,by have := k.vers;omega,fun v m => (k.all v m).mono l⟩
structure okFt (N : Nat) (f : Ft) : Prop where
 flags : f.flags.length ≤ N
 links : f.links.length ≤ N
 comps : f.comps.length ≤ N
 pos : 0 < f.comps.length
 all : ∀ c ∈ f.comps,okCp N c
theorem okFt.mono {N M : Nat} {f : Ft} (k : okFt N f) (l : N ≤ M) : okFt M f := ⟨by have := k.flags;omega,by have := k.links;omega,by have := k.comps;omega,k.pos,fun c m => (k.all c m).mono l⟩
end Go.Proofs.YthhoebdlfjffkaaGreatDoor
namespace Go.Proofs.YthhoebdlfjffkaaGreatDoor
def okD (D : Nat) (e : Ex) : Prop := e.depth ≤ D ∧ Ex.all narrow e = true
theorem okD.mono {D D' : Nat} {e : Ex} (h : okD D e) (k : D ≤ D') : okD D' e := ⟨Nat.le_trans h.1 k,h.2⟩
end Go.Proofs.YthhoebdlfjffkaaGreatDoor
namespace Go.Proofs.YthhoebdlfjffkaaGreatDoor
open Go.RowKit Go.Par Go.Sx
def wfE (D : Nat) (e : Ex) : Prop := e.depth ≤ D ∧ Ex.all frmE e = true ∧ Ex.all namE e = true
theorem wfE.mono {D D' : Nat} {e : Ex} (h : wfE D e) (k : D ≤ D') : wfE D' e := ⟨Nat.le_trans h.1 k,h.2⟩
def e0 : Ex := .mk 4 [] 0 []
structure MkOk (M : Mk) : Prop where
 i0 : 0 < M.ints
 i3 : M.ints ≤ 3
 p2 : M.params ≤ 2
 f2 : M.flags ≤ 2
 a3 : M.ars.length ≤ 3
 a0 : 0 < M.ars.length
 ar2 : ∀ c h,arN M c h ≤ 2
 al : ∀ c,c < M.ars.length → 0 < arL M c ∧ arL M c ≤ 3
 own : M.own < M.ars.length
structure Wf (D lf : Nat) (l : List Sm) (lf' : Nat) : Prop where
 cnt : Sm.counts l + lf' ≤ lf
 dep : Sm.deeps l ≤ D
 frm : Sm.alls frmS l = true
 nam : Sm.alls namS l = true
 sma : Sm.alls smaS l = true
theorem Wf.all {D lf lf' : Nat} {l : List Sm} (h : Wf D lf l lf') : Sm.deeps l ≤ D ∧ Sm.alls frmS l = true ∧ Sm.alls namS l = true ∧ Sm.alls smaS l = true := ⟨h.dep,h.frm,h.nam,h.sma⟩
theorem MkOk.at {M : Mk} (h : MkOk M) (k : Nat) : MkOk (M.at k) := ⟨h.i0,h.i3,h.ar2 _ _,h.f2,h.a3,h.a0,h.ar2,h.al,h.own⟩
end Go.Proofs.YthhoebdlfjffkaaGreatDoor
namespace Go.Proofs.YthhoebdlfjffkaaGreatDoor
structure Sg where
 r : List Tk
 e : Nat
 o : Nat
def offT (n : Nat) : List Tk → Nat
 | [] => n
 | t :: _ => t.o
def Sg.tl (s : Sg) : Sg := ⟨s.r.tail,s.e,s.o⟩
def Sg.fail (n c : Nat) (s : Sg) : Sg := if s.e = 0 then ⟨s.r,c,offT n s.r⟩ else s
section
variable {α β : Type}
def up (n : Nat) (g : Pz α) (s : Sg) : Sg := if s.e = 0 then (match g s.r with | .ok _ r => ⟨r,s.e,s.o⟩ | .er r c => ⟨r,c,offT n r⟩) else s
def vl (g : Pz α) (s : Sg) (x : α) : Prop := s.e = 0 → ∀ a r,g s.r = .ok a r → x = a
def Cz (g : Pz α) : Prop := ∀ r r' c,g r = .er r' c → c ≠ 0
theorem Rs.bind_er {x : Rs α} {f : α → List Tk → Rs β} {r : List Tk} {c : Nat} (h : x.bind f = .er r c) : x = .er r c ∨ ∃ a q,x = .ok a q ∧ f a q = .er r c := by
 cases x with
 | ok a q => exact .inr ⟨a,q,rfl,h⟩
 | er q d => left;injection h with h1 h2;subst h1;subst h2;rfl
theorem Cz.pure (a : α) : Cz (gPure a) := fun r r' c e => by cases e
theorem Cz.bind {g : Pz α} {f : α → Pz β} (h : Cz g) (k : ∀ a,Cz (f a)) : Cz (gBind g f) := fun r r' c e => by
 rcases Rs.bind_er e with e | ⟨a,q,_,e⟩
 ·exact h _ _ _ e
 ·exact k _ _ _ _ e
theorem Cz.nd (w : Str) : Cz (gNd w) := fun r r' c e => by
 unfold gNd at e
 split at e
 ·cases e
 ·injection e with _ e;omega
theorem Cz.nn (w : Str) : Cz (gNn w) := fun r r' c e => by
 unfold gNn at e
 split at e
 ·cases e
 ·injection e with _ e;omega
theorem Cz.nm : Cz gNm := fun r r' c e => by
 unfold gNm at e
 split at e
 ·injection e with _ e;omega
 ·split at e
  ·cases e
  ·injection e with _ e;omega
theorem Cz.nu : Cz gNu := fun r r' c e => by
 unfold gNu at e
 split at e
 ·injection e with _ e;omega
 ·split at e
  ·split at e
   ·cases e
   ·injection e with _ e;omega
  ·injection e with _ e;omega
theorem Cz.alt {w : Str} {p q : Pz α} (h : Cz p) (k : Cz q) : Cz (gAlt w p q) := fun r r' c e => by
 unfold gAlt at e
 split at e
 ·exact h _ _ _ e
 ·exact k _ _ _ e
theorem Cz.manyF {w : Str} {p : Pz α} (h : Cz p) : ∀ f,Cz (gManyF w p f)
 | 0 => fun r r' c e => by unfold gManyF at e;injection e with _ e;omega
 | f + 1 => .alt (.bind h fun _ => .bind (Cz.manyF h f) fun _ => .pure _) (.pure _)
theorem Cz.many {w : Str} {p : Pz α} (h : Cz p) : Cz (gMany w p) := fun r r' c e => Cz.manyF h _ _ _ _ e
theorem up_er {n : Nat} {g : Pz α} {s : Sg} (h : s.e ≠ 0) : up n g s = s := by unfold up;rw [if_neg h]
theorem up_pure {n : Nat} {a : α} {s : Sg} : up n (gPure a) s = s := by
 unfold up gPure
 split <;> rfl
theorem vl_pure {a : α} {s : Sg} : vl (gPure a) s a := fun _ b r e => by injection e
theorem vl_er {g : Pz α} {s : Sg} {x : α} (h : s.e ≠ 0) : vl g s x := fun k => absurd k h
theorem up_ne {n : Nat} {g : Pz α} {s : Sg} {r : List Tk} {c : Nat} (hz : Cz g) (h : g s.r = .er r c) (h0 : s.e = 0) : (up n g s).e ≠ 0 := by
 unfold up
 rw [if_pos h0,h]
 exact hz _ _ _ h
theorem up_bind {n : Nat} {g : Pz α} {f : α → Pz β} {s : Sg} {x : α} (hz : Cz g) (hx : vl g s x) : up n (gBind g f) s = up n (f x) (up n g s) := by
 by_cases h0 : s.e = 0
 ·cases hg : g s.r with
  | er r c =>
   rw [up_er (up_ne hz hg h0)]
   unfold up gBind
   rw [if_pos h0,if_pos h0,hg]
   rfl
  | ok a r =>
   obtain rfl := hx h0 a r hg
   have e : up n g s = ⟨r,s.e,s.o⟩ := by unfold up;rw [if_pos h0,hg]
   rw [e]
   unfold up gBind
   rw [if_pos h0,if_pos h0,hg]
   rfl
 ·rw [up_er h0,up_er h0,up_er h0]
theorem vl_bind {n : Nat} {g : Pz α} {f : α → Pz β} {s : Sg} {x : α} {y : β} (hx : vl g s x) (hy : vl (f x) (up n g s) y) : vl (gBind g f) s y := by
 intro h0 b r e
 obtain ⟨a,q,h1,h2⟩ := Rs.bind_ok e
 obtain rfl := hx h0 a q h1
 have e : up n g s = ⟨q,s.e,s.o⟩ := by unfold up;rw [if_pos h0,h1]
 rw [e] at hy
 exact hy h0 b r h2
def ac (w : Str) (s : Sg) : Bool := decide (s.e = 0) && isT w s.r
theorem ac_e {w : Str} {s : Sg} (h : ac w s = true) : s.e = 0 ∧ isT w s.r = true := by
 unfold ac at h
 rw [Bool.and_eq_true,decide_eq_true_eq] at h
 exact h
theorem up_altT {n : Nat} {w : Str} {p q : Pz α} {s : Sg} (h : ac w s = true) : up n (gAlt w p q) s = up n p s.tl := by
 obtain ⟨h0,h1⟩ := ac_e h
 unfold up gAlt Sg.tl
 simp only [h0,h1,if_true]
theorem vl_altT {w : Str} {p q : Pz α} {s : Sg} {x : α} (h : ac w s = true) (hx : vl p s.tl x) : vl (gAlt w p q) s x := by
 obtain ⟨h0,h1⟩ := ac_e h
 intro _ a r e
 unfold gAlt at e
 rw [if_pos h1] at e
 exact hx h0 a r e
theorem up_altF {n : Nat} {w : Str} {p q : Pz α} {s : Sg} (h : ac w s = false) : up n (gAlt w p q) s = up n q s := by
 by_cases h0 : s.e = 0
 ·have h1 : isT w s.r = false := by
   unfold ac at h
   rw [decide_eq_true h0,Bool.true_and] at h
   exact h
  unfold up gAlt
  simp only [h0,h1,if_true,Bool.false_eq_true,if_false]
 ·rw [up_er h0,up_er h0]
theorem vl_altF {w : Str} {p q : Pz α} {s : Sg} {x : α} (h : ac w s = false) (hx : vl q s x) : vl (gAlt w p q) s x := by
 intro h0 a r e
 have h1 : isT w s.r = false := by
  unfold ac at h
  rw [decide_eq_true h0,Bool.true_and] at h
  exact h
 unfold gAlt at e
 rw [if_neg (by rw [h1];decide)] at e
 exact hx h0 a r e
theorem up_ndT {n : Nat} {w : Str} {s : Sg} (h : ac w s = true) : up n (gNd w) s = s.tl := by
 obtain ⟨h0,h1⟩ := ac_e h
 unfold up gNd Sg.tl
 simp only [h0,h1,if_true]
theorem up_ndF {n : Nat} {w : Str} {s : Sg} (h : ac w s = false) : up n (gNd w) s = s.fail n 8 := by
 unfold Sg.fail
 by_cases h0 : s.e = 0
 ·have h1 : isT w s.r = false := by
   unfold ac at h
   rw [decide_eq_true h0,Bool.true_and] at h
   exact h
  unfold up gNd
  simp only [h0,h1,if_true,Bool.false_eq_true,if_false]
 ·rw [up_er h0,if_neg h0]
theorem vl_unit {g : Pz Unit} {s : Sg} : vl g s () := fun _ _ _ _ => rfl
end
theorem wordL : ∀ w ∈ words,letB (w.headD 0) = true ∧ w.length ≤ 12 := by decide +kernel
theorem symL : ∀ w ∈ symbols,letB (w.headD 0) = false ∧ digB (w.headD 0) = false := by decide +kernel
theorem readK_hd {c : UInt8} {r w : Str} (e : (c :: r).take (readK (c :: r)).2 = w) : w.headD 0 = c := by
 have h := (readK_bnd (l := c :: r) (by simp)).1
 obtain ⟨k,hk⟩ : ∃ k,(readK (c :: r)).2 = k + 1 := ⟨(readK (c :: r)).2 - 1,by omega⟩
 rw [hk] at e
 subst e
 rfl
theorem dig_let {c : UInt8} (h : digB c = true) : letB c = false := by
 have key : ∀ i ∈ List.range 256,digB (UInt8.ofNat i) = true → letB (UInt8.ofNat i) = false := by decide +kernel
 have := key c.toNat (List.mem_range.2 c.toNat_lt)
 rw [UInt8.ofNat_toNat] at this
 exact this h
theorem readK_word {m w : Str} (h : m ≠ []) (hw : w ∈ words ∨ w ∈ symbols) (e : m.take (readK m).2 = w) : (readK m).1 = 2 ∨ (readK m).1 = 4 := by
 match m,h with
 | c :: r,_ =>
  have hh := readK_hd e
  cases h1 : letB c with
  | true =>
   have hw1 : w ∈ words := by
    rcases hw with hw | hw
    ·exact hw
    ·have := (symL w hw).1
     rw [hh,h1] at this
     cases this
   cases h4 : words.contains ((c :: r).take (pre insB (c :: r))) with
   | true => left;simp only [readK,List.headD_cons,h1,h4,if_true]
   | false =>
    by_cases h5 : pre insB (c :: r) ≤ 12
    ·simp only [readK,List.headD_cons,h1,h4,h5,if_true,Bool.false_eq_true,if_false] at e
     rw [e] at h4
     rw [List.contains_iff_mem.2 hw1] at h4
     cases h4
    ·simp only [readK,List.headD_cons,h1,h4,h5,if_true,Bool.false_eq_true,if_false] at e
     rw [List.take_length] at e
     have h6 := pre_le insB (c :: r)
     have h7 := (wordL w hw1).2
     rw [← e] at h7
     omega
  | false =>
   have hw1 : w ∈ symbols := by
    rcases hw with hw | hw
    ·have := (wordL w hw).1
     rw [hh,h1] at this
     cases this
    ·exact hw
   have h4 : digB c = false := by
    have := (symL w hw1).2
    rw [hh] at this
    exact this
   cases hx : symbols.find? (fun x => x.isPrefixOf (c :: r)) with
   | some x => right;simp only [readK,List.headD_cons,h1,h4,hx,Bool.false_eq_true,if_false]
   | none =>
    simp only [readK,List.headD_cons,h1,h4,hx,Bool.false_eq_true,if_false] at e
    rw [List.take_length] at e
    have := List.find?_eq_none.1 hx w hw1
    rw [← e] at this
    exact absurd (List.isPrefixOf_iff_prefix.2 (List.prefix_refl _)) this
theorem readK_num {m : Str} {c0 : UInt8} (h : m ≠ []) (hc : c0 = 50 ∨ c0 = 51) (e : m.take (readK m).2 = [c0]) : (readK m).1 = 3 := by
 match m,h with
 | c :: r,_ =>
  have hh : c0 = c := readK_hd e
  have h4 : digB c = true := by rw [← hh];rcases hc with rfl | rfl <;> decide
  have h1 := dig_let h4
  have h5 : pre digB (c :: r) = 1 ∨ c ≠ 48 := .inr (by rw [← hh];rcases hc with rfl | rfl <;> decide)
  simp only [readK,List.headD_cons,h1,h4,h5,if_true,Bool.false_eq_true,if_false]
def Tkg (t : Tk) : Prop := (t.t ∈ words ∨ t.t ∈ symbols → t.k = 2 ∨ t.k = 4) ∧ (t.t = [50] ∨ t.t = [51] → t.k = 3) ∧ t.t ≠ []
theorem tokFG : ∀ (f o : Nat) (m : Str),∀ t ∈ tokF f o m,Tkg t
 | 0,_,_,t,h => by cases h
 | f + 1,o,m,t,h => by
  by_cases h0 : m = []
  ·rw [h0,tokF_nil] at h;cases h
  ·rw [tokF_step h0] at h
   rcases List.mem_cons.1 h with rfl | h
   ·refine ⟨fun hw => readK_word h0 hw rfl,fun hc => ?_,fun e => ?_⟩
    ·rcases hc with hc | hc
     ·exact readK_num h0 (.inl rfl) hc
     ·exact readK_num h0 (.inr rfl) hc
    ·have hb := readK_bnd h0
     have h2 := congrArg List.length e
     rw [List.length_take] at h2
     simp only [List.length_nil] at h2
     omega
   ·exact tokFG f _ _ t h
theorem lexR_good (s : Str) : ∀ t ∈ lexR s,Tkg t := tokFG _ _ _
theorem isT_tok {w : Str} {t : Tk} {r : List Tk} (h : Tkg t) (hw : w ∈ words ∨ w ∈ symbols) : isT w (t :: r) = decide (t.t = w) := by
 show ((t.k == 2 || t.k == 4) && decide (t.t = w)) = _
 by_cases e : t.t = w
 ·have h1 := h.1 (by rw [e];exact hw)
  rw [decide_eq_true e]
  rcases h1 with h1 | h1 <;> rw [h1] <;> rfl
 ·rw [decide_eq_false e,Bool.and_false]
theorem numV_app (l : Str) (c : UInt8) : numV (l ++ [c]) = 10 * numV l + (c.toNat - 48) := by
 unfold numV
 rw [List.foldl_append]
 rfl
theorem num_ge : ∀ (r : Str) (v : Nat),v ≤ r.foldl (fun v c => 10 * v + (c.toNat - 48)) v
 | [],v => Nat.le_refl _
 | c :: r,v => by
  rw [List.foldl_cons]
  have := num_ge r (10 * v + (c.toNat - 48))
  omega
theorem numV_le (l r : Str) : numV l ≤ numV (l ++ r) := by
 unfold numV
 rw [List.foldl_append]
 exact num_ge r _
theorem numV_take (t : Str) (i : Nat) : numV (t.take i) ≤ numV t := by
 have h := numV_le (t.take i) (t.drop i)
 rw [List.take_append_drop] at h
 exact h
theorem numV_step {t : Str} {i : Nat} {c : UInt8} (h : t[i]? = some c) : numV (t.take (i + 1)) = 10 * numV (t.take i) + (c.toNat - 48) := by
 rw [List.take_succ,h]
 exact numV_app _ _
theorem numV_zero : numV [] = 0 := rfl
def toks (o : Nat) (m : Str) : List Tk := tokF (m.length + 1) o m
def skipN (m : Str) : Nat := m.length - (skipS false m).length
theorem skipN_le (m : Str) : skipN m ≤ m.length := Nat.sub_le _ _
theorem drop_skipN (m : Str) : m.drop (skipN m) = skipS false m := skipS_drop false m
theorem toks_nil (o : Nat) : toks o [] = [] := tokF_nil _ _
theorem toks_cons {o : Nat} {m : Str} (h : m ≠ []) : toks o m = ⟨(readK m).1,m.take (readK m).2,o⟩ :: toks (o + (readK m).2 + skipN (m.drop (readK m).2)) (m.drop ((readK m).2 + skipN (m.drop (readK m).2))) := by
 have hr := readK_bnd h
 have hs := skipS_len false (m.drop (readK m).2)
 rw [List.length_drop] at hs
 unfold toks
 rw [tokF_step h,← List.drop_drop,drop_skipN]
 have e : o + (readK m).2 + skipN (m.drop (readK m).2) = o + (m.length - (skipS false (m.drop (readK m).2)).length) := by
  unfold skipN
  rw [List.length_drop]
  omega
 rw [e,tokF_more _ _ _ _ _ (Nat.lt_succ_self _)]
 omega
theorem lexR_toks (s : Str) : lexR s = toks (skipN s) (s.drop (skipN s)) := by
 unfold toks lexR
 rw [drop_skipN]
 have hs := skipS_len false s
 exact tokF_more _ _ _ _ (by omega) (by omega)
theorem tokF_len : ∀ (f o : Nat) (m : Str),(tokF f o m).length ≤ m.length
 | 0,_,_ => by rw [tokF];simp
 | f + 1,o,m => by
  by_cases h0 : m = []
  ·subst h0;rw [tokF_nil];simp
  ·have hr := readK_bnd h0
   have hs := skipS_len false (m.drop (readK m).2)
   rw [List.length_drop] at hs
   rw [tokF_step h0,List.length_cons]
   have := tokF_len f (o + (m.length - (skipS false (m.drop (readK m).2)).length)) (skipS false (m.drop (readK m).2))
   omega
theorem lexR_len (s : Str) : (lexR s).length ≤ s.length := Nat.le_trans (tokF_len _ _ _) (skipS_len false s)
def gX (lv : Nat) : Pz Ex := pX lv
def gL (lv : Nat) (a : Ex) : Pz Ex := pL lv a
def Sg.mu (s : Sg) : Nat := if s.e = 0 then s.r.length + 1 else 0
theorem Sg.mu_er {s : Sg} (h : s.e ≠ 0) : s.mu = 0 := by unfold Sg.mu;rw [if_neg h]
theorem mu_up {α : Type} {n : Nat} {g : Pz α} {s : Sg} (h : Shr g) (hz : Cz g) : (up n g s).mu ≤ s.mu := by
 by_cases h0 : s.e = 0
 ·cases hg : g s.r with
  | er r c => rw [Sg.mu_er (up_ne hz hg h0)];exact Nat.zero_le _
  | ok a r =>
   have := h _ _ _ hg
   unfold up
   rw [if_pos h0,hg]
   unfold Sg.mu
   simp only [h0,if_true]
   omega
 ·rw [up_er h0]
  exact Nat.le_refl _
theorem mu_tl {w : Str} {s : Sg} (h : ac w s = true) : s.tl.mu < s.mu := by
 obtain ⟨h0,h1⟩ := ac_e h
 have := isT_ne h1
 unfold Sg.mu Sg.tl
 simp only [h0,if_true]
 omega
theorem Cz.ex (lv : Nat) : Cz (gX lv) := by
 have prim : ∀ rec : List Tk → Rs Ex,(∀ r r' c,rec r = .er r' c → c ≠ 0) → ∀ r r' c,primE rec r = .er r' c → c ≠ 0 := by
  intro rec hr r r' c e
  have nd : ∀ {α : Type} (w : Str) (r : List Tk) (f : List Tk → Rs α),(∀ r r' c,f r = .er r' c → c ≠ 0) → ∀ r' c,needT w r f = .er r' c → c ≠ 0 := by
   intro α w r f hf r' c e
   unfold needT at e
   split at e
   ·exact hf _ _ _ e
   ·injection e with _ e;omega
  have nm : ∀ {α : Type} (r : List Tk) (f : Str → List Tk → Rs α),(∀ s r r' c,f s r = .er r' c → c ≠ 0) → ∀ r' c,nameT r f = .er r' c → c ≠ 0 := by
   intro α r f hf r' c e
   unfold nameT at e
   split at e
   ·injection e with _ e;omega
   ·split at e
    ·exact hf _ _ _ _ e
    ·injection e with _ e;omega
  have rb : ∀ (r : List Tk) (f : Ex → List Tk → Rs Ex),(∀ x r r' c,f x r = .er r' c → c ≠ 0) → ∀ r' c,(rec r).bind f = .er r' c → c ≠ 0 := by
   intro r f hf r' c e
   rcases Rs.bind_er e with e | ⟨a,q,_,e⟩
   ·exact hr _ _ _ e
   ·exact hf _ _ _ _ e
  unfold primE at e
  split at e
  ·injection e with _ e;omega
  ·split at e
   ·split at e
    ·cases e
    ·injection e with _ e;omega
   split at e
   ·cases e
   split at e
   ·cases e
   split at e
   ·cases e
   split at e
   ·exact nm _ _ (fun s r r' c e => by cases e) _ _ e
   split at e
   ·exact rb _ _ (fun x r r' c e => nd _ _ _ (fun r r' c e => by cases e) _ _ e) _ _ e
   split at e
   ·exact nm _ _ (fun s r r' c e => nd _ _ _ (fun r r' c e => rb _ _ (fun x r r' c e => nd _ _ _ (fun r r' c e => by cases e) _ _ e) _ _ e) _ _ e) _ _ e
   split at e
   ·split at e
    ·exact rb _ _ (fun x r r' c e => nd _ _ _ (fun r r' c e => by cases e) _ _ e) _ _ e
    ·cases e
   ·injection e with _ e;omega
 have key : ∀ f,(∀ lv r r' c,pE f (.ex lv) r = .er r' c → c ≠ 0) ∧ (∀ lv a r r' c,pE f (.lp lv a) r = .er r' c → c ≠ 0) := by
  intro f
  induction f with
  | zero => exact ⟨fun lv r r' c e => by unfold pE at e;injection e with _ e;omega,fun lv a r r' c e => by unfold pE at e;injection e with _ e;omega⟩
  | succ f ih =>
   obtain ⟨ih1,ih2⟩ := ih
   refine ⟨fun lv r r' c e => ?_,fun lv a r r' c e => ?_⟩
   ·rw [pE_ex] at e
    split at e
    ·rcases Rs.bind_er e with e | ⟨a,q,_,e⟩
     ·exact ih1 _ _ _ _ e
     ·exact ih2 _ _ _ _ _ e
    split at e
    ·rcases Rs.bind_er e with e | ⟨a,q,_,e⟩
     ·exact ih1 _ _ _ _ e
     ·cases e
    split at e
    ·rcases Rs.bind_er e with e | ⟨a,q,_,e⟩
     ·exact ih1 _ _ _ _ e
     ·cases e
    ·exact prim _ (fun r r' c e => ih1 _ _ _ _ e) _ _ _ e
   ·rw [pE_lp] at e
    split at e
    ·cases e
    ·rcases Rs.bind_er e with e | ⟨b,q,_,e⟩
     ·exact ih1 _ _ _ _ e
     ·split at e
      ·cases e
      ·exact ih2 _ _ _ _ _ e
 exact fun r r' c e => (key _).1 _ _ _ _ e
theorem Shs.gx (lv : Nat) : Shs (gX lv) := fun r a r' e => (pE_len _).1 _ _ _ _ e
theorem gX_low {lv : Nat} (h : lv < 5) : gX lv = gBind (gX (lv + 1)) (gL lv) := funext fun _ => pX_low h
theorem gX_un : gX 5 = gAlt [45] (gBind (gX 5) fun x => gPure (opE 9 [x])) (gAlt [110,111,116] (gBind (gX 5) fun x => gPure (opE 10 [x])) (primE (gX 0))) := funext fun _ => pX_un
def opS (lv : Nat) (s : Sg) : Option UInt8 := if s.e = 0 then opAt lv s.r else none
theorem up_lpN {n lv : Nat} {a : Ex} {s : Sg} (h : opS lv s = none) : up n (gL lv a) s = s ∧ vl (gL lv a) s a := by
 by_cases h0 : s.e = 0
 ·unfold opS at h
  rw [if_pos h0] at h
  refine ⟨?_,fun _ b r e => ?_⟩
  ·unfold up gL
   rw [if_pos h0,pL_none h]
  ·unfold gL at e
   rw [pL_none h] at e
   injection e
 ·exact ⟨up_er h0,vl_er h0⟩
def gK (lv : Nat) (op : UInt8) (a : Ex) (b : Ex) : Pz Ex := if lv = 2 then gPure (opE op [a,b]) else gL lv (opE op [a,b])
theorem lpS {lv : Nat} {a : Ex} {s : Sg} {op : UInt8} (hl : lv ≤ 4) (h : opS lv s = some op) : s.e = 0 ∧ gL lv a s.r = gBind (gX (lv + 1)) (gK lv op a) s.tl.r := by
 unfold opS at h
 by_cases h0 : s.e = 0
 ·rw [if_pos h0] at h
  refine ⟨h0,?_⟩
  show pL lv a s.r = _
  rw [pL_some hl h]
  refine Rs.bind_congr rfl fun b q _ => ?_
  unfold gK
  split <;> rfl
 ·rw [if_neg h0] at h
  cases h
theorem up_lpS {n lv : Nat} {a : Ex} {s : Sg} {op : UInt8} (hl : lv ≤ 4) (h : opS lv s = some op) : up n (gL lv a) s = up n (gBind (gX (lv + 1)) (gK lv op a)) s.tl := by
 obtain ⟨h0,h1⟩ := lpS (a := a) hl h
 unfold up
 rw [if_pos h0,h1,if_pos (show s.tl.e = 0 from h0)]
 rfl
theorem vl_lpS {lv : Nat} {a x : Ex} {s : Sg} {op : UInt8} (hl : lv ≤ 4) (h : opS lv s = some op) (hx : vl (gBind (gX (lv + 1)) (gK lv op a)) s.tl x) : vl (gL lv a) s x := by
 obtain ⟨h0,h1⟩ := lpS (a := a) hl h
 intro _ b r e
 rw [h1] at e
 exact hx h0 b r e
def gKey (op : UInt8) (nm : Str) : Pz Ex := gBind (gX 0) fun x => gBind (gNd [93]) fun _ => gPure (.mk op nm 0 [x])
def gNum : Pz Ex := gBind gNu fun v => gPure (.mk 1 [] v [])
def gNam : Pz Ex := gBind gNm fun s => gAlt [91] (gKey 6 s) (gPure (.mk 5 s 0 []))
def isNum : List Tk → Bool
 | [] => false
 | t :: _ => decide (t.k = 3)
def gLast : Pz Ex := fun r => if isNum r then gNum r else gNam r
def gPrim : Pz Ex :=
 gAlt [116,114,117,101] (gPure (opE 2 []))<|gAlt [102,97,108,115,101] (gPure (opE 3 []))<|gAlt [110,111,119] (gPure (opE 4 []))<|gAlt [115,105,122,101] (gBind gNm fun s => gPure (.mk 8 s 0 []))<|gAlt [104,97,115] (gBind gNm fun s => gBind (gNd [91]) fun _ => gKey 7 s)<|gAlt [40] (gBind (gX 0) fun x => gBind (gNd [41]) fun _ => gPure x) gLast
theorem nameT_eq {α : Type} (r : List Tk) (f : Str → Pz α) : (nameT r fun s q => f s q) = gBind gNm f r := by
 unfold nameT gBind gNm
 cases r with
 | nil => rfl
 | cons t q =>
  simp only
  split <;> rfl
theorem needT_eq {α : Type} (w : Str) (r : List Tk) (f : Pz α) : (needT w r fun q => f q) = gBind (gNd w) (fun _ => f) r := by
 unfold needT gBind gNd
 split <;> rfl
theorem isT_k {w : Str} {t : Tk} {q : List Tk} (h : isT w (t :: q) = true) : (t.k = 2 ∨ t.k = 4) ∧ t.t = w := by
 unfold isT at h
 rw [Bool.and_eq_true,decide_eq_true_eq,Bool.or_eq_true,beq_iff_eq,beq_iff_eq] at h
 exact h
theorem isT_k3 {w : Str} {t : Tk} {q : List Tk} (h : t.k = 3) : isT w (t :: q) = false := by
 cases e : isT w (t :: q) with
 | false => rfl
 | true =>
  have := (isT_k e).1
  rw [h] at this
  revert this
  decide
theorem prim_eq : primE (gX 0) = gPrim := funext fun r => by
 cases r with
 | nil => rfl
 | cons t q =>
  by_cases h3 : t.k = 3
  ·have e : gPrim (t :: q) = gNum (t :: q) := by
    unfold gPrim gAlt gLast isNum
    simp only [isT_k3 h3,Bool.false_eq_true,if_false,h3,decide_true,if_true]
   rw [e]
   unfold primE gNum gBind gNu
   simp only [h3,if_true]
   split <;> rfl
  ·have hl : gLast (t :: q) = gNam (t :: q) := by
    unfold gLast isNum
    simp only [h3,decide_false,Bool.false_eq_true,if_false]
   unfold primE
   simp only [h3,if_false]
   unfold gPrim gAlt
   refine ifC rfl (ifC rfl (ifC rfl (ifC ?_ ?_)))
   ·exact nameT_eq q fun s => gPure _
   by_cases hp : isT [40] (t :: q) = true
   ·have hn : isT [104,97,115] (t :: q) = false := by
     cases e : isT [104,97,115] (t :: q) with
     | false => rfl
     | true =>
      have h1 := (isT_k hp).2
      have h2 := (isT_k e).2
      rw [h1] at h2
      revert h2
      decide
    simp only [hp,hn,if_true,Bool.false_eq_true,if_false]
    refine Rs.bind_congr rfl fun x r2 _ => ?_
    exact needT_eq [41] r2 (gPure x)
   ·simp only [hp,Bool.false_eq_true,if_false]
    refine ifC ?_ ?_
    ·rw [List.tail_cons,← nameT_eq]
     unfold nameT
     cases q with
     | nil => rfl
     | cons t2 q2 =>
      simp only
      refine ifC ?_ rfl
      rw [← needT_eq]
      unfold needT
      refine ifC ?_ rfl
      refine Rs.bind_congr rfl fun x r4 _ => ?_
      exact needT_eq [93] r4 (gPure _)
    ·rw [hl]
     unfold gNam gBind gNm
     simp only
     by_cases h1 : t.k = 1
     ·simp only [h1,if_true]
      show _ = gAlt [91] (gKey 6 t.t) (gPure (.mk 5 t.t 0 [])) q
      unfold gAlt
      refine ifC ?_ rfl
      refine Rs.bind_congr rfl fun x r4 _ => ?_
      exact needT_eq [93] r4 (gPure _)
     ·simp only [h1,if_false]
      rfl
section
variable {α β : Type}
theorem up_map {n : Nat} {g : Pz α} {f : α → β} {s : Sg} : up n (gBind g fun a => gPure (f a)) s = up n g s := by
 unfold up gBind gPure
 by_cases h0 : s.e = 0
 ·simp only [h0,if_true]
  cases g s.r <;> rfl
 ·simp only [h0,if_false]
theorem vl_map {g : Pz α} {f : α → β} {s : Sg} {x : α} (h : vl g s x) : vl (gBind g fun a => gPure (f a)) s (f x) := by
 intro h0 b r e
 obtain ⟨a,q,h1,h2⟩ := Rs.bind_ok e
 obtain rfl := h h0 a q h1
 injection h2
theorem ac_ne {w w' : Str} {s : Sg} (h : ac w s = true) (hne : w ≠ w') : ac w' s = false := by
 cases e : ac w' s with
 | false => rfl
 | true =>
  have h1 := (ac_e h).2
  have h2 := (ac_e e).2
  cases hr : s.r with
  | nil => rw [hr] at h1;cases h1
  | cons t q =>
   rw [hr] at h1 h2
   exact absurd ((isT_k h1).2.symm.trans (isT_k h2).2) hne
theorem many_T {n : Nat} {w : Str} {p : Pz α} {s : Sg} {x : α} (hp : Shr p) (hz : Cz p) (h : ac w s = true) (hx : vl p s.tl x) : up n (gMany w p) s = up n (gMany w p) (up n p s.tl) := by
 conv => lhs;rw [gMany_eq hp]
 rw [up_altT h,up_bind hz hx,up_map]
theorem many_Tv {n : Nat} {w : Str} {p : Pz α} {s : Sg} {x : α} {l : List α} (hp : Shr p) (h : ac w s = true) (hx : vl p s.tl x) (hl : vl (gMany w p) (up n p s.tl) l) : vl (gMany w p) s (x :: l) := by
 rw [gMany_eq hp]
 exact vl_altT h (vl_bind hx (vl_map hl))
theorem many_F {n : Nat} {w : Str} {p : Pz α} {s : Sg} (hp : Shr p) (h : ac w s = false) : up n (gMany w p) s = s := by
 rw [gMany_eq hp,up_altF h,up_pure]
theorem many_Fv {w : Str} {p : Pz α} {s : Sg} (hp : Shr p) (h : ac w s = false) : vl (gMany w p) s [] := by
 rw [gMany_eq hp]
 exact vl_altF h vl_pure
end
theorem Cz.st {b : Pz (List Sm)} (h : Cz b) : Cz (gSt b) := by
 have hx : Cz gEx := Cz.ex 0
 have blk : Cz (gBlk b) := .bind (.nd _) fun _ => .bind h fun _ => .bind (.nd _) fun _ => .pure _
 have els : Cz (gEls b) := .alt blk (.pure _)
 have oth : Cz (gOth b) := .alt blk (.bind (.nd _) fun _ => .pure _)
 have lst : Cz (gList gEx) := .bind (.nd _) fun _ => .alt (.pure _) (.bind hx fun _ => .bind (.many hx) fun _ => .bind (.nd _) fun _ => .pure _)
 exact .alt (.bind hx fun _ => .bind blk fun _ => .bind els fun _ => .pure _)<|.alt (.bind hx fun _ => .bind blk fun _ => .pure _)<|.alt (.bind hx fun _ => .bind (.nd _) fun _ => .bind hx fun _ => .bind oth fun _ => .pure _)<|.alt (.bind .nm fun _ => .bind (.nd _) fun _ => .bind hx fun _ => .bind oth fun _ => .pure _)<|.alt (.bind .nm fun _ => .bind (.nd _) fun _ => .bind .nm fun _ => .bind lst fun _ => .bind (.nd _) fun _ => .pure _)<|.alt (.bind hx fun _ => .bind (.nd _) fun _ => .bind .nm fun _ => .bind lst fun _ => .bind (.nd _) fun _ => .pure _)<|.alt (.bind (.nd _) fun _ => .pure _)<|.alt (.bind .nm fun _ => .bind (.nd _) fun _ => .bind hx fun _ => .bind (.nd _) fun _ => .bind (.nd _) fun _ => .pure _)<|.bind .nm fun _ => .alt (.bind hx fun _ => .bind (.nd _) fun _ => .bind (.nd _) fun _ => .bind hx fun _ => .bind (.nd _) fun _ => .pure _)
  (.bind (.nd _) fun _ => .bind hx fun _ => .bind (.nd _) fun _ => .pure _)
theorem Cz.bF : ∀ f,Cz (gBF f)
 | 0 => fun r r' c e => by unfold gBF at e;injection e with _ e;omega
 | f + 1 => fun r r' c e => by
  unfold gBF at e
  split at e
  ·cases e
  ·rcases Rs.bind_er e with e | ⟨a,q,_,e⟩
   ·exact Cz.st (Cz.bF f) _ _ _ e
   ·rcases Rs.bind_er e with e | ⟨l,q2,_,e⟩
    ·exact Cz.bF f _ _ _ e
    ·cases e
theorem Cz.b : Cz gB := fun r r' c e => Cz.bF _ _ _ _ e
section
variable {α : Type}
theorem Cz.blk : Cz (gBlk gB) := .bind (.nd _) fun _ => .bind Cz.b fun _ => .bind (.nd _) fun _ => .pure _
theorem Cz.list {p : Pz α} (h : Cz p) : Cz (gList p) := .bind (.nd _) fun _ => .alt (.pure _) (.bind h fun _ => .bind (.many h) fun _ => .bind (.nd _) fun _ => .pure _)
theorem Cz.tr : Cz gTr := .alt (.pure _) (.bind (.nd _) fun _ => .pure _)
theorem Cz.fg : Cz gFg := .bind .nm fun _ => .bind (.nd _) fun _ => .bind .tr fun _ => .bind (.nd _) fun _ => .pure _
theorem Cz.lk : Cz gLk := .bind .nm fun _ => .bind (.nd _) fun _ => .bind .nm fun _ => .bind (.nd _) fun _ => .bind .nu fun _ => .bind (.nd _) fun _ => .pure _
theorem Cz.int : Cz gInt := .alt (.bind .nu fun _ => .pure _) .nu
theorem Cz.vr : Cz gVr := .bind .nm fun _ => .bind (.nd _) fun _ => .alt (.bind (.nd _) fun _ => .bind .int fun _ => .bind (.nd _) fun _ => .pure _)<|.alt (.bind (.nd _) fun _ => .bind .tr fun _ => .bind (.nd _) fun _ => .pure _)<|.bind (.nd _) fun _ => .bind (.nd _) fun _ => .pure _
theorem Cz.hd : Cz gHd := .bind .nm fun _ => .bind (.list .nm) fun _ => .bind .blk fun _ => .pure _
theorem Cz.vs : Cz gVs := .many .hd
theorem Cz.vn (w : Str) : Cz (gVn w) := .bind (.nn _) fun _ => .bind (.nd _) fun _ => .bind .vs fun _ => .bind (.nd _) fun _ => .pure _
theorem Cz.vm : Cz gVm := .alt (.bind (.vn _) fun _ => .alt (.bind (.vn _) fun _ => .pure _) (.pure _)) (.pure _)
theorem Cz.cp : Cz gCp := .bind .nm fun _ => .bind (.nd _) fun _ => .bind (.many .vr) fun _ => .bind .vs fun _ => .bind .vm fun _ => .bind (.nd _) fun _ => .pure _
end
theorem Shr.int : Shr gInt := .alt (.bind Shs.nu.le fun _ => .pure _) Shs.nu.le
def Sg.cl (n : Nat) (s : Sg) : Sg := if s.r = [] then s else s.fail n 8
def sg0 (t : Str) : Sg := if 20000 < t.length then ⟨[],3,0⟩ else ⟨lexR t,0,0⟩
def sgZ {α : Type} (g : Pz α) (t : Str) : Sg := (up t.length g (sg0 t)).cl t.length
theorem sgZ_ok {α : Type} {g : Pz α} {t : Str} {x y : α} (hx : vl g (sg0 t) x) (hy : vl g (sg0 t) y) (hz : Cz g) (h : (sgZ g t).e = 0) : x = y := by
 have h0 : (sg0 t).e = 0 := by
  by_cases k : (sg0 t).e = 0
  ·exact k
  ·unfold sgZ at h
   rw [up_er k] at h
   unfold Sg.cl at h
   split at h
   ·exact h
   ·unfold Sg.fail at h
    rw [if_neg k] at h
    exact h
 cases hg : g (sg0 t).r with
 | ok a r => rw [hx h0 a r hg,hy h0 a r hg]
 | er r c =>
  have k := up_ne (n := t.length) hz hg h0
  unfold sgZ Sg.cl at h
  split at h
  ·exact absurd h k
  ·unfold Sg.fail at h
   rw [if_neg k] at h
   exact absurd h k
def Suf {α : Type} (g : Pz α) : Prop := ∀ r,(∀ a r',g r = .ok a r' → r' <:+ r) ∧ (∀ r' c,g r = .er r' c → r' <:+ r)
section
variable {α β : Type}
theorem Suf.bind {g : Pz α} {f : α → Pz β} (h : Suf g) (k : ∀ a,Suf (f a)) : Suf (gBind g f) := fun r => by
 refine ⟨fun b r' e => ?_,fun r' c e => ?_⟩
 ·obtain ⟨a,q,h1,h2⟩ := Rs.bind_ok e
  exact ((k a q).1 _ _ h2).trans ((h r).1 _ _ h1)
 ·rcases Rs.bind_er e with e | ⟨a,q,h1,h2⟩
  ·exact (h r).2 _ _ e
  ·exact ((k a q).2 _ _ h2).trans ((h r).1 _ _ h1)
theorem Suf.pure (a : α) : Suf (gPure a) := fun r => ⟨fun b r' e => by injection e with _ e;rw [e];exact List.suffix_refl _,fun r' c e => by cases e⟩
theorem Suf.alt {w : Str} {p q : Pz α} (h : Suf p) (k : Suf q) : Suf (gAlt w p q) := fun r => by
 refine ⟨fun b r' e => ?_,fun r' c e => ?_⟩
 ·unfold gAlt at e
  split at e
  ·exact ((h _).1 _ _ e).trans (List.tail_suffix r)
  ·exact (k _).1 _ _ e
 ·unfold gAlt at e
  split at e
  ·exact ((h _).2 _ _ e).trans (List.tail_suffix r)
  ·exact (k _).2 _ _ e
theorem Suf.nd (w : Str) : Suf (gNd w) := fun r => by
 refine ⟨fun b r' e => ?_,fun r' c e => ?_⟩
 ·unfold gNd at e
  split at e
  ·injection e with _ e;subst e;exact List.tail_suffix r
  ·cases e
 ·unfold gNd at e
  split at e
  ·cases e
  ·injection e with e _;subst e;exact List.suffix_refl _
theorem Suf.nn (w : Str) : Suf (gNn w) := fun r => by
 refine ⟨fun b r' e => ?_,fun r' c e => ?_⟩
 ·unfold gNn at e
  split at e
  ·injection e with _ e;subst e;exact List.tail_suffix r
  ·cases e
 ·unfold gNn at e
  split at e
  ·cases e
  ·injection e with e _;subst e;exact List.suffix_refl _
theorem Suf.nm : Suf gNm := fun r => by
 refine ⟨fun b r' e => ?_,fun r' c e => ?_⟩
 ·unfold gNm at e
  split at e
  ·cases e
  ·split at e
   ·injection e with _ e;subst e;exact List.suffix_cons _ _
   ·cases e
 ·unfold gNm at e
  split at e
  ·injection e with e _;subst e;exact List.suffix_refl _
  ·split at e
   ·cases e
   ·injection e with e _;subst e;exact List.suffix_refl _
theorem Suf.nu : Suf gNu := fun r => by
 refine ⟨fun b r' e => ?_,fun r' c e => ?_⟩
 ·unfold gNu at e
  split at e
  ·cases e
  ·split at e
   ·split at e
    ·injection e with _ e;subst e;exact List.suffix_cons _ _
    ·cases e
   ·cases e
 ·unfold gNu at e
  split at e
  ·injection e with e _;subst e;exact List.suffix_refl _
  ·split at e
   ·split at e
    ·cases e
    ·injection e with e _;subst e;exact List.suffix_refl _
   ·injection e with e _;subst e;exact List.suffix_refl _
theorem Suf.manyF {w : Str} {p : Pz α} (h : Suf p) : ∀ f,Suf (gManyF w p f)
 | 0 => fun r => ⟨fun b r' e => (by unfold gManyF at e;cases e),fun r' c e => (by unfold gManyF at e;injection e with e _;subst e;exact List.suffix_refl _)⟩
 | f + 1 => .alt (.bind h fun _ => .bind (Suf.manyF h f) fun _ => .pure _) (.pure _)
theorem Suf.many {w : Str} {p : Pz α} (h : Suf p) : Suf (gMany w p) := fun r => Suf.manyF h _ r
theorem Suf.up {g : Pz α} {n : Nat} {s : Sg} {ts : List Tk} (h : Suf g) (hs : s.r <:+ ts) : (up n g s).r <:+ ts := by
 unfold Go.Proofs.YthhoebdlfjffkaaGreatDoor.up
 split
 ·cases e : g s.r with
  | ok a r => exact ((h _).1 _ _ e).trans hs
  | er r c => exact ((h _).2 _ _ e).trans hs
 ·exact hs
theorem Suf.tl {s : Sg} {ts : List Tk} (hs : s.r <:+ ts) : s.tl.r <:+ ts := (List.tail_suffix s.r).trans hs
end
theorem Suf.ex (lv : Nat) : Suf (gX lv) := by
 have st : ∀ (r : List Tk),r.tail <:+ r := List.tail_suffix
 have prim : ∀ rec : List Tk → Rs Ex,Suf rec → Suf (primE rec) := by
  intro rec hr r
  refine ⟨fun a r' e => ?_,fun r' c e => ?_⟩
  ·unfold primE at e
   split at e
   ·cases e
   ·rename_i t q
    have fin : ∀ {b : Ex} {l : List Tk},(Rs.ok b l : Rs Ex) = .ok a r' → l <:+ q → r' <:+ (t :: q) := by
     intro b l e hl;injection e with _ e;subst e;exact hl.trans (List.suffix_cons _ _)
    split at e
    ·split at e
     ·exact fin e (List.suffix_refl _)
     ·cases e
    split at e
    ·exact fin e (List.suffix_refl _)
    split at e
    ·exact fin e (List.suffix_refl _)
    split at e
    ·exact fin e (List.suffix_refl _)
    split at e
    ·obtain ⟨t2,r2,rfl,_,e⟩ := nameT_ok e
     exact fin e (List.suffix_cons _ _)
    split at e
    ·obtain ⟨x,r2,h1,e⟩ := Rs.bind_ok e
     obtain ⟨_,e⟩ := needT_ok e
     exact fin e ((st _).trans ((hr _).1 _ _ h1))
    split at e
    ·obtain ⟨t2,r2,rfl,_,e⟩ := nameT_ok e
     obtain ⟨_,e⟩ := needT_ok e
     obtain ⟨x,r4,h1,e⟩ := Rs.bind_ok e
     obtain ⟨_,e⟩ := needT_ok e
     exact fin e ((st _).trans (((hr _).1 _ _ h1).trans ((st _).trans (List.suffix_cons _ _))))
    split at e
    ·split at e
     ·obtain ⟨x,r4,h1,e⟩ := Rs.bind_ok e
      obtain ⟨_,e⟩ := needT_ok e
      exact fin e ((st _).trans (((hr _).1 _ _ h1).trans (st _)))
     ·exact fin e (List.suffix_refl _)
    ·cases e
  ·unfold primE at e
   split at e
   ·injection e with e _;subst e;exact List.suffix_refl _
   ·rename_i t q
    have q0 : q <:+ (t :: q) := List.suffix_cons _ _
    have nd : ∀ {w : Str} {z : List Tk} {f : List Tk → Rs Ex},needT w z f = .er r' c → z <:+ (t :: q) → (∀ y,y <:+ (t :: q) → f y = .er r' c → r' <:+ (t :: q)) → r' <:+ (t :: q) := by
     intro w z f e hz hf
     unfold needT at e
     split at e
     ·exact hf _ ((st _).trans hz) e
     ·injection e with e _;subst e;exact hz
    have nm : ∀ {z : List Tk} {f : Str → List Tk → Rs Ex},nameT z f = .er r' c → z <:+ (t :: q) → (∀ x y,y <:+ (t :: q) → f x y = .er r' c → r' <:+ (t :: q)) → r' <:+ (t :: q) := by
     intro z f e hz hf
     unfold nameT at e
     split at e
     ·injection e with e _;subst e;exact hz
     ·split at e
      ·exact hf _ _ ((List.suffix_cons _ _).trans hz) e
      ·injection e with e _;subst e;exact hz
    have rb : ∀ {z : List Tk} {f : Ex → List Tk → Rs Ex},(rec z).bind f = .er r' c → z <:+ (t :: q) → (∀ x y,y <:+ (t :: q) → f x y = .er r' c → r' <:+ (t :: q)) → r' <:+ (t :: q) := by
     intro z f e hz hf
     rcases Rs.bind_er e with e | ⟨a,y,h1,e⟩
     ·exact ((hr _).2 _ _ e).trans hz
     ·exact hf _ _ (((hr _).1 _ _ h1).trans hz) e
    split at e
    ·split at e
     ·cases e
     ·injection e with e _;subst e;exact List.suffix_refl _
    split at e
    ·cases e
    split at e
    ·cases e
    split at e
    ·cases e
    split at e
    ·exact nm e q0 fun _ _ _ e => by cases e
    split at e
    ·exact rb e q0 fun _ _ hy e => nd e hy fun _ _ e => by cases e
    split at e
    ·exact nm e q0 fun _ _ hy e => nd e hy fun _ hy e => rb e hy fun _ _ hy e => nd e hy fun _ _ e => by cases e
    split at e
    ·split at e
     ·exact rb e ((st _).trans q0) fun _ _ hy e => nd e hy fun _ _ e => by cases e
     ·cases e
    ·injection e with e _;subst e;exact List.suffix_refl _
 have key : ∀ f,(∀ lv,Suf (pE f (.ex lv))) ∧ (∀ lv a,Suf (pE f (.lp lv a))) := by
  intro f
  induction f with
  | zero => exact ⟨fun lv r => ⟨fun a r' e => (by unfold pE at e;cases e),fun r' c e => (by unfold pE at e;injection e with e _;subst e;exact List.suffix_refl _)⟩,fun lv a r => ⟨fun a r' e => (by unfold pE at e;cases e),fun r' c e => (by unfold pE at e;injection e with e _;subst e;exact List.suffix_refl _)⟩⟩
  | succ f ih =>
   obtain ⟨ih1,ih2⟩ := ih
   have un : ∀ op,Suf (fun r => (pE f (.ex 5) r.tail).bind fun x r2 => .ok (opE op [x]) r2) := by
    intro op r
    refine ⟨fun a r' e => ?_,fun r' c e => ?_⟩
    ·obtain ⟨x,q,h1,e⟩ := Rs.bind_ok e
     injection e with _ e
     subst e
     exact ((ih1 _ _).1 _ _ h1).trans (st _)
    ·rcases Rs.bind_er e with e | ⟨x,q,_,e⟩
     ·exact ((ih1 _ _).2 _ _ e).trans (st _)
     ·cases e
   refine ⟨fun lv r => ?_,fun lv a r => ?_⟩
   ·rw [pE_ex]
    split
    ·exact Suf.bind (ih1 _) (fun a => ih2 lv a) r
    split
    ·exact un 9 r
    split
    ·exact un 10 r
    ·exact prim _ (ih1 0) r
   ·rw [pE_lp]
    split
    ·exact Suf.pure a r
    ·rename_i op _
     have : Suf (fun q => (pE f (.ex (lv + 1)) q).bind fun b r2 => if lv = 2 then .ok (opE op [a,b]) r2 else pE f (.lp lv (opE op [a,b])) r2) := by
      refine Suf.bind (ih1 _) fun b => ?_
      intro q
      dsimp only
      split
      ·exact Suf.pure _ q
      ·exact ih2 _ _ q
     exact ⟨fun b r' e => ((this r.tail).1 _ _ e).trans (st _),fun r' c e => ((this r.tail).2 _ _ e).trans (st _)⟩
 exact fun r => (key _).1 lv r
def tkH (n : Nat) : List Tk → Tk
 | [] => ⟨0,[],n⟩
 | t :: _ => t
theorem tkH_o (n : Nat) (r : List Tk) : (tkH n r).o = offT n r := by cases r <;> rfl
def tcB (n : Nat) (w : Str) (s : Sg) : Bool := decide (s.e = 0) && decide ((tkH n s.r).t = w)
theorem wd_ne : ∀ w ∈ words ++ symbols,w ≠ [] := by decide +kernel
theorem mem_suf {r ts : List Tk} {P : Tk → Prop} (hg : ∀ t ∈ ts,P t) (hs : r <:+ ts) : ∀ t ∈ r,P t := fun t h => hg t (hs.subset h)
theorem tcB_ac {n : Nat} {w : Str} {s : Sg} {ts : List Tk} (hg : ∀ t ∈ ts,Tkg t) (hs : s.r <:+ ts) (hw : w ∈ words ∨ w ∈ symbols) : tcB n w s = ac w s := by
 unfold tcB ac
 congr 1
 have h := mem_suf hg hs
 cases e : s.r with
 | nil =>
  have := wd_ne w (List.mem_append.2 hw)
  show decide ([] = w) = false
  exact decide_eq_false fun k => this k.symm
 | cons t q =>
  rw [isT_tok (h t (by rw [e];exact List.mem_cons_self ..)) hw]
  rfl
def acS (w : Str) (s : Sg) : Sg := if ac w s then s.tl else s
theorem acS_T {w : Str} {s : Sg} (h : ac w s = true) : acS w s = s.tl := by unfold acS;rw [if_pos h]
theorem acS_F {w : Str} {s : Sg} (h : ac w s = false) : acS w s = s := by unfold acS;rw [if_neg (by rw [h];decide)]
theorem nd_eq {n : Nat} {w : Str} {s : Sg} : up n (gNd w) s = if ac w s then s.tl else s.fail n 8 := by
 split
 ·rename_i h;exact up_ndT h
 ·rename_i h;exact up_ndF (by simpa using h)
theorem nm_eq {n : Nat} {s : Sg} : up n gNm s = if s.e = 0 ∧ (tkH n s.r).k = 1 then s.tl else s.fail n 8 := by
 unfold up gNm Sg.fail Sg.tl
 by_cases h0 : s.e = 0
 ·cases e : s.r with
  | nil =>
   have : ¬ ((tkH n []).k = 1) := by show ¬ ((0 : UInt8) = 1);decide
   simp [h0,this]
  | cons t q =>
   have hk : (tkH n (t :: q)).k = t.k := rfl
   by_cases h1 : t.k = 1 <;> simp [h0,hk,h1]
 ·simp [h0]
theorem nm_vl {n : Nat} {s : Sg} : vl gNm s (if s.e = 0 ∧ (tkH n s.r).k = 1 then (tkH n s.r).t else []) := by
 intro h0 a r e
 unfold gNm at e
 cases hr : s.r with
 | nil => rw [hr] at e;cases e
 | cons t q =>
  rw [hr] at e
  have hk : (tkH n (t :: q)).k = t.k := rfl
  by_cases h1 : t.k = 1
  ·simp only [h1,if_true] at e
   injection e with e _
   simp [h0,hk,h1,← e,tkH]
  ·simp only [h1,if_false] at e
   cases e
theorem dep0 {op : UInt8} {nm : Str} {n : Int64} : (Ex.mk op nm n []).depth = 1 := by rw [depth_mk];simp [Ex.deeps]
theorem dep1 {op : UInt8} {nm : Str} {n : Int64} {a : Ex} : (Ex.mk op nm n [a]).depth = a.depth + 1 := by rw [depth_mk];simp [Ex.deeps]
theorem dep2 {op : UInt8} {nm : Str} {n : Int64} {a b : Ex} : (Ex.mk op nm n [a,b]).depth = max a.depth b.depth + 1 := by rw [depth_mk];simp [Ex.deeps]
theorem primE_depth {rec : List Tk → Rs Ex} (hr : ∀ q a r',rec q = .ok a r' → a.depth + r'.length ≤ q.length) {r : List Tk} {a : Ex} {r' : List Tk} (h : primE rec r = .ok a r') : a.depth + r'.length ≤ r.length := by
 unfold primE at h
 cases r with
 | nil => cases h
 | cons t q =>
  simp only at h
  have fin : ∀ {b : Ex} {l : List Tk},(Rs.ok b l : Rs Ex) = .ok a r' → b.depth + l.length ≤ q.length + 1 → a.depth + r'.length ≤ (t :: q).length := by
   intro b l e hl
   injection e with e1 e2
   subst e1
   subst e2
   rw [List.length_cons]
   omega
  split at h
  ·split at h
   ·exact fin h (by rw [dep0];omega)
   ·cases h
  split at h
  ·exact fin h (by unfold opE;rw [dep0];omega)
  split at h
  ·exact fin h (by unfold opE;rw [dep0];omega)
  split at h
  ·exact fin h (by unfold opE;rw [dep0];omega)
  split at h
  ·obtain ⟨t2,r2,rfl,_,h⟩ := nameT_ok h
   exact fin h (by rw [dep0];simp;omega)
  split at h
  ·obtain ⟨x,r2,h1,h⟩ := Rs.bind_ok h
   obtain ⟨h2,h⟩ := needT_ok h
   have := hr _ _ _ h1
   have := isT_ne h2
   exact fin h (by omega)
  split at h
  ·obtain ⟨t2,r2,rfl,_,h⟩ := nameT_ok h
   obtain ⟨h2,h⟩ := needT_ok h
   obtain ⟨x,r4,h1,h⟩ := Rs.bind_ok h
   obtain ⟨h3,h⟩ := needT_ok h
   have := hr _ _ _ h1
   have := isT_ne h2
   have := isT_ne h3
   exact fin h (by rw [dep1];simp;omega)
  split at h
  ·split at h
   ·rename_i h2
    obtain ⟨x,r4,h1,h⟩ := Rs.bind_ok h
    obtain ⟨h3,h⟩ := needT_ok h
    have := hr _ _ _ h1
    have := isT_ne h2
    have := isT_ne h3
    exact fin h (by rw [dep1];omega)
   ·exact fin h (by rw [dep0];omega)
  ·cases h
theorem pE_depth : ∀ f,(∀ lv r a r',pE f (.ex lv) r = .ok a r' → a.depth + r'.length ≤ r.length) ∧ (∀ lv x r a r' K,pE f (.lp lv x) r = .ok a r' → x.depth + r.length ≤ K → a.depth + r'.length ≤ K)
 | 0 => ⟨fun lv r a r' e => (by unfold pE at e;cases e),fun lv x r a r' K e => (by unfold pE at e;cases e)⟩
 | f + 1 => by
  obtain ⟨ih1,ih2⟩ := pE_depth f
  refine ⟨fun lv r a r' h => ?_,fun lv x r a r' K h hK => ?_⟩
  ·rw [pE_ex] at h
   split at h
   ·obtain ⟨b,q,h1,h2⟩ := Rs.bind_ok h
    exact ih2 _ _ _ _ _ _ h2 (ih1 _ _ _ _ h1)
   split at h
   ·rename_i e
    obtain ⟨b,q,h1,h2⟩ := Rs.bind_ok h
    have := ih1 _ _ _ _ h1
    have := isT_ne e
    injection h2 with e1 e2;subst e1;subst e2;unfold opE;rw [dep1];omega
   split at h
   ·rename_i e
    obtain ⟨b,q,h1,h2⟩ := Rs.bind_ok h
    have := ih1 _ _ _ _ h1
    have := isT_ne e
    injection h2 with e1 e2;subst e1;subst e2;unfold opE;rw [dep1];omega
   ·exact primE_depth (fun q b r2 e => ih1 _ _ _ _ e) h
  ·rw [pE_lp] at h
   split at h
   ·injection h with e1 e2;subst e1;subst e2;exact hK
   ·rename_i op e
    obtain ⟨b,q,h1,h2⟩ := Rs.bind_ok h
    have h3 := ih1 _ _ _ _ h1
    have := opAt_ne e
    have h4 : (opE op [x,b]).depth + q.length ≤ K := by unfold opE;rw [dep2];omega
    split at h2
    ·injection h2 with e1 e2;subst e1;subst e2;exact h4
    ·exact ih2 _ _ _ _ _ _ h2 h4
theorem gX_depth {lv : Nat} {r r' : List Tk} {a : Ex} (h : gX lv r = .ok a r') : a.depth + r'.length ≤ r.length := (pE_depth _).1 _ _ _ _ h
theorem vl_depth {t : Str} {x : Ex} (hx : vl (gX 0) (sg0 t) x) (h : (sgZ (gX 0) t).e = 0) : x.depth ≤ 20000 := by
 have h0 : (sg0 t).e = 0 := by
  by_cases k : (sg0 t).e = 0
  ·exact k
  ·unfold sgZ at h
   rw [up_er k] at h
   unfold Sg.cl at h
   split at h
   ·exact h
   ·unfold Sg.fail at h
    rw [if_neg k] at h
    exact h
 cases hg : gX 0 (sg0 t).r with
 | er r c =>
  have k := up_ne (n := t.length) (Cz.ex 0) hg h0
  unfold sgZ Sg.cl at h
  split at h
  ·exact absurd h k
  ·unfold Sg.fail at h
   rw [if_neg k] at h
   exact absurd h k
 | ok a r =>
  have := gX_depth hg
  rw [hx h0 a r hg]
  have hl : (sg0 t).r.length ≤ 20000 := by
   unfold sg0
   split
   ·simp
   ·have := lexR_len t
    show (lexR t).length ≤ 20000
    omega
  omega
end Go.Proofs.YthhoebdlfjffkaaGreatDoor
namespace Go.Sx
open Go.RowKit Go.Par
inductive Ty where
 | int (k : IntKind)
 | bool
 | strg
 | seq (τ : Ty)
 | str (fs : List Ty)
 | arr (n : Nat) (τ : Ty)
mutual
def Ty.cells : Ty → Nat
 | .int _ => 1
 | .bool => 1
 | .strg => 1
 | .seq _ => 1
 | .str fs => Ty.cellsL fs
 | .arr n τ => n * Ty.cells τ
def Ty.cellsL : List Ty → Nat
 | [] => 0
 | τ :: r => Ty.cells τ + Ty.cellsL r
end
mutual
def Ty.at (P : Program) : Ty → TypeId → Bool
 | .int k,t => match P.underlying t with | some (.int k') => decide (k' = k) | _ => false
 | .bool,t => match P.underlying t with | some .bool => true | _ => false
 | .strg,t => match P.underlying t with | some .string => true | _ => false
 | .seq τ,t => match P.underlying t with | some (.slice e) => Ty.at P τ e && decide (P.cellsOf e = Ty.cells τ) && decide (0 < Ty.cells τ) | _ => false
 | .str fs,t => match P.underlying t with | some (.struct g) => decide (P.cellsOf t = Ty.cellsL fs) && Ty.atL P fs g.toList 0 | _ => false
 | .arr n τ,t => match P.underlying t with | some (.array m e) => decide (m = n) && Ty.at P τ e && decide (P.cellsOf e = Ty.cells τ) && decide (P.cellsOf t = n * Ty.cells τ) | _ => false
def Ty.atL (P : Program) : List Ty → List Field → Nat → Bool
 | [],[],_ => true
 | τ :: r,f :: g,o => Ty.at P τ f.type && decide (f.offset = o) && decide (P.cellsOf f.type = Ty.cells τ) && Ty.atL P r g (o + Ty.cells τ)
 | _,_,_ => false
end
mutual
def Ty.pln : Ty → Bool
 | .int _ => true
 | .bool => true
 | .strg => true
 | .seq _ => false
 | .str fs => Ty.plnL fs
 | .arr _ τ => Ty.pln τ
def Ty.plnL : List Ty → Bool
 | [] => true
 | τ :: r => Ty.pln τ && Ty.plnL r
end
def allH (W : World) : Hp := fun b => W.heap[b]?
theorem allH_agr (W : World) : Agr (allH W) W := fun _ _ h => h
section
variable {H : Type} {enc : TypeId × Value → H} {P : Program} {base : Nat} {sp : Nat → Bool} {held : Bool}
mutual
def flatD : DataW H → List Value
 | .lit (.int k n) => [.int k n]
 | .lit (.bool b) => [.bool b]
 | .lit (.string l) => [.string ⟨l.toArray⟩]
 | .agg ps => flatDs ps
 | _ => []
def flatDs : List (DataW H) → List Value
 | [] => []
 | d :: r => flatD d ++ flatDs r
end
mutual
theorem Ty.flat (W : World) : ∀ (τ : Ty) (t : TypeId) (fuel : Nat) (cs : List Value) (x : DataW H × List MemPlace),Ty.at P τ t = true → Ty.pln τ = true → DataW.trod enc P W base sp held fuel t cs = some x → cs = flatD x.1
 | .int k,t,fuel,cs,x,ha,_,h => by
  unfold Ty.at at ha
  split at ha
  ·rename_i k' hu
   obtain ⟨n,rfl,rfl,hw⟩ := DataW.trod_int hu h
   simp only [flatD]
  ·cases ha
 | .bool,t,fuel,cs,x,ha,_,h => by
  unfold Ty.at at ha
  split at ha
  ·rename_i hu
   obtain ⟨b,rfl,rfl⟩ := DataW.trod_bool hu h
   simp only [flatD]
  ·cases ha
 | .strg,t,fuel,cs,x,ha,_,h => by
  unfold Ty.at at ha
  split at ha
  ·rename_i hu
   obtain ⟨s,rfl,rfl,_⟩ := DataW.trod_string hu h
   simp only [flatD]
  ·cases ha
 | .seq _,_,_,_,_,_,ho,_ => by simp [Ty.pln] at ho
 | .str fs,t,fuel,cs,x,ha,ho,h => by
  unfold Ty.at at ha
  split at ha
  ·rename_i g hu
   simp only [Bool.and_eq_true,decide_eq_true_eq] at ha
   unfold Ty.pln at ho
   obtain ⟨xs,n,_,rfl,hl,hlen,hf⟩ := DataW.trod_struct hu h
   have h2 := Ty.flatL W fs g.toList 0 n cs xs ha.2 ho (by rw [hl,ha.1];omega) (by simpa using hlen) (fun i f hi => hf i f (by simpa using hi))
   simpa [flatD] using h2
  ·cases ha
 | .arr k τ,t,fuel,cs,x,ha,ho,h => by
  unfold Ty.at at ha
  split at ha
  ·rename_i m e hu
   simp only [Bool.and_eq_true,decide_eq_true_eq] at ha
   obtain ⟨⟨⟨hm,ha⟩,hz⟩,hct⟩ := ha
   subst hm
   unfold Ty.pln at ho
   obtain ⟨xs,n,_,rfl,hl,hlen,hf⟩ := DataW.trod_array hu h
   have key : ∀ (xs : List (DataW H × List MemPlace)) (cs : List Value),cs.length = xs.length * Ty.cells τ → (∀ i,i < xs.length → DataW.trod enc P W base sp held n e ((cs.drop (i * Ty.cells τ)).take (Ty.cells τ)) = xs[i]?) → cs = flatDs (xs.map (·.1)) := by
    intro xs
    induction xs with
    | nil => intro cs hc _;simp at hc;simp [hc,flatDs]
    | cons y r ih =>
     intro cs hc hi
     have h0 := hi 0 (by simp)
     simp only [Nat.zero_mul,List.drop_zero,List.getElem?_cons_zero] at h0
     have e0 := Ty.flat W τ e n _ y ha ho h0
     have e1 := ih (cs.drop (Ty.cells τ)) (by rw [List.length_drop,hc,List.length_cons,Nat.succ_mul];omega) (fun i hlt => by
      have := hi (i + 1) (by simp;omega)
      rw [List.getElem?_cons_succ] at this
      rw [← this,List.drop_drop,show Ty.cells τ + i * Ty.cells τ = (i + 1) * Ty.cells τ by rw [Nat.succ_mul];omega])
     simp only [List.map_cons,flatDs]
     rw [← e0,← e1,List.take_append_drop]
   have h2 := key xs cs (by rw [hl,hct,hlen]) (fun i hlt => by
    have := hf i (by omega)
    rw [hz] at this
    exact this)
   simpa [flatD] using h2
  ·cases ha
theorem Ty.flatL (W : World) : ∀ (fs : List Ty) (g : List Field) (o n : Nat) (cs : List Value) (xs : List (DataW H × List MemPlace)),Ty.atL P fs g o = true → Ty.plnL fs = true → cs.length = o + Ty.cellsL fs → xs.length = g.length →
 (∀ (i : Nat) f,g[i]? = some f → DataW.trod enc P W base sp held n f.type ((cs.drop f.offset).take (P.cellsOf f.type)) = xs[i]?) → cs.drop o = flatDs (xs.map (·.1))
 | [],[],o,n,cs,xs,_,_,hl,hx,_ => by
  obtain rfl := List.eq_nil_of_length_eq_zero hx
  simp only [List.map_nil,flatDs]
  exact List.drop_of_length_le (by simp only [Ty.cellsL] at hl;omega)
 | [],_ :: _,_,_,_,_,ha,_,_,_,_ => by simp [Ty.atL] at ha
 | _ :: _,[],_,_,_,_,ha,_,_,_,_ => by simp [Ty.atL] at ha
 | τ :: r,f :: g,o,n,cs,[],ha,ho,hl,hx,hf => by simp at hx
 | τ :: r,f :: g,o,n,cs,y :: xs,ha,ho,hl,hx,hf => by
  unfold Ty.atL at ha
  unfold Ty.plnL at ho
  simp only [Bool.and_eq_true,decide_eq_true_eq] at ha ho
  obtain ⟨⟨⟨a1,a2⟩,a3⟩,a4⟩ := ha
  have hy := hf 0 f rfl
  rw [a2,a3,List.getElem?_cons_zero] at hy
  have e0 := Ty.flat W τ f.type n _ y a1 ho.1 hy
  unfold Ty.cellsL at hl
  have e1 := Ty.flatL W r g (o + Ty.cells τ) n cs xs a4 ho.2 (by omega) (by simpa using hx) (fun i f' hi => by
   have := hf (i + 1) f' (by simpa using hi)
   rw [List.getElem?_cons_succ] at this
   exact this)
  simp only [List.map_cons,flatDs]
  rw [← e0,← e1,← List.drop_drop,List.take_append_drop]
end
end
theorem laid_mem {P : Program} {W : World} {name : String} {dat : DataW Unit} {rest : List (String × DataW Unit)} {g : Nat} {t : TypeId} (τ : Ty) (cs : List Value)
 (hg : P.globalNamed name = some g) (hty : (P.globals[g]?).map (·.type) = some t) (ha : Ty.at P τ t = true) (hp : Ty.pln τ = true) (hc : flatD dat = cs) (h : laidMet P ((name,dat) :: rest) W) : MemAt (allH W) g 0 cs := by
 obtain ⟨ps,⟨g',t',cs',fuel,p,q,hg',ht',hvar,hd,_,_⟩,_⟩ := h
 obtain rfl := Option.some.inj (hg.symm.trans hg')
 obtain rfl := Option.some.inj (hty.symm.trans ht')
 have e := Ty.flat W τ t fuel cs'.toList _ ha hp hd
 dsimp only at e
 rw [hc] at e
 unfold World.var? at hvar
 rw [hg] at hvar
 simp only [Option.bind_some] at hvar
 split at hvar
 ·rename_i arr T m hb
  refine ⟨arr,T,m,hb,fun j u hu => ?_⟩
  obtain rfl := Option.some.inj hvar
  rw [Nat.zero_add]
  rw [← e] at hu
  simpa using hu
 ·cases hvar
inductive PlT where
 | done
 | no
 | light (i : Nat) (o : Oper) (r : PlT)
 | alt (i k : Nat) (o : Oper) (r q : PlT)
section
variable {dfs : List Deferred} {P : Program} {ops : Array Oper} {w0 : World} {n N : Nat}
def FlowT (dfs : List Deferred) (P : Program) (ops : Array Oper) (n : Nat) (w0 : World) (N : Nat) (E : Sl → Hp → List Res → Prop) : PlT → List (Nat × Oper × Value) → Sl → Hp → List Res → Prop
 | .done,_,L,H,bs => E L H bs
 | .no,_,_,_,_ => True
 | .light i o r,pa,L,H,bs => ∃ v,(∀ a W,Fr dfs N L a → St H w0 bs W → Yq P ops o v a W) ∧ (∀ t,o.dst = some t → t < N) ∧ FlowT dfs P ops n w0 N E r ((i,o,v) :: pa) (putL o.dst v L) H bs
 | .alt i k o r q,pa,L,H,bs => ((∀ t,o.dst = some t → t < N) ∧ At dfs N L H w0 bs (one P ops (fun _ _ _ => False) o fun a' W' => ∃ v H' bs',Fr dfs N (putL o.dst v L) a' ∧ St H' w0 bs' W' ∧ (k = 1 ∨ (∀ W,St H' w0 bs' W → St H w0 bs W) ∨ RedoP dfs P ops n w0 N L H' bs' i pa) ∧ FlowT dfs P ops n w0 N E r pa (putL o.dst v L) H' bs')) ∧ FlowT dfs P ops n w0 N E q pa L H bs
variable {l : List Oper} {a0 : Act} {E : Sl → Hp → List Res → Prop} {Q : Exit → Act → World → Prop} {listed : Array Bool} {a : Act} {W : World} {val : Nat → Value} {dec : Nat → Bool} {D A : List Nat} {L : Sl} {H : Hp} {bs : List Res} {pa : List (Nat × Oper × Value)}
end
section
variable {dfs : List Deferred} {P : Program} {n : Nat} {L : Sl} {H : Hp} {w0 : World} {bs : List Res} {Q : Exit → Act → World → Prop} {ops : Array Oper} {rest : List Oper} {K : Act → World → Prop}
variable {d : Option Tmp} {ty : TypeId} {pos : String} {aft : Array Edge} {g : Option (Nat × Bool)} {v : Value} {t : Tmp} {op : Op} {x y z : Operand} {T T' : TypeId}
variable {N hn : Nat} {pa : List (Nat × Oper × Value)} {E : Sl → Hp → List Res → Prop} {r q : PlT} {i k : Nat}
def AltT (dfs : List Deferred) (P : Program) (ops : Array Oper) (n : Nat) (w0 : World) (N : Nat) (E : Sl → Hp → List Res → Prop) (i k : Nat) (o : Oper) (r : PlT) (pa : List (Nat × Oper × Value)) (L : Sl) (H : Hp) (bs : List Res) : Prop :=
 (∀ t,o.dst = some t → t < N) ∧ At dfs N L H w0 bs (one P ops (fun _ _ _ => False) o fun a' W' => ∃ v H' bs',Fr dfs N (putL o.dst v L) a' ∧ St H' w0 bs' W' ∧ (k = 1 ∨ (∀ W,St H' w0 bs' W → St H w0 bs W) ∨ RedoP dfs P ops n w0 N L H' bs' i pa) ∧ FlowT dfs P ops n w0 N E r pa (putL o.dst v L) H' bs')
theorem AltT.into {H' : Hp} {bs' : List Res} (hw : k = 1 ∨ (∀ W,St H' w0 bs' W → St H w0 bs W) ∨ RedoP dfs P ops hn w0 N L H' bs' i pa) (h : FlowT dfs P ops hn w0 N E r pa ((t,v) :: L) H' bs') :
 At dfs N ((t,v) :: L) H' w0 bs' (fun a' W' => ∃ v H' bs',Fr dfs N (putL (some t) v L) a' ∧ St H' w0 bs' W' ∧ (k = 1 ∨ (∀ W,St H' w0 bs' W → St H w0 bs W) ∨ RedoP dfs P ops hn w0 N L H' bs' i pa) ∧ FlowT dfs P ops hn w0 N E r pa (putL (some t) v L) H' bs') := fun _ _ f s => ⟨v,H',bs',f,s,hw,h⟩
theorem AltT.al {l : List Value} (hz : zeroN P T = some l) (ht : Nat.blt t N = true) (h : ∀ b,FlowT dfs P ops hn w0 N E r pa ((t,.pointer (some ⟨b,0,none⟩)) :: L) H (.box b l T :: bs)) : AltT dfs P ops hn w0 N E i k ⟨some t,.alloc T,ty,pos,aft,none⟩ r pa L H bs :=
 ⟨blt_of ht,alloc hz ht fun b => AltT.into (.inr<|.inl fun _ s => s.drop) (h b)⟩
end
def SliceAt (H : Hp) (v : Value) (n : Nat) (xs : List Value) : Prop := (v = .slice none 0 0 ∧ n = 0) ∨ ∃ b c,v = .slice (some ⟨b,0,none⟩) n c ∧ n ≤ c ∧ c ≤ maxLen ∧ MemAt H b 0 xs
theorem Upd.new {bs bs' : List Res} {x y : Res} (h : Upd bs x y bs') : y ∈ bs' := by
 induction h with
 | head => exact .head _
 | tail _ ih => exact .tail _ ih
theorem SliceAt.up {H H' : Hp} {v : Value} {n : Nat} {xs : List Value} (h : SliceAt H v n xs) (u : Up H H') : SliceAt H' v n xs := by
 rcases h with h | ⟨b,c,e,h1,h2,h3⟩
 ·exact .inl h
 ·exact .inr ⟨b,c,e,h1,h2,h3.up u⟩
section
variable {dfs : List Deferred} {P : Program} {n : Nat} {L : Sl} {H : Hp} {w0 : World} {bs : List Res} {Q : Exit → Act → World → Prop} {ops : Array Oper} {rest : List Oper} {K : Act → World → Prop}
variable {d : Option Tmp} {ty : TypeId} {pos : String} {aft : Array Edge} {v : Value} {t : Tmp} {x y : Operand} {T : TypeId}
variable {N hn i : Nat} {pa : List (Nat × Oper × Value)} {E : Sl → Hp → List Res → Prop} {q : PlT}
end
section
variable {dfs : List Deferred} {P : Program} {n : Nat} {L : Sl} {H : Hp} {w0 : World} {bs : List Res} {Q : Exit → Act → World → Prop} {ops : Array Oper} {rest : List Oper} {K : Act → World → Prop}
variable {d : Option Tmp} {ty : TypeId} {pos : String} {aft : Array Edge} {v : Value} {t : Tmp} {x y : Operand} {T : TypeId}
theorem appendD {e : TypeId} {size bytes m c k : Nat} {p : Option Addr} {r : Value} {xs : List Value} {ds : List D} {bs' : List Value → Value → List Res} (hT : rowN P T = some (e,size,bytes)) (hx : ev L x = some r)
 (hm : ∀ news r',Upd bs (.row e size r k xs) (.row e size r' (k + m) (xs ++ news)) (bs' news r')) (hy : ev L y = some (.slice p m c)) (hr : Rep H (.seq size ds) [.slice p m c])
 (h63 : k + m ≤ maxLen) (hb : (k + m) * bytes ≤ 140737488355328) (ht : Nat.blt t n = true)
 (h : ∀ news r',RepZ H size ds news → At dfs n ((t,r') :: L) H w0 (bs' news r') K) : At dfs n L H w0 bs (one P ops Q ⟨some t,.call ⟨.builtin .append,#[x,y],#[T,T]⟩,ty,pos,aft,none⟩ K) := by
 have hlen := hr.len
 unfold Rep at hr
 obtain ⟨p',c',h1,h2,h3,h4⟩ := hr
 injection h1 with h1 _
 injection h1 with e1 e2 e3
 subst e1 e3
 rcases h4 with h4 | ⟨b,off,cs,rfl,hmem,hz⟩
 ·subst h4
  obtain rfl : m = 0 := e2
  cases p with
  | some A => exact appendA hT hx (hm []) hy (fun W s j u e => by simp at e) (by simp) (by simp) h63 hb ht fun r' _ => h [] r' .nil
  | none =>
   obtain ⟨hu,i,z,hi,hz,hsz,hby,hzs,h0⟩ := rowN_spec hT
   have e4 : bs' [] r = bs := (hm [] r).same (by rw [Nat.add_zero,List.append_nil])
   have h5 := h [] r .nil
   rw [e4] at h5
   intro a W f s
   refine one_plain rfl ?_
   unfold Oper.wp
   have hown : W.ownsRow w0.heap.size e size r k xs := (s.own _ (hm [] r).mem).1
   have hrun : (Builtin.append_ #[T,T] ty #[r,.slice none 0 c]).run P W = .ok r W := by
    rcases hown.2 with ⟨rfl,rfl⟩ | ⟨g,cap,cur,rfl,hbg,hgc,hnc,hcm,hcs,htake⟩
    ·simp [Builtin.append_,run_underlying hu,sizeOf,typeInfo,hi,Builtin.lenOf,Builtin.firstCells]
    ·simp [Builtin.append_,run_underlying hu,sizeOf,typeInfo,hi,Builtin.lenOf,Builtin.firstCells,hnc,storeCells]
   simp [execOp,resolve,invoke,builtin,f.ev hx,f.ev hy,hrun,Result.andThen,Oper.upon]
   exact h5 _ _ (f.put ht _) s
 ·exact appendA hT hx (hm cs) hy (fun W s j u e => by rw [Addr.add_lit];exact hmem.cell s.agr e) (by rw [hz.len,e2]) hz.one h63 hb ht fun r' _ => h cs r' hz
theorem Yl.fld {i : Nat} {u : Value} (hx : ev L x = some v) (hr : ∀ W,(Instr.field T v i).run P W = .ok u W) {gd : Option (Nat × Bool)} : Yl P L H w0 bs ⟨d,.field T x i,ty,pos,aft,gd⟩ u := .of_run fun a W f s => by
 unfold execOp
 simp only [f x _ hx,Sem.run_bind,hr W,Result.andThen,Sem.run_pure]
theorem setsL_app : ∀ (vs l more : List Value) (off : Nat),off + vs.length ≤ l.length → setsL (l ++ more) off vs = setsL l off vs ++ more
 | [],l,more,off,_ => rfl
 | v :: r,l,more,off,h => by
  unfold setsL
  rw [List.length_cons] at h
  rw [List.set_append_left _ _ (by omega)]
  exact setsL_app r (l.set off v) more (off + 1) (by rw [List.length_set];omega)
theorem setsL_right : ∀ (vs p l : List Value) (off : Nat),setsL (p ++ l) (p.length + off) vs = p ++ setsL l off vs
 | [],p,l,off => rfl
 | v :: r,p,l,off => by
  unfold setsL
  rw [List.set_append_right _ _ (by omega),show p.length + off - p.length = off by omega,Nat.add_assoc]
  exact setsL_right r p (l.set off v) (off + 1)
theorem RepZ.put {H : Hp} {z : Nat} {d : D} {vs : List Value} (hd : Rep H d vs) (hz : vs.length = z) : ∀ {ds : List D} {l : List Value} {i : Nat},RepZ H z ds l → i < ds.length → RepZ H z (ds.set i d) (setsL l (i * z) vs)
 | [],l,i,_,hi => by simp at hi
 | d0 :: r,l,0,h,_ => by
  unfold RepZ at h
  obtain ⟨x,y,rfl,h1,h2,h3⟩ := h
  rw [List.set_cons_zero,Nat.zero_mul,setsL_app _ _ _ _ (by omega)]
  have := setsL_all vs [] x (by omega)
  simp only [List.nil_append,List.length_nil] at this
  rw [this]
  unfold RepZ
  exact ⟨vs,y,rfl,hz,hd,h3⟩
 | d0 :: r,l,i + 1,h,hi => by
  unfold RepZ at h
  obtain ⟨x,y,rfl,h1,h2,h3⟩ := h
  have := RepZ.put hd hz (i := i) h3 (by simpa using hi)
  rw [List.set_cons_succ,show (i + 1) * z = x.length + i * z by rw [h1,Nat.succ_mul];omega,setsL_right]
  unfold RepZ
  exact ⟨x,_,rfl,h1,h2,this⟩
variable {N hn i : Nat} {pa : List (Nat × Oper × Value)} {E : Sl → Hp → List Res → Prop} {q : PlT} {fr : List (Nat × Nat × Oper)}
theorem FlowP.apD {e : TypeId} {size bytes m c k : Nat} {p : Option Addr} {r : Value} {xs : List Value} {ds : List D} {bs' : List Value → Value → List Res} (hT : rowN P T = some (e,size,bytes)) (hx : ev L x = some r)
 (hm : ∀ news r',Upd bs (.row e size r k xs) (.row e size r' (k + m) (xs ++ news)) (bs' news r')) (hy : ev L y = some (.slice p m c)) (hr : Rep H (.seq size ds) [.slice p m c])
 (h63 : k + m ≤ maxLen) (hb : (k + m) * bytes ≤ 140737488355328) (ht : Nat.blt t N = true)
 (hr2 : ∀ news r',RedoP dfs P ops hn w0 N L H (bs' news r') i pa) (h : ∀ news p c,RepZ H size ds news → FlowP dfs P ops hn w0 N E fr pa ((t,.slice p (k + m) c) :: L) H (bs' news (.slice p (k + m) c))) :
 FlowP dfs P ops hn w0 N E ((i,3,⟨some t,.call ⟨.builtin .append,#[x,y],#[T,T]⟩,ty,pos,aft,none⟩) :: fr) pa L H bs :=
 ⟨blt_of ht,appendD hT hx hm hy hr h63 hb ht fun news r' hz => At.ra (hm news r').new fun p c e => by subst e;exact FlowP.into (.inr<|.inr<|hr2 _ _) (h news p c hz)⟩
end
section
variable {dfs : List Deferred} {P : Program}
variable {n : Nat} {L : Sl} {H : Hp} {w0 : World} {bs : List Res} {d : Option Tmp} {ty : TypeId} {pos : String} {aft : Array Edge} {g : Option (Nat × Bool)} {x y : Operand} {T T' : TypeId}
end
theorem Rep.cells {H : Hp} {z n c : Nat} {ds : List D} {p : Option Addr} (h : Rep H (.seq z ds) [.slice p n c]) : ∃ cf : Nat → List Value,∀ i d,ds[i]? = some d → ∃ b off,p = some ⟨b,off,none⟩ ∧ Rep H d (cf i) ∧ (cf i).length = z ∧ MemAt H b (off + i * z) (cf i) := by
 classical
 refine ⟨fun i => if h : ∃ cs,∀ d,ds[i]? = some d → ∃ b off,p = some ⟨b,off,none⟩ ∧ Rep H d cs ∧ cs.length = z ∧ MemAt H b (off + i * z) cs then Classical.choose h else [],fun i d hd => ?_⟩
 have ex : ∃ cs,∀ d,ds[i]? = some d → ∃ b off,p = some ⟨b,off,none⟩ ∧ Rep H d cs ∧ cs.length = z ∧ MemAt H b (off + i * z) cs := by
  obtain ⟨b,off,cs,h1,h2,h3,h4⟩ := h.elem hd
  refine ⟨cs,fun d' hd' => ?_⟩
  rw [hd] at hd'
  injection hd' with e
  subst e
  exact ⟨b,off,h1,h2,h3,h4⟩
 simp only [dif_pos ex]
 exact Classical.choose_spec ex d hd
theorem subL {vs l : List Value} {k : Nat} (h : (l.drop k).take vs.length = vs) : ∀ (j : Nat) u,vs[j]? = some u → l[k + j]? = some u := fun j u hj => by
 rw [← h,List.getElem?_take] at hj
 split at hj
 ·rw [List.getElem?_drop] at hj;exact hj
 ·cases hj
section
variable {dfs : List Deferred} {P : Program} {n : Nat} {L : Sl} {H : Hp} {w0 : World} {bs : List Res} {Q : Exit → Act → World → Prop} {ops : Array Oper} {rest : List Oper} {K : Act → World → Prop}
variable {d : Option Tmp} {ty : TypeId} {pos : String} {aft : Array Edge} {v : Value} {t : Tmp} {x : Operand}
theorem callSV {X : Type} {f : FuncId} {xs : List Operand} {vs fi ca : List Value} {ats : Array TypeId} {C : X → Prop} {val : X → Value} {H' : X → Hp} {bs' : X → List Res} (hx : ev L x = some (.func (.func f) fi.toArray ca.toArray)) (hf : callN P f = true) (hv : evs L xs = some vs)
 (hc : ∀ W,St H w0 bs W → Calls P f (fi ++ vs ++ ca).toArray W fun e W' => ∃ x,C x ∧ e = .returned (val x) ∧ St (H' x) w0 (bs' x) W') (ht : Nat.blt t n = true)
 (h : ∀ x,C x → At dfs n ((t,val x) :: L) (H' x) w0 (bs' x) K) :
 At dfs n L H w0 bs (one P ops Q ⟨some t,.call ⟨.value x,xs.toArray,ats⟩,ty,pos,aft,none⟩ K) := by
 intro a W f0 s
 refine one_plain rfl ?_
 unfold Oper.wp
 rw [exec_callV hf (fun x u e => f0.ev e) hx hv]
 refine (hc W s).mono ?_
 rintro e W' ⟨x,hx,rfl,hs⟩
 exact h x hx _ _ (f0.put ht _) hs
theorem At.sv {X : Type} {f : FuncId} {xs : List Operand} {vs fi ca : List Value} {ats : Array TypeId} {C : X → Prop} {val : X → Value} {H' : X → Hp} {bs' : X → List Res} (hx : ev L x = some (.func (.func f) fi.toArray ca.toArray)) (hf : callN P f = true) (hv : evs L xs = some vs)
 (hc : ∀ W,St H w0 bs W → Calls P f (fi ++ vs ++ ca).toArray W fun e W' => ∃ x,C x ∧ e = .returned (val x) ∧ St (H' x) w0 (bs' x) W') (ht : Nat.blt t n = true)
 (h : ∀ x,C x → At dfs n ((t,val x) :: L) (H' x) w0 (bs' x) (wpList P ops Q rest)) : At dfs n L H w0 bs (wpList P ops Q (⟨some t,.call ⟨.value x,xs.toArray,ats⟩,ty,pos,aft,none⟩ :: rest)) := cons (callSV hx hf hv hc ht h)
theorem Yl.mkF {fn : Fn} {fs cs : List Operand} {fi ca : List Value} {g : Option (Nat × Bool)} (h1 : evs L fs = some fi) (h2 : evs L cs = some ca) : Yl P L H w0 bs ⟨d,.makeFunc fn fs.toArray cs.toArray,ty,pos,aft,g⟩ (.func fn fi.toArray ca.toArray) := .of_run fun a W f _ => by
 unfold execOp
 simp [evs_map f h1,evs_map f h2,Instr.makeFunc]
/-! ### Stores in a drawn region's head -/
section
variable {N hn i : Nat} {pa : List (Nat × Oper × Value)} {E : Sl → Hp → List Res → Prop} {r : List (Nat × Nat × Oper)} {T : TypeId} {y : Operand} {bs' : List Res}
theorem FlowP.into0 (hr : RedoP dfs P ops hn w0 N L H bs' i pa) (h : FlowP dfs P ops hn w0 N E r pa L H bs') :
 At dfs N L H w0 bs' (fun a' W' => ∃ v H' bs'',Fr dfs N (putL none v L) a' ∧ St H' w0 bs'' W' ∧ (2 = 1 ∨ (∀ W,St H' w0 bs'' W → St H w0 bs W) ∨ RedoP dfs P ops hn w0 N L H' bs'' i pa) ∧ FlowP dfs P ops hn w0 N E r pa (putL none v L) H' bs'') := fun _ _ f s => ⟨undef,H,bs',f,s,.inr (.inr hr),h⟩
theorem FlowP.sW {b : Nat} {l vs : List Value} {t' : TypeId} (hm : Upd bs (.box b l t') (.box b vs t') bs') (hp : ev L x = some (.pointer (some ⟨b,0,none⟩))) (hv : ev L y = some (.agg vs.toArray)) (hT : sizeN P T = some vs.length) (h1 : ∀ u ∈ vs,u.oneCell' = true) (ho : l.length = vs.length)
 (hr : RedoP dfs P ops hn w0 N L H bs' i pa) (h : FlowP dfs P ops hn w0 N E r pa L H bs') : FlowP dfs P ops hn w0 N E ((i,3,⟨none,.store T x y,ty,pos,aft,none⟩) :: r) pa L H bs :=
 ⟨fun _ e => (by cases e),storeW hp hv hT h1 hm ho (into0 hr h)⟩
theorem FlowP.st {b off : Nat} {l l' : List Value} {t' : TypeId} (hm : Upd bs (.box b l t') (.box b l' t') bs') (hp : ev L x = some (.pointer (some ⟨b,off,none⟩))) (hv : ev L y = some v) (hT : sizeN P T = some 1) (h1 : v.oneCell' = true) (ho : Nat.blt off l.length = true) (hl : l.set off v = l')
 (hr : RedoP dfs P ops hn w0 N L H bs' i pa) (h : FlowP dfs P ops hn w0 N E r pa L H bs') : FlowP dfs P ops hn w0 N E ((i,3,⟨none,.store T x y,ty,pos,aft,none⟩) :: r) pa L H bs :=
 ⟨fun _ e => (by cases e),store hp hv hT h1 hm (by simpa [Nat.blt_eq] using ho) hl (into0 hr h)⟩
end
section
variable {N hn i k : Nat} {pa : List (Nat × Oper × Value)} {E : Sl → Hp → List Res → Prop} {r : PlT} {T : TypeId} {y : Operand} {bs' : List Res}
end
end
section
variable {dfs : List Deferred} {P : Program} {L : Sl} {H : Hp} {w0 : World} {bs : List Res} {ops : Array Oper}
variable {ty : TypeId} {pos : String} {aft : Array Edge} {t : Tmp}
variable {N hn i k : Nat} {pa : List (Nat × Oper × Value)} {E : Sl → Hp → List Res → Prop} {r : List (Nat × Nat × Oper)} {T : TypeId}
theorem FlowP.blF {ps : List (Nat × Operand)} {pv : List (Nat × Value)} {len : Nat} {e : TypeId} {l : List Value} (hv : evp L ps = some pv) (hb : bslN P T len pv = some (e,l)) (ht : Nat.blt t N = true)
 (h : ∀ b H1,HUp w0 H H1 → MemAt H1 b 0 l → FlowP dfs P ops hn w0 N E r pa ((t,.slice (some ⟨b,0,none⟩) len len) :: L) H1 bs) : FlowP dfs P ops hn w0 N E ((i,k + 1,⟨some t,.buildSlice T len ps.toArray,ty,pos,aft,none⟩) :: r) pa L H bs :=
 ⟨blt_of ht,buildSlice hv hb ht fun b => freezeBox fun H1 u m => FlowP.into (.inr<|.inl fun _ s => s.weakH u.up) (h b H1 u m)⟩
end
class FW (F : Fence) : Prop where
 fn : ∀ f,F.fn f
 depth : F.depth = none
 calls : ∀ {n : Nat} {P : Program} {f : FuncId} {args : Array Value} {w : World} {R : Ending → World → Prop},Calls P f args w R → CallsIn F n P f args w R
 rows : ∀ {n : Nat} {P : Program} {r : String} {args : Array Value} {w : World} {R : Value → World → Prop},Rows P r args w R → RowsIn F n P r args w R
instance : FW Fence.wide := ⟨fun _ => trivial,rfl,fun h => callsIn_wide.2 h,fun h c cs _ => let ⟨v,w',r,s⟩ := h c cs;⟨v,w',r,stepsIn_wide.2 s⟩⟩
instance {l : Nat} : FW (Fence.wide.inRound l) := ⟨fun _ => trivial,rfl,fun h => CallsIn.inRound l (callsIn_wide.2 h),fun h c cs _ => let ⟨v,w',r,s⟩ := h c cs;⟨v,w',r,stepsIn_wide.2 s⟩⟩
section
variable {dfs : List Deferred} {P : Program} {n m : Nat} {L : Sl} {H : Hp} {w0 : World} {bs : List Res} {Q : Exit → Act → World → Prop} {ops : Array Oper} {rest : List Oper} {K : Act → World → Prop} {F : Fence}
variable {d : Option Tmp} {ty : TypeId} {pos : String} {aft : Array Edge} {g : Option (Nat × Bool)} {v : Value} {t : Tmp} {op : Op} {x y : Operand} {T : TypeId}
theorem wpIn_of_wp [hF : FW F] {o : Oper} {a : Act} {w : World} (hd : ∀ c,o.op ≠ .defer c) (h : o.wp P a w K (fun _ _ _ => False)) : o.wpIn F m P a w K Q := by
 unfold Oper.wpIn
 refine ⟨fun f _ => hF.fn f,?_⟩
 rw [Oper.semAt_plain F _ _ hd]
 unfold Oper.wp at h
 generalize (execOp a.eval o).run P w = r at *
 cases r with
 | ok z w' =>
  cases z <;> simp only [Oper.upon] at h <;> simp only [Oper.uponIn]
  case value u => exact h
  case skip => exact h
  case defer d => exact h
  case enter f args =>
   refine ⟨fun e => (by rw [hF.depth] at e;cases e),hF.calls (h.mono ?_)⟩
   intro e w'' q
   cases e with
   | returned v => exact q
   | panicked c => exact q.elim
   | outgrown => obtain ⟨_,_,q⟩ := q;exact q.elim
  case row rw args => exact ⟨fun e => (by rw [hF.depth] at e;cases e),hF.rows h⟩
 | halt z w' =>
  cases z <;> simp only [Oper.upon] at h
theorem consI [hF : FW F] {o : Oper} (hd : ∀ c,o.op ≠ .defer c) (h : At dfs n L H w0 bs (one P ops (fun _ _ _ => False) o (wpListIn F m P ops Q rest))) : At dfs n L H w0 bs (wpListIn F m P ops Q (o :: rest)) := by
 intro a W f s
 have h1 := h a W f s
 unfold one at h1
 unfold wpListIn
 cases hw : Region.wanted o (yielded ops a.tmps) with
 | true =>
  rw [hw] at h1
  simp only [if_true] at h1 ⊢
  rcases h1 with h1 | ⟨_,_,_,h1⟩
  ·exact wpIn_of_wp hd h1
  ·exact h1.elim
 | false =>
  rw [hw] at h1
  simp only [Bool.false_eq_true,if_false] at h1 ⊢
  exact ⟨fun f _ => hF.fn f,h1⟩
theorem At.rgI {id : Nat} {l : List Oper} (h : At dfs n L H w0 bs (wpListIn F m P l.toArray Q l)) : At dfs n L H w0 bs ((Code.region id l.toArray false).wpIn F m P Q) := fun a W f s => wpIn_region_lit (h a W f s)
theorem At.rgW {id : Nat} {l : List Oper} (m : Nat) (h : At dfs n L H w0 bs (wpListIn Fence.wide m P l.toArray Q l)) : At dfs n L H w0 bs ((Code.region id l.toArray false).wp P Q) := fun a W f s => wpIn_wide.1 (wpIn_region_lit (h a W f s))
theorem At.nlI (h : At dfs n L H w0 bs (Q .normal)) : At dfs n L H w0 bs (wpListIn F m P ops Q []) := h
theorem At.yvI [FW F] (hy : Yl P L H w0 bs ⟨some t,op,ty,pos,aft,none⟩ v) (ht : Nat.blt t n = true) (h : At dfs n ((t,v) :: L) H w0 bs (wpListIn F m P ops Q rest)) (hd : ∀ c,op ≠ .defer c := by intro c e;cases e) : At dfs n L H w0 bs (wpListIn F m P ops Q (⟨some t,op,ty,pos,aft,none⟩ :: rest)) := consI hd (yl hy ht h)
theorem At.mI [FW F] (hx : ev L x = some v) (ht : Nat.blt t n = true) (h : At dfs n ((t,v) :: L) H w0 bs (wpListIn F m P ops Q rest)) : At dfs n L H w0 bs (wpListIn F m P ops Q (⟨some t,.move x,ty,pos,aft,none⟩ :: rest)) := .yvI (.move hx) ht h
theorem At.alI [FW F] {l : List Value} (hz : zeroN P T = some l) (ht : Nat.blt t n = true) (h : ∀ b,At dfs n ((t,.pointer (some ⟨b,0,none⟩)) :: L) H w0 (.box b l T :: bs) (wpListIn F m P ops Q rest)) : At dfs n L H w0 bs (wpListIn F m P ops Q (⟨some t,.alloc T,ty,pos,aft,none⟩ :: rest)) := consI (by intro c e;cases e) (alloc hz ht h)
theorem At.sWI [FW F] {b : Nat} {l vs : List Value} {t' : TypeId} {bs' : List Res} (hm : Upd bs (.box b l t') (.box b vs t') bs') (hp : ev L x = some (.pointer (some ⟨b,0,none⟩))) (hv : ev L y = some (.agg vs.toArray)) (hT : sizeN P T = some vs.length) (h1 : ∀ u ∈ vs,u.oneCell' = true) (ho : l.length = vs.length) (h : At dfs n L H w0 bs' (wpListIn F m P ops Q rest)) :
 At dfs n L H w0 bs (wpListIn F m P ops Q (⟨none,.store T x y,ty,pos,aft,none⟩ :: rest)) := consI (by intro c e;cases e) (storeW hp hv hT h1 hm ho h)
end
/-! ### The caller's side of a range over a function -/
section
variable {H : Hp} {w0 W W' : World} {bs : List Res}
theorem St.beside {row : Option Nat} (s : St H w0 bs W) (g : W.grownBy W' row) (hr : ∀ r,row = some r → w0.heap.size ≤ r ∧ H r = none ∧ ∀ x ∈ bs,x.blk ≠ some r) : St H w0 bs W' := by
 have hb : ∀ k,k < W.heap.size → (∀ r,row = some r → k ≠ r) → W'.heap[k]? = W.heap[k]? := fun k hk hn => g.block k hk (fun e => hn k e.symm rfl)
 refine ⟨?_,?_,?_,s.apart⟩
 ·have e := s.ext
  unfold Ext at e ⊢
  refine ⟨g.os.trans e.os,g.tape.trans e.tape,g.output.trans e.output,Nat.le_trans e.size g.size,fun k hk => ?_⟩
  exact (hb k (Nat.lt_of_lt_of_le hk e.size) (fun r e' h => by have := (hr r e').1;omega)).trans (e.block k hk)
 ·intro b o e
  have := s.agr b o e
  rw [hb b (block_lt this) (fun r e' h => by subst h;rw [(hr b e').2.1] at e;cases e)]
  exact this
 ·intro x hx
  exact ⟨(s.own x hx).1.keep g.size (fun b e => hb b ((s.own x hx).1.lt e).2 (fun r e' h => by subst h;exact (hr b e').2.2 x hx e)),(s.own x hx).2⟩
def nobj : List Res → Bool
 | [] => true
 | .box .. :: r => nobj r
 | .row .. :: r => nobj r
 | _ :: _ => false
theorem nobj_cells : ∀ {bs : List Res},nobj bs = true → ∀ x ∈ bs,∀ base,x.ok base W → ∀ b,x.blk = some b → ∃ o,W.heap[b]? = some o ∧ o.isCells = true
 | [],_,x,hx,_,_,_,_ => by cases hx
 | .box c l t :: r,h,x,hx,base,ho,b,e => by
  rcases List.mem_cons.1 hx with rfl | hx
  ·obtain rfl : c = b := Option.some.inj e
   exact ⟨_,ho.2,rfl⟩
  ·exact nobj_cells (bs := r) h x hx base ho b e
 | .row et size v n xs :: r,h,x,hx,base,ho,b,e => by
  rcases List.mem_cons.1 hx with rfl | hx
  ·obtain ⟨_,⟨rfl,_⟩ | ⟨g,cap,cur,rfl,hg,hc,_⟩⟩ := ho
   ·cases e
   ·obtain rfl : g = b := Option.some.inj e
    exact ⟨_,hc,rfl⟩
  ·exact nobj_cells (bs := r) h x hx base ho b e
 | .obj .. :: _,h,_,_,_,_,_,_ => by cases h
 | .big .. :: _,h,_,_,_,_,_,_ => by cases h
theorem nobj_ne (s : St H w0 bs W) (h : nobj bs = true) {r : Nat} {o : Obj} (ho : W.heap[r]? = some o) (hc : o.isCells = false) : ∀ x ∈ bs,x.blk ≠ some r := by
 intro x hx e
 obtain ⟨o',h1,h2⟩ := nobj_cells h x hx _ (s.own x hx).1 r e
 rw [ho] at h1;cases h1;rw [hc] at h2;cases h2
theorem ownSt {α Z : Type} {B : Nat} {C : List α → Z → Prop} {rs : Z → List Res} (hB : w0.heap.size ≤ B) (hH : ∀ r,B ≤ r → H r = none) (hn : ∀ pre z,C pre z → nobj (rs z) = true) :
 OwnFrom B (fun pre W => ∃ z,C pre z ∧ St H w0 (rs z) W) := by
 rintro pre X Y row ⟨z,hz,s⟩ hg hr
 exact ⟨z,hz,s.beside hg fun r e => by
  obtain ⟨h1,o,h2,h3⟩ := hr r e
  exact ⟨Nat.le_trans hB h1,hH r h1,nobj_ne s (hn _ _ hz) h2 h3⟩⟩
theorem St.less {H' : Hp} (s : St H' w0 bs W) (u : Up H H') : St H w0 bs W := ⟨s.ext,fun b o e => s.agr b o (u b o e),fun x hx => ⟨(s.own x hx).1,fun b e => by
 cases h : H b with
 | none => rfl
 | some o => have := (s.own x hx).2 b e;rw [u b o h] at this;cases this⟩,s.apart⟩
theorem St.front {tl : List Res} (s : St H w0 (bs ++ tl) W) : St H w0 bs W := ⟨s.ext,s.agr,fun x hx => s.own x (List.mem_append_left _ hx),(List.pairwise_append.1 s.apart).1⟩
def tailOf (B : Nat) (W : World) : List Res := .big W.heap.size :: (List.range' B (W.heap.size - B)).filterMap fun k => match W.heap[k]? with
 | some o => if o.isCells then none else some (.obj k o)
 | none => none
theorem mem_tailOf {B : Nat} {x : Res} (h : x ∈ tailOf B W) : x = .big W.heap.size ∨ ∃ k o,x = .obj k o ∧ W.heap[k]? = some o ∧ o.isCells = false ∧ B ≤ k := by
 rcases List.mem_cons.1 h with rfl | h
 ·exact .inl Z
 ·obtain ⟨k,hk,he⟩ := List.mem_filterMap.1 h
  cases ho : W.heap[k]? with
  | none => rw [ho] at he;cases he
  | some o =>
   rw [ho] at he
   cases hc : o.isCells with
   | true => simp [hc] at he
   | false => exact .inr ⟨k,o,by simpa [hc] using he.symm,ho,hc,by have := List.mem_range'_1.1 hk;omega⟩
theorem St.tailOf {B : Nat} (s : St H w0 bs W) (hn : nobj bs = true) (hB : w0.heap.size ≤ B) (hH : ∀ r,B ≤ r → H r = none) : St H w0 (bs ++ tailOf B W) W := by
 refine ⟨s.ext,s.agr,?_,List.pairwise_append.2 ⟨s.apart,?_,?_⟩⟩
 ·intro x hx
  rcases List.mem_append.1 hx with hx | hx
  ·exact s.own x hx
  ·rcases mem_tailOf hx with rfl | ⟨k,o,rfl,ho,hc,hk⟩
   ·exact ⟨Nat.le_refl _,fun b e => by cases e⟩
   ·exact ⟨⟨Nat.le_trans hB hk,ho⟩,fun b e => by obtain rfl : k = b := Option.some.inj e;exact hH k hk⟩
 ·refine .cons (fun y _ b e => by cases e) ?_
  refine List.Pairwise.filterMap _ ?_ (List.pairwise_lt_range' (s := B) (n := W.heap.size - B))
  intro k j hlt x hx y hy b e e'
  have key : ∀ (m : Nat) (u : Res),(match W.heap[m]? with | some o => if o.isCells then none else some (Res.obj m o) | none => none) = some u → u.blk = some m := by
   intro m u hu
   cases ho : W.heap[m]? with
   | none => rw [ho] at hu;cases hu
   | some o =>
    rw [ho] at hu
    cases hc : o.isCells with
    | true => simp [hc] at hu
    | false =>
     simp [hc] at hu
     rw [← hu];rfl
  have h1 := key k x hx
  have h2 := key j y hy
  rw [h1] at e;rw [h2] at e'
  cases e;cases e'
  omega
 ·intro x hx y hy b e e'
  rcases mem_tailOf hy with rfl | ⟨k,o,rfl,ho,hc,hk⟩
  ·cases e'
  ·obtain rfl : k = b := Option.some.inj e'
   exact nobj_ne s hn ho hc x hx e
theorem St.keepsFrom {B : Nat} (s : St H w0 (bs ++ Sx.tailOf B W) W') : KeepsFrom B W W' := by
 refine ⟨?_,fun k o hk ho hc => ?_⟩
 ·exact (s.own _ (List.mem_append_right _ (List.mem_cons_self ..))).1
 ·have hm : Res.obj k o ∈ Sx.tailOf B W := by
   refine List.mem_cons_of_mem _ (List.mem_filterMap.2 ⟨k,List.mem_range'_1.2 ?_,?_⟩)
   ·have := block_lt ho
    omega
   ·rw [ho];simp [hc]
  exact ((s.own _ (List.mem_append_right _ hm)).1).2
def KpH (H : Hp) (W W' : World) : Prop := Agr H W → Agr H W'
def rE {α Z : Type} (C : List α → Z → Prop) (rs : Z → List Res) (H : Hp) (w0 : World) (tl : List Res) (xs : List α) : Exit → Act → World → Prop
 | .normal,_,W => ∃ z,C xs z ∧ St H w0 (rs z ++ tl) W
 | _,_,_ => False
theorem At.rE {α Z : Type} {C : List α → Z → Prop} {rs : Z → List Res} {tl : List Res} {xs : List α} {dfs : List Deferred} {n : Nat} {L : Sl} {H' : Hp} (z : Z) (u : Up H H') (hz : C xs z) (hb : bs = rs z ++ tl) :
 At dfs n L H' w0 bs (Sx.rE C rs H w0 tl xs .normal) := fun a W f s => ⟨z,hz,by rw [← hb];exact s.less u⟩
end
/-! ### A function with a range over a function in it -/
section
variable {P : Program} {n : Nat} {L : Sl} {H : Hp} {w0 : World} {bs bs' : List Res} {fn : Func} {R : Ending → World → Prop} {v : Value} {D : Nat}
theorem enterM {f : FuncId} {c : Code} {args : List Value} {w : World} (hf : P.funcs[f]? = some fn) (hb : fn.body = some c) (hn : fn.ntmps = n) (hl : Nat.ble args.length n = true) (hA : Agr H w)
 (h : At [] n (slots 0 args) H w [] (c.wp P (bodyPostM Fence.wide 9 P fn R))) : Calls P f args.toArray w R := by
 refine callsIn_wide.1 (callsIn_of_wp_marks (n := 9) hf hb trivial (wpIn_wide.2 (h _ _ ⟨?_,rfl,?_⟩ (.start hA))))
 ·have : args.length ≤ n := Nat.le_of_ble_eq_true hl
  simp [hn];omega
 ·intro t v e
  obtain ⟨_,h2⟩ := slots_at args 0 t v e
  rw [Nat.sub_zero] at h2
  have hlt : t < args.length := (List.getElem?_eq_some_iff.1 h2).1
  rw [Array.getD_eq_getD_getElem?]
  rw [Array.getElem?_append_left (by simpa using hlt)]
  simp [h2]
theorem St.shut {W : World} (s : St H w0 bs W) (u : Upd bs (.obj D (.deferred (some []))) (.obj D (.deferred none)) bs') : St H w0 bs' (W.putObj D (.deferred none)) := by
 obtain ⟨h1,h2⟩ := (s.own _ u.mem).1
 have hlt := block_lt h2
 have e := s.ext
 refine s.upd u ?_ (by simp [World.putObj]) ?_ ⟨h1,World.putObj_heap_same hlt⟩ (fun b e => .inl e)
 ·unfold Ext at e ⊢
  exact e.grown (grownBy_putObj' W D _) (by omega) (fun k e => by cases e;exact h1)
 ·intro b _ hne
  exact World.putObj_heap_other (fun h => hne (by rw [h];rfl))
theorem ret0M {e : Exit} (he : e = .ret ∨ e = .normal) (h : At [] n L H w0 bs (bodyPost P fn R e)) : At [] n L H w0 bs (bodyPostM Fence.wide 9 P fn R e) := by
 intro a W f s
 obtain ⟨h1,v,h2,h3⟩ : bodyPost P fn R .ret a W := by rcases he with rfl | rfl <;> exact h a W f s
 have h4 : LeavesInM Fence.wide 9 P fn a.tmps R a.defers .returning W := by
  rw [h1]
  exact ⟨v,h2,h3⟩
 rcases he with rfl | rfl <;> exact h4
theorem retM {e : Exit} (he : e = .ret ∨ e = .normal) (u : Upd bs (.obj D (.deferred (some []))) (.obj D (.deferred none)) bs') (h : At [] n L H w0 bs' (bodyPost P fn R .ret)) :
 At [{ target := .collected D,args := #[] }] n L H w0 bs (bodyPostM Fence.wide 9 P fn R e) := by
 intro a W f s
 obtain ⟨_,v,h2,h3⟩ := h { a with defers := [] } _ ⟨f.size,rfl,f.slot⟩ (s.shut u)
 have h4 : LeavesInM Fence.wide 9 P fn a.tmps R a.defers .returning W := by
  rw [f.defers]
  exact ⟨(by intro e;cases e),.inl ⟨D,_,rfl,run_takeDeferred (s.own _ u.mem).1.2,v,h2,h3⟩⟩
 rcases he with rfl | rfl <;> exact h4
end
/-! ### The iterator's side -/
section
variable {dfs : List Deferred} {P : Program} {n m l : Nat} {L : Sl} {H : Hp} {w0 : World} {bs : List Res} {Q : Exit → Act → World → Prop} {ops : Array Oper} {rest : List Oper} {F : Fence}
variable {d : Option Tmp} {ty : TypeId} {pos : String} {aft : Array Edge} {g : Option (Nat × Bool)} {t : Tmp} {x : Operand} {xs : List Operand} {vs : List Value} {ats : Array TypeId}
theorem Ext.grownBy {W W' : World} (e : Ext W W') : W.grownBy W' none := by
 unfold Ext at e
 exact ⟨e.os,e.tape,e.output,e.size,fun k hk _ => e.block k hk⟩
theorem AbidesFrom.ext {β : Type} {B : Nat} {J : β → World → Prop} (h : AbidesFrom B J) {s : β} {W W' : World} (hs : J s W) (e : Ext W W') : J s W' := h s W W' none hs (Ext.grownBy e) (fun r h => by cases h)
theorem exec_yield {a : Act} {W W' : World} {r : Next} (f0 : ∀ x u,ev L x = some u → a.eval x = u) (hx : ev L x = some (.func (.yield l) #[] #[])) (hv : evs L xs = some vs) (hr : (Instr.yield l vs.toArray).run P W = .ok r W') :
 (execOp a.eval ⟨d,.call ⟨.value x,xs.toArray,ats⟩,ty,pos,aft,g⟩).run P W = .ok r W' := by
 unfold execOp
 simp [resolve,Deferred.ofValue,f0 _ _ hx,invoke,evs_map f0 hv,hr]
theorem At.yd [hF : FW F] {J Jx : World → Prop} (hx : ev L x = some (.func (.yield l) #[] #[])) (hv : evs L xs = some vs) (ht : Nat.blt t n = true)
 (hy : ∀ W,St H w0 bs W → YieldAt F (m - 1) P l vs.toArray W fun e W' => (e = .returned (.bool true) ∧ J W' ∧ KpH H W W') ∨ (e = .returned (.bool false) ∧ Jx W'))
 (h1 : ∀ w1,J w1 → At dfs n ((t,.bool true) :: L) H w1 [] (wpListIn F m P ops Q rest))
 (h2 : ∀ w1,Jx w1 → At dfs n ((t,.bool false) :: L) (fun _ => none) w1 [] (wpListIn F m P ops Q rest)) :
 At dfs n L H w0 bs (wpListIn F m P ops Q (⟨some t,.call ⟨.value x,xs.toArray,ats⟩,ty,pos,aft,none⟩ :: rest)) := by
 intro a W f s
 unfold wpListIn
 rw [if_pos (by simp [Region.wanted])]
 unfold Oper.wpIn
 refine ⟨fun f _ => hF.fn f,?_⟩
 rw [Oper.semAt_plain F _ _ (by intro c e;cases e)]
 obtain ⟨fn,tmps,assign,body,hr,hR⟩ := hy W s
 rw [exec_yield (fun x u e => f.ev e) hx hv hr]
 refine ⟨fun e => (by rw [hF.depth] at e;cases e),hR.mono ?_⟩
 rintro e W' (⟨rfl,hj,hk⟩ | ⟨rfl,hj⟩)
 ·exact h1 W' hj _ _ (f.put ht _) (.start (hk s.agr))
 ·exact h2 W' hj _ _ (f.put ht _) (.start (fun b o e => by cases e))
theorem At.lj {c : Code} {X : Type} (L' : X → Sl) (J : X → World → Prop) (C : X → Prop) (μ : X → Nat) (x0 : X) (hC : C x0) (hL : Sub L (L' x0)) (hJ : J x0 w0)
 (round : ∀ x w1,C x → J x w1 → At dfs n (L' x) H w1 [] (c.wp P (Exit.then (fun a W => ∃ y w2,(C y ∧ μ y < μ x) ∧ J y w2 ∧ Fr dfs n (L' y) a ∧ St H w2 [] W) Q))) :
 At dfs n L H w0 [] ((Code.loop c).wp P Q) := by
 intro a W f s
 refine wp_loop_ghost (fun m a W => ∃ x w1,μ x = m ∧ C x ∧ J x w1 ∧ Fr dfs n (L' x) a ∧ St H w1 [] W) _ ⟨x0,w0,rfl,hC,hJ,f.sub hL,s⟩ ?_
 rintro m a W ⟨x,w1,rfl,hx,hj,f,s⟩
 refine wp_mono (round x w1 hx hj a W f s) fun e a' W' q => ?_
 cases e <;> first | exact q | skip
 obtain ⟨y,w2,⟨hy,hlt⟩,hj,fy,sy⟩ := q
 exact ⟨_,hlt,y,w2,rfl,hy,hj,fy,sy⟩
theorem At.aj {X : Type} {J : X → World → Prop} {L' : X → Sl} {C : X → Prop} {μ : X → Nat} {x : X} (y : X) (hC : C y) (hm : μ y < μ x) (hJ : J y w0) (hL : Sub L (L' y)) :
 At dfs n L H w0 [] (fun a W => ∃ y w2,(C y ∧ μ y < μ x) ∧ J y w2 ∧ Fr dfs n (L' y) a ∧ St H w2 [] W) := fun _ W f s => ⟨y,w0,⟨hC,hm⟩,hJ,f.sub hL,s⟩
theorem seqStops {α : Type} {gf : Nat} {lb : List Value} {enc : α → Value} {S : List α → Prop} {N : Nat} {w : World} {fn : Func} {c : Code} (hf : P.funcs[gf]? = some fn) (hb : fn.body = some c) (hn : fn.ntmps = n) (hl : Nat.ble (lb.length + 1) n = true)
 (hA : ∀ W,Ext w W → Agr H W)
 (h : ∀ l (J Jx : List α → World → Prop) W,(∀ s A B,J s A → Ext A B → J s B) → (∀ s A B,Jx s A → Ext A B → Jx s B) →
  (∀ pre x W1,J pre W1 → pre.length < N → YieldAt Fence.wide 7 P l #[enc x] W1 fun e W' => (e = .returned (.bool true) ∧ J (pre ++ [x]) W' ∧ KpH H W1 W') ∨ (e = .returned (.bool false) ∧ Jx (pre ++ [x]) W')) →
  J [] W → At [] n (slots 0 (.func (.yield l) #[] #[] :: lb)) H W [] (c.wp P (bodyPost P fn fun e W' => (∃ v,e = .returned v) ∧ ((∃ xs,S xs ∧ J xs W') ∨ (∃ pre,True ∧ Jx pre W'))))) :
 SeqStopsK Fence.wide 8 P gf lb.toArray (fun x => #[enc x]) (KpH H) S (fun _ => True) N w := by
 intro l J Jx W hW hJ hJx hY h0
 refine callsIn_wide.2 ?_
 have : (#[Value.func (.yield l) #[] #[]] ++ lb.toArray : Array Value) = (Value.func (.yield l) #[] #[] :: lb).toArray := by simp
 rw [this]
 exact enter hf hb hn hl (hA W (by unfold Ext;exact hW)) (h l J Jx W (fun s A B h e => Sx.AbidesFrom.ext hJ h e) (fun s A B h e => Sx.AbidesFrom.ext hJx h e) hY h0)
end
theorem Res.ok.base {b c : Nat} {W : World} {x : Res} (h : x.ok c W) (hb : b ≤ c) : x.ok b W := by
 cases x with
 | box d l t => exact ⟨Nat.le_trans hb h.1,h.2⟩
 | obj d o => exact ⟨Nat.le_trans hb h.1,h.2⟩
 | big d => exact h
 | row et size v n xs =>
  obtain ⟨hl,⟨rfl,h0⟩ | ⟨g,cap,cur,rfl,hg,hc,hr⟩⟩ := h
  ·exact ⟨hl,.inl ⟨rfl,h0⟩⟩
  ·exact ⟨hl,.inr ⟨g,cap,cur,rfl,Nat.le_trans hb hg,hc,hr⟩⟩
theorem St.join {H H' : Hp} {w0 W W' : World} {bs bs' : List Res} (s : St H w0 bs W) (u : HUp W H H') (k : St H' W bs' W') : St H' w0 (bs' ++ bs) W' := by
 refine ⟨s.ext.trans k.ext,k.agr,fun x hx => ?_,List.pairwise_append.2 ⟨k.apart,s.apart,fun x hx y hy b e e' => ?_⟩⟩
 ·rcases List.mem_append.1 hx with hx | hx
  ·exact ⟨(k.own x hx).1.base s.ext.size,(k.own x hx).2⟩
  ·exact ⟨(s.own x hx).1.ext k.ext,fun b e => u.new b ((s.own x hx).2 b e) ((s.own x hx).1.lt e).2⟩
 ·have h1 := ((k.own x hx).1.lt e).1
  have h2 := ((s.own y hy).1.lt e').2
  omega
section
variable {dfs : List Deferred} {P : Program} {L : Sl} {H : Hp} {w0 : World} {bs : List Res} {ops : Array Oper}
variable {ty : TypeId} {pos : String} {aft : Array Edge} {t : Tmp} {x : Operand}
variable {N hn i k : Nat} {pa : List (Nat × Oper × Value)} {E : Sl → Hp → List Res → Prop} {r : List (Nat × Nat × Oper)}
theorem FlowP.v3 {X : Type} {f : FuncId} {xs : List Operand} {vs fi ca : List Value} {ats : Array TypeId} {C : X → Prop} {val : X → Value} {H' : X → Hp} {bs' : X → List Res} (hx : ev L x = some (.func (.func f) fi.toArray ca.toArray)) (hf : callN P f = true) (hv : evs L xs = some vs)
 (hc : ∀ W,St H w0 bs W → Calls P f (fi ++ vs ++ ca).toArray W fun e W' => ∃ x,C x ∧ e = .returned (val x) ∧ St (H' x) w0 (bs' x) W') (ht : Nat.blt t N = true)
 (hr : ∀ x,C x → RedoP dfs P ops hn w0 N L (H' x) (bs' x) i pa) (h : ∀ x,C x → FlowP dfs P ops hn w0 N E r pa ((t,val x) :: L) (H' x) (bs' x)) : FlowP dfs P ops hn w0 N E ((i,3,⟨some t,.call ⟨.value x,xs.toArray,ats⟩,ty,pos,aft,none⟩) :: r) pa L H bs :=
 ⟨blt_of ht,callSV hx hf hv hc ht fun x hx => FlowP.into (.inr<|.inr<|hr x hx) (h x hx)⟩
end
end Go.Sx
namespace Go.Proofs.YthhoebdlfjffkaaGreatDoor
open Go.RowKit Go.Par Go.Sx
theorem Fx.bsl52_25 (x0 : ByteArray) (x1 : ByteArray) (x2 : ByteArray) (x3 : ByteArray) (x4 : ByteArray) (x5 : ByteArray) (x6 : ByteArray) (x7 : ByteArray) (x8 : ByteArray) (x9 : ByteArray) (x10 : ByteArray) (x11 : ByteArray) (x12 : ByteArray) (x13 : ByteArray) (x14 : ByteArray) (x15 : ByteArray) (x16 : ByteArray) (x17 : ByteArray) (x18 : ByteArray) (x19 : ByteArray) (x20 : ByteArray) (x21 : ByteArray) (x22 : ByteArray) (x23 : ByteArray) (x24 : ByteArray) : bslN Tryz.prog 52 25 [(0,.string x0),(1,.string x1),(2,.string x2),(3,.string x3),(4,.string x4),(5,.string x5),(6,.string x6),(7,.string x7),(8,.string x8),(9,.string x9),(10,.string x10),(11,.string x11),(12,.string x12),(13,.string x13),(14,.string x14),(15,.string x15),(16,.string x16),(17,.string x17),(18,.string x18),(19,.string x19),(20,.string x20),(21,.string x21),(22,.string x22),(23,.string x23),(24,.string x24)] = some (9,[.string x0,.string x1,.string x2,.string x3,.string x4,.string x5,.string x6,.string x7,.string x8,.string x9,.string x10,.string x11,.string x12,.string x13,.string x14,.string x15,.string x16,.string x17,.string x18,.string x19,.string x20,.string x21,.string x22,.string x23,.string x24]) := by kernel_rfl
theorem Fx.bsl52_39 (x0 : ByteArray) (x1 : ByteArray) (x2 : ByteArray) (x3 : ByteArray) (x4 : ByteArray) (x5 : ByteArray) (x6 : ByteArray) (x7 : ByteArray) (x8 : ByteArray) (x9 : ByteArray) (x10 : ByteArray) (x11 : ByteArray) (x12 : ByteArray) (x13 : ByteArray) (x14 : ByteArray) (x15 : ByteArray) (x16 : ByteArray) (x17 : ByteArray) (x18 : ByteArray) (x19 : ByteArray) (x20 : ByteArray) (x21 : ByteArray) (x22 : ByteArray) (x23 : ByteArray) (x24 : ByteArray) (x25 : ByteArray) (x26 : ByteArray) (x27 : ByteArray) (x28 : ByteArray) (x29 : ByteArray) (x30 : ByteArray) (x31 : ByteArray) (x32 : ByteArray) (x33 : ByteArray) (x34 : ByteArray) (x35 : ByteArray) (x36 : ByteArray) (x37 : ByteArray) (x38 : ByteArray) : bslN Tryz.prog 52 39 [(0,.string x0),(1,.string x1),(2,.string x2),(3,.string x3),(4,.string x4),(5,.string x5),(6,.string x6),(7,.string x7),(8,.string x8),(9,.string x9),(10,.string x10),(11,.string x11),(12,.string x12),(13,.string x13),(14,.string x14),(15,.string x15),(16,.string x16),(17,.string x17),(18,.string x18),(19,.string x19),(20,.string x20),(21,.string x21),(22,.string x22),(23,.string x23),(24,.string x24),(25,.string x25),(26,.string x26),(27,.string x27),(28,.string x28),(29,.string x29),(30,.string x30),(31,.string x31),(32,.string x32),(33,.string x33),(34,.string x34),(35,.string x35),(36,.string x36),(37,.string x37),(38,.string x38)] = some (9,[.string x0,.string x1,.string x2,.string x3,.string x4,.string x5,.string x6,.string x7,.string x8,.string x9,.string x10,.string x11,.string x12,.string x13,.string x14,.string x15,.string x16,.string x17,.string x18,.string x19,.string x20,.string x21,.string x22,.string x23,.string x24,.string x25,.string x26,.string x27,.string x28,.string x29,.string x30,.string x31,.string x32,.string x33,.string x34,.string x35,.string x36,.string x37,.string x38]) := by kernel_rfl
theorem Fx.agg133 : aggN Tryz.prog 133 = Option.some (Option.some 3) := by kernel_rfl
theorem Fx.call131 : callN Tryz.prog 131 = Bool.true := by kernel_rfl
theorem Fx.call132 : callN Tryz.prog 132 = Bool.true := by kernel_rfl
theorem Fx.call133 : callN Tryz.prog 133 = Bool.true := by kernel_rfl
theorem Fx.call134 : callN Tryz.prog 134 = Bool.true := by kernel_rfl
theorem Fx.size133 : sizeN Tryz.prog 133 = Option.some 3 := by kernel_rfl
theorem Fx.zero133 : zeroN Tryz.prog 133 = Option.some
 [Go.Value.int Go.IntKind.i64 (Int.ofNat 0),Go.Value.string { data := { toList := [] } },
  Go.Value.int Go.IntKind.i64 (Int.ofNat 0)] := by kernel_rfl
theorem Fx.bld133_0_1_2 (x0 : Int) (x1 : ByteArray) (x2 : Int) : buildN Tryz.prog 133 [(0,.int .i64 x0),(1,.string x1),(2,.int .i64 x2)] = some [.int .i64 x0,.string x1,.int .i64 x2] := by kernel_rfl
theorem Fx.call92 : callN Tryz.prog 92 = Bool.true := by kernel_rfl
theorem Fx.call93 : callN Tryz.prog 93 = Bool.true := by kernel_rfl
theorem Fx.field133_1 : fieldN Tryz.prog 133 1 = Option.some 1 := by kernel_rfl
theorem Fx.row73 : rowN Tryz.prog 73 = Option.some (133,3,32) := by kernel_rfl
theorem Fx.bsl73_1 (x00 x01 x02 : Value) : bslN Tryz.prog 73 1 [(0,.agg [x00,x01,x02].toArray)] = some (133,[x00,x01,x02]) := by kernel_rfl
theorem Fx.call13 : callN Tryz.prog 13 = Bool.true := by kernel_rfl
theorem Fx.call28 : callN Tryz.prog 28 = Bool.true := by kernel_rfl
theorem Fx.agg28 : aggN Tryz.prog 28 = Option.some Option.none := by kernel_rfl
theorem Fx.agg94 : aggN Tryz.prog 94 = Option.some Option.none := by kernel_rfl
theorem Fx.agg96 : aggN Tryz.prog 96 = Option.some (Option.some 3) := by kernel_rfl
theorem Fx.agg97 : aggN Tryz.prog 97 = Option.some Option.none := by kernel_rfl
theorem Fx.call50 : callN Tryz.prog 50 = Bool.true := by kernel_rfl
theorem Fx.call72 : callN Tryz.prog 72 = Bool.true := by kernel_rfl
theorem Fx.call73 : callN Tryz.prog 73 = Bool.true := by kernel_rfl
theorem Fx.call91 : callN Tryz.prog 91 = Bool.true := by kernel_rfl
theorem Fx.call118 : callN Tryz.prog 118 = Bool.true := by kernel_rfl
theorem Fx.field96_0 : fieldN Tryz.prog 96 0 = Option.some 0 := by kernel_rfl
theorem Fx.field96_1 : fieldN Tryz.prog 96 1 = Option.some 1 := by kernel_rfl
theorem Fx.field99_0 : fieldN Tryz.prog 99 0 = Option.some 0 := by kernel_rfl
theorem Fx.field99_1 : fieldN Tryz.prog 99 1 = Option.some 1 := by kernel_rfl
theorem Fx.field99_2 : fieldN Tryz.prog 99 2 = Option.some 2 := by kernel_rfl
theorem Fx.field99_4 : fieldN Tryz.prog 99 4 = Option.some 7 := by kernel_rfl
theorem Fx.field99_5 : fieldN Tryz.prog 99 5 = Option.some 8 := by kernel_rfl
theorem Fx.size28 : sizeN Tryz.prog 28 = Option.some 1 := by kernel_rfl
theorem Fx.size96 : sizeN Tryz.prog 96 = Option.some 3 := by kernel_rfl
theorem Fx.sl97 : slN Tryz.prog 97 = Option.some 3 := by kernel_rfl
theorem Fx.zero96 : zeroN Tryz.prog 96 = Option.some
 [Go.Value.int Go.IntKind.u8 (Int.ofNat 0),Go.Value.string { data := { toList := [] } },
  Go.Value.int Go.IntKind.i64 (Int.ofNat 0)] := by kernel_rfl
theorem Fx.bld96_2 (x2 : Int) : buildN Tryz.prog 96 [(2,.int .i64 x2)] = some [.int .u8 0,.string ⟨#[]⟩,.int .i64 x2] := by kernel_rfl
end Go.Proofs.YthhoebdlfjffkaaGreatDoor
