/- Texts of the proof, one behind the other. -/
import Derived.Test.YtmbiojpcidccjaaGreatDoorMe
set_option linter.all false
namespace Go.Proofs.YtmbiojpcidccjaaGreatDoor
open Go.RowKit Go.Par Go.Sx
theorem shape_nm (op : UInt8) : (shapeOf op).nm = (decide (5 ≤ op.toNat) && decide (op.toNat ≤ 8)) := by
 have key : ∀ i ∈ List.range 256,(shapeOf (UInt8.ofNat i)).nm = (decide (5 ≤ i) && decide (i ≤ 8)) := by decide +kernel
 have h := key op.toNat (List.mem_range.2 op.toNat_lt)
 rwa [UInt8.ofNat_toNat] at h
theorem nam_iff (op : UInt8) (nm : Str) (n : Int64) (args : List Ex) : namE (.mk op nm n args) = true ↔ ¬ ((5 ≤ (op.toNat : Int) ∧ (op.toNat : Int) ≤ 8) ∧ nameB nm = false) := by
 rw [namE,shape_nm]
 cases nameB nm with
 | true => simp
 | false => simp only [Bool.or_false,Bool.not_eq_true',Bool.and_eq_false_iff,decide_eq_false_iff_not,and_true];omega
set_option maxRecDepth 100000 in
theorem exprNames_any (H : Hp) (e : Ex) : ∀ (cs : List Value) (w : World),Rep H (dEx .i64 e) cs → Agr H w →
 Calls Tryz.prog 104 #[.agg cs.toArray] w fun r w' => r = .returned (.bool (e.all namE)) ∧ Ext w w' := by
 induction e using Ex.ind with | _ op nm nn args ih
 intro cs w h hA
 obtain ⟨p,c,rfl,hs,hnm⟩ := ex_open h
 have hcap := hs.cap
 skip
 refine Sx.enter (H := H) Tryz.func104 rfl Tryz.ntmps104 rfl hA ?_
 refine .sr<|.bx Z Z Z fun b1 => .a Z Z<|.nt<|.sq<|.sr<|.yv (.fieldAddr Z Fx.field51_0) Z<|.yv (.load Z Fx.agg3 (.head _) Z) Z<|.yv (.geq Z Z) Z<|.m Z Z<|.b2 (fun h8 => ?_) (fun h8 => ?_)
 ·try simp only [dt] at h8
  refine .gd Z Z<|.yv (.fieldAddr Z Fx.field51_0) Z<|.gd Z Z<|.yv (.load Z Fx.agg3 (.head _) Z) Z<|.gd Z Z<|.yv (.leq Z Z) Z<|.yv (.pickT Z Z) Z<|.m Z Z<|.b2 (fun h13 => ?_) (fun h13 => ?_)
  ·try simp only [dt] at h13
   refine .gd Z Z<|.yv (.fieldAddr Z Fx.field51_1) Z<|.gd Z Z<|.yv (.load Z Fx.agg9 (.head _) Z) Z<|.gd Z Z<|.yv (.call Fx.call68 Z (fun W s => isNameR_any H nm hnm W s.agr)) Z<|.gd Z Z<|.yv (.not Z) Z<|.yv (.pickT Z Z) Z<|.nt<|.cd Z (fun h18 => ?_) (fun h18 => ?_)
   ·skip
    refine .sr<|.a Z Z<|.nt<|.rt<|.tR<|?_
    refine Sx.ret1 (.inl rfl) rfl (.tmp rfl) fun W s => ⟨retB ?_,s.ext⟩
    first
     | (rw [all_mk,show namE (.mk op nm nn args) = false from Bool.eq_false_iff.2 fun e => (nam_iff op nm nn args).1 e ⟨⟨by omega,by omega⟩,by simpa using h18⟩];simp)
     | (rw [all_mk,alls_bad hk (by simpa using h28)];simp)
     | (rw [all_mk,hal,Bool.and_true,show namE (.mk op nm nn args) = true from (nam_iff op nm nn args).2 (by rintro ⟨⟨a,b⟩,d⟩;first | omega | (simp [d] at h18))])
   skip
   refine .sk<|.tN<|.sq<|.sr<|.yv (.fieldAddr Z Fx.field51_3) Z<|.yv (.load Z Fx.agg49 (.head _) Z) Z<|.yv (.lenSl Fx.sl49 Z) Z<|.m Z Z<|.nt<|.bk<|.lp (X := Nat) [(20,_),(21,_)] ⟨rfl,rfl,trivial⟩ [_] (fun k => [(22,.int .i64 (k : Nat))]) (fun k => H) (fun k => []) (fun k => k ≤ args.length ∧ Ex.alls namE (args.take k) = true) (fun k => args.length - k) 0 (fun _ s => s) ⟨rfl,trivial⟩ ⟨by omega,rfl⟩ fun k hC => ?_
   obtain ⟨hk0,hal⟩ := hC
   refine .sr<|.yv (.lss Z Z) Z<|.nt<|.sq<|.cd Z (fun h23 => ?_) (fun h23 => ?_)
   ·try simp only [dt] at h23
    have hk : k < args.length := by omega
    obtain ⟨bE,oE,cE,hpE,rE,lE,mE⟩ := hs.elem (map_at hk)
    cases hpE
    refine .sk<|.tN<|.sq<|.bk<|.sr<|.yv (.indexSl Fx.sl49 Z Z Z (by omega) (q := oE + k * 4) Z) Z<|.yv (.loadMW Z Fx.agg51 mE lE) Z<|.al Fx.zero51 Z fun b4 => .sV .head Z Z Fx.size51 lE rE.one Z<|.ns<|.yv (.loadW Z Fx.agg51 (.head _) lE) Z<|.yv (.call Fx.call104 Z (fun W s => ih _ (List.getElem_mem hk) cE W rE s.agr)) Z<|.yv (.not Z) Z<|.nt<|.cd Z (fun h28 => ?_) (fun h28 => ?_)
    ·skip
     refine .sr<|.a Z Z<|.nt<|.rt<|.bR<|.tR<|.tR<|.bR<|.tR<|?_
     refine Sx.ret1 (.inl rfl) rfl (.tmp rfl) fun W s => ⟨retB ?_,s.ext⟩
     first
      | (rw [all_mk,show namE (.mk op nm nn args) = false from Bool.eq_false_iff.2 fun e => (nam_iff op nm nn args).1 e ⟨⟨by omega,by omega⟩,by simpa using h18⟩];simp)
      | (rw [all_mk,alls_bad hk (by simpa using h28)];simp)
      | (rw [all_mk,hal,Bool.and_true,show namE (.mk op nm nn args) = true from (nam_iff op nm nn args).2 (by rintro ⟨⟨a,b⟩,d⟩;first | omega | (simp [d] at h18))])
    skip
    exact .sk<|.bN<|.tN<|.rg<|.yv (.add Z Z (w6 (by omega))) Z<|.m Z Z<|.nt<|.ag (k + 1) ⟨rfl,trivial⟩ ⟨rfl,rfl,trivial⟩ (fun _ s => s.pick [1] [_] Z Z) ⟨by omega,by rw [alls_succ hk,hal];simpa using h28⟩ (by omega)
   try simp only [df] at h23
   obtain rfl : k = args.length := by omega
   rw [List.take_length] at hal
   refine .ex<|.tE<|.tE<|.bE<|.tN<|.sr<|.a Z Z<|.nt<|.rt<|?_
   refine Sx.ret1 (.inl rfl) rfl (.tmp rfl) fun W s => ⟨retB ?_,s.ext⟩
   first
    | (rw [all_mk,show namE (.mk op nm nn args) = false from Bool.eq_false_iff.2 fun e => (nam_iff op nm nn args).1 e ⟨⟨by omega,by omega⟩,by simpa using h18⟩];simp)
    | (rw [all_mk,alls_bad hk (by simpa using h28)];simp)
    | (rw [all_mk,hal,Bool.and_true,show namE (.mk op nm nn args) = true from (nam_iff op nm nn args).2 (by rintro ⟨⟨a,b⟩,d⟩;first | omega | (simp [d] at h18))])
  try simp only [df] at h13
  refine .gF Z Z Z Z<|.gF Z Z Z Z<|.gF Z Z Z Z<|.gF Z Z Z Z<|.yv (.pickF Z Z) Z<|.nt<|.cF Z<|.sk<|.tN<|.sq<|.sr<|.yv (.fieldAddr Z Fx.field51_3) Z<|.yv (.load Z Fx.agg49 (.head _) Z) Z<|.yv (.lenSl Fx.sl49 Z) Z<|.m Z Z<|.nt<|.bk<|.lp (X := Nat) [(20,_),(21,_)] ⟨rfl,rfl,trivial⟩ [_] (fun k => [(22,.int .i64 (k : Nat))]) (fun k => H) (fun k => []) (fun k => k ≤ args.length ∧ Ex.alls namE (args.take k) = true) (fun k => args.length - k) 0 (fun _ s => s) ⟨rfl,trivial⟩ ⟨by omega,rfl⟩ fun k hC => ?_
  obtain ⟨hk0,hal⟩ := hC
  refine .sr<|.yv (.lss Z Z) Z<|.nt<|.sq<|.cd Z (fun h23 => ?_) (fun h23 => ?_)
  ·try simp only [dt] at h23
   have hk : k < args.length := by omega
   obtain ⟨bE,oE,cE,hpE,rE,lE,mE⟩ := hs.elem (map_at hk)
   cases hpE
   refine .sk<|.tN<|.sq<|.bk<|.sr<|.yv (.indexSl Fx.sl49 Z Z Z (by omega) (q := oE + k * 4) Z) Z<|.yv (.loadMW Z Fx.agg51 mE lE) Z<|.al Fx.zero51 Z fun b4 => .sV .head Z Z Fx.size51 lE rE.one Z<|.ns<|.yv (.loadW Z Fx.agg51 (.head _) lE) Z<|.yv (.call Fx.call104 Z (fun W s => ih _ (List.getElem_mem hk) cE W rE s.agr)) Z<|.yv (.not Z) Z<|.nt<|.cd Z (fun h28 => ?_) (fun h28 => ?_)
   ·skip
    refine .sr<|.a Z Z<|.nt<|.rt<|.bR<|.tR<|.tR<|.bR<|.tR<|?_
    refine Sx.ret1 (.inl rfl) rfl (.tmp rfl) fun W s => ⟨retB ?_,s.ext⟩
    first
     | (rw [all_mk,show namE (.mk op nm nn args) = false from Bool.eq_false_iff.2 fun e => (nam_iff op nm nn args).1 e ⟨⟨by omega,by omega⟩,by simpa using h18⟩];simp)
     | (rw [all_mk,alls_bad hk (by simpa using h28)];simp)
     | (rw [all_mk,hal,Bool.and_true,show namE (.mk op nm nn args) = true from (nam_iff op nm nn args).2 (by rintro ⟨⟨a,b⟩,d⟩;first | omega | (simp [d] at h18))])
   skip
   exact .sk<|.bN<|.tN<|.rg<|.yv (.add Z Z (w6 (by omega))) Z<|.m Z Z<|.nt<|.ag (k + 1) ⟨rfl,trivial⟩ ⟨rfl,rfl,trivial⟩ (fun _ s => s.pick [1] [_] Z Z) ⟨by omega,by rw [alls_succ hk,hal];simpa using h28⟩ (by omega)
  try simp only [df] at h23
  obtain rfl : k = args.length := by omega
  rw [List.take_length] at hal
  refine .ex<|.tE<|.tE<|.bE<|.tN<|.sr<|.a Z Z<|.nt<|.rt<|?_
  refine Sx.ret1 (.inl rfl) rfl (.tmp rfl) fun W s => ⟨retB ?_,s.ext⟩
  first
   | (rw [all_mk,show namE (.mk op nm nn args) = false from Bool.eq_false_iff.2 fun e => (nam_iff op nm nn args).1 e ⟨⟨by omega,by omega⟩,by simpa using h18⟩];simp)
   | (rw [all_mk,alls_bad hk (by simpa using h28)];simp)
   | (rw [all_mk,hal,Bool.and_true,show namE (.mk op nm nn args) = true from (nam_iff op nm nn args).2 (by rintro ⟨⟨a,b⟩,d⟩;first | omega | (simp [d] at h18))])
 try simp only [df] at h8
 refine .gF Z Z Z Z<|.gF Z Z Z Z<|.gF Z Z Z Z<|.yv (.pickF Z Z) Z<|.m Z Z<|.gF Z Z Z Z<|.gF Z Z Z Z<|.gF Z Z Z Z<|.gF Z Z Z Z<|.yv (.pickF Z Z) Z<|.nt<|.cF Z<|.sk<|.tN<|.sq<|.sr<|.yv (.fieldAddr Z Fx.field51_3) Z<|.yv (.load Z Fx.agg49 (.head _) Z) Z<|.yv (.lenSl Fx.sl49 Z) Z<|.m Z Z<|.nt<|.bk<|.lp (X := Nat) [(20,_),(21,_)] ⟨rfl,rfl,trivial⟩ [_] (fun k => [(22,.int .i64 (k : Nat))]) (fun k => H) (fun k => []) (fun k => k ≤ args.length ∧ Ex.alls namE (args.take k) = true) (fun k => args.length - k) 0 (fun _ s => s) ⟨rfl,trivial⟩ ⟨by omega,rfl⟩ fun k hC => ?_
 obtain ⟨hk0,hal⟩ := hC
 refine .sr<|.yv (.lss Z Z) Z<|.nt<|.sq<|.cd Z (fun h23 => ?_) (fun h23 => ?_)
 ·try simp only [dt] at h23
  have hk : k < args.length := by omega
  obtain ⟨bE,oE,cE,hpE,rE,lE,mE⟩ := hs.elem (map_at hk)
  cases hpE
  refine .sk<|.tN<|.sq<|.bk<|.sr<|.yv (.indexSl Fx.sl49 Z Z Z (by omega) (q := oE + k * 4) Z) Z<|.yv (.loadMW Z Fx.agg51 mE lE) Z<|.al Fx.zero51 Z fun b4 => .sV .head Z Z Fx.size51 lE rE.one Z<|.ns<|.yv (.loadW Z Fx.agg51 (.head _) lE) Z<|.yv (.call Fx.call104 Z (fun W s => ih _ (List.getElem_mem hk) cE W rE s.agr)) Z<|.yv (.not Z) Z<|.nt<|.cd Z (fun h28 => ?_) (fun h28 => ?_)
  ·skip
   refine .sr<|.a Z Z<|.nt<|.rt<|.bR<|.tR<|.tR<|.bR<|.tR<|?_
   refine Sx.ret1 (.inl rfl) rfl (.tmp rfl) fun W s => ⟨retB ?_,s.ext⟩
   first
    | (rw [all_mk,show namE (.mk op nm nn args) = false from Bool.eq_false_iff.2 fun e => (nam_iff op nm nn args).1 e ⟨⟨by omega,by omega⟩,by simpa using h18⟩];simp)
    | (rw [all_mk,alls_bad hk (by simpa using h28)];simp)
    | (rw [all_mk,hal,Bool.and_true,show namE (.mk op nm nn args) = true from (nam_iff op nm nn args).2 (by rintro ⟨⟨a,b⟩,d⟩;first | omega | (simp [d] at h18))])
  skip
  exact .sk<|.bN<|.tN<|.rg<|.yv (.add Z Z (w6 (by omega))) Z<|.m Z Z<|.nt<|.ag (k + 1) ⟨rfl,trivial⟩ ⟨rfl,rfl,trivial⟩ (fun _ s => s.pick [1] [_] Z Z) ⟨by omega,by rw [alls_succ hk,hal];simpa using h28⟩ (by omega)
 try simp only [df] at h23
 obtain rfl : k = args.length := by omega
 rw [List.take_length] at hal
 refine .ex<|.tE<|.tE<|.bE<|.tN<|.sr<|.a Z Z<|.nt<|.rt<|?_
 refine Sx.ret1 (.inl rfl) rfl (.tmp rfl) fun W s => ⟨retB ?_,s.ext⟩
 first
  | (rw [all_mk,show namE (.mk op nm nn args) = false from Bool.eq_false_iff.2 fun e => (nam_iff op nm nn args).1 e ⟨⟨by omega,by omega⟩,by simpa using h18⟩];simp)
  | (rw [all_mk,alls_bad hk (by simpa using h28)];simp)
  | (rw [all_mk,hal,Bool.and_true,show namE (.mk op nm nn args) = true from (nam_iff op nm nn args).2 (by rintro ⟨⟨a,b⟩,d⟩;first | omega | (simp [d] at h18))])
theorem frm_iff (op : UInt8) (nm : Str) (n : Int64) (args : List Ex) : frmE (.mk op nm n args) = true ↔ ¬ (¬ arR op.toNat = (args.length : Int)) ∧ ¬ (¬ ((op.toNat : Int) = 1) ∧ ¬ n.toInt = 0) ∧ ¬ n.toInt < 0 ∧ ¬ (((op.toNat : Int) < 5 ∨ 8 < (op.toNat : Int)) ∧ ¬ nm = []) := by
 rw [arR_ok,frmE,shape_nm]
 simp only [Bool.and_eq_true,Bool.or_eq_true,decide_eq_true_eq]
 have h1 : op = 1 ↔ (op.toNat : Int) = 1 := ⟨fun e => by rw [e];rfl,fun e => UInt8.toNat_inj.1 (by show op.toNat = 1;omega)⟩
 cases ho : okOp op with
 | false =>
  simp only [Bool.false_eq_true,if_false,false_and,false_iff]
  intro h;omega
 | true =>
  simp only [if_true,true_and]
  by_cases e1 : op = 1
  ·simp only [if_pos e1,decide_eq_true_eq]
   have := h1.1 e1
   constructor
   ·rintro ⟨⟨a,b⟩,c⟩
    refine ⟨by omega,by omega,by omega,?_⟩
    rintro ⟨d1,d2⟩
    rcases b with b | b
    ·omega
    ·exact d2 b
   ·rintro ⟨a,b,c,d⟩
    refine ⟨⟨by omega,?_⟩,by omega⟩
    by_cases hn : nm = []
    ·exact .inr hn
    ·exact absurd ⟨.inl (by omega),hn⟩ d
  ·simp only [if_neg e1,decide_eq_true_eq]
   have : ¬ (op.toNat : Int) = 1 := fun e => e1 (h1.2 e)
   constructor
   ·rintro ⟨⟨a,b⟩,c⟩
    refine ⟨by omega,by omega,by omega,?_⟩
    rintro ⟨d1,d2⟩
    rcases b with b | b
    ·omega
    ·exact d2 b
   ·rintro ⟨a,b,c,d⟩
    refine ⟨⟨by omega,?_⟩,by omega⟩
    by_cases hn : nm = []
    ·exact .inr hn
    ·by_cases h5 : (op.toNat : Int) < 5 ∨ 8 < (op.toNat : Int)
     ·exact absurd ⟨h5,hn⟩ d
     ·exact .inl (by omega)
set_option maxRecDepth 100000 in
theorem exprForm_any (H : Hp) (e : Ex) : ∀ (cs : List Value) (w : World),Rep H (dEx .i64 e) cs → Agr H w →
 Calls Tryz.prog 106 #[.agg cs.toArray] w fun r w' => r = .returned (.bool (e.all frmE)) ∧ Ext w w' := by
 induction e using Ex.ind with | _ op nm nn args ih
 intro cs w h hA
 obtain ⟨p,c,rfl,hs,hnm⟩ := ex_open h
 have hcap := hs.cap
 skip
 refine Sx.enter (H := H) Tryz.func106 rfl Tryz.ntmps106 rfl hA ?_
 refine .sr<|.bx Z Z Z fun b1 => .a Z Z<|.nt<|.sq<|.sq<|.fl (trip := [(_,_,_),(_,_,_),(_,_,_),(_,_,_),(_,_,_),(_,_,_),(_,_,_),(_,_,_),(_,_,_),(_,_,_),(_,_,_),(_,_,_),(_,_,_),(_,_,_),(_,_,_),(_,_,_),(_,_,_),(_,_,_),(_,_,_),(_,_,_),(_,_,_),(_,_,_),(_,_,_),(_,_,_),(_,_,_),(_,_,_),(_,_,_),(_,_,_),(_,_,_),(_,_,_),(_,_,_),(_,_,_),(_,_,_),(_,_,_),(_,_,_),(_,_,_)]) 36 [(0,0),(1,0),(2,0),(3,0),(4,0),(5,0),(6,0),(7,0),(8,0),(9,0),(10,0),(11,0),(12,0),(13,0),(14,0),(15,0),(16,0),(17,0),(18,0),(19,0),(20,0),(21,0),(22,0),(23,0),(24,0),(25,0),(26,0),(27,0),(28,0),(29,0),(30,0),(31,0),(32,0),(33,0),(34,0),(35,0)] (by kernel_rfl) (by kernel_rfl) Z<|.yv (.fieldAddr Z Fx.field51_0) Z<|.yv (.load Z Fx.agg3 (.head _) Z) Z<|.yv (.call Fx.call86 Z (fun W s => arity_any H op.toNat W s.agr)) Z<|.yv (.fieldAddr Z Fx.field51_3) Z<|.yv (.load Z Fx.agg49 (.head _) Z) Z<|.yv (.lenSl Fx.sl49 Z) Z<|.yv (.neq Z Z) Z<|.m Z Z<|.b2 (fun h12 => ?_) (fun h12 => ?_)
 ·try simp only [dt] at h12
  refine .gF Z Z Z Z<|.gF Z Z Z Z<|.gF Z Z Z Z<|.gF Z Z Z Z<|.gU Z Z Z<|.gU Z Z Z<|.gU Z Z Z<|.gF Z Z Z Z<|.yv (.pickT Z Z) Z<|.m Z Z<|.gF Z Z Z Z<|.gF Z Z Z Z<|.gF Z Z Z Z<|.yv (.pickT Z Z) Z<|.m Z Z<|.gF Z Z Z Z<|.gF Z Z Z Z<|.gF Z Z Z Z<|.gF Z Z Z Z<|.gU Z Z Z<|.gU Z Z Z<|.gU Z Z Z<|.gF Z Z Z Z<|.gF Z Z Z Z<|.gU Z Z Z<|.gU Z Z Z<|.gU Z Z Z<|.gF Z Z Z Z<|.fn (tl := [_]) Z<|.yv (.pickT Z Z) Z<|.nt<|.cT Z<|.sr<|.a Z Z<|.nt<|.rt<|.tR<|?_
  refine Sx.ret1 (.inl rfl) rfl (.tmp rfl) fun W s => ⟨retB ?_,s.ext⟩
  first
   | (rw [all_mk,show frmE (.mk op nm nn args) = false from Bool.eq_false_iff.2 fun e => by rw [frm_iff] at e;first | (exact e.1 (by assumption)) | (exact e.2.1 ⟨by assumption,by assumption⟩) | (exact e.2.2.1 (by assumption)) | (exact e.2.2.2 ⟨by omega,by assumption⟩)];simp)
   | (rw [all_mk,alls_bad hk (by simpa using h51)];simp)
   | (rw [all_mk,hal,Bool.and_true,show frmE (.mk op nm nn args) = true by rw [frm_iff];exact ⟨by assumption,by omega,by omega,by first | (rintro ⟨_,_⟩;omega) | (rintro ⟨_,_⟩;contradiction)⟩])
 try simp only [df] at h12
 refine .yg Z Z (.fieldAddr Z Fx.field51_0) Z<|.yg Z Z (.load Z Fx.agg3 (.head _) Z) Z<|.yg Z Z (.neq Z Z) Z<|.yg Z Z (.move Z) Z<|.b2 (fun h16 => ?_) (fun h16 => ?_)
 ·try simp only [dt] at h16
  refine .yg Z Z (.fieldAddr Z Fx.field51_2) Z<|.yg Z Z (.load Z Fx.agg2 (.head _) Z) Z<|.yg Z Z (.neq Z Z) Z<|.yg Z Z (.pickT Z Z) Z<|.yv (.pickF Z Z) Z<|.m Z Z<|.b2 (fun h22 => ?_) (fun h22 => ?_)
  ·try simp only [dt] at h22
   refine .gF Z Z Z Z<|.gF Z Z Z Z<|.gF Z Z Z Z<|.yv (.pickT Z Z) Z<|.m Z Z<|.gF Z Z Z Z<|.gF Z Z Z Z<|.gF Z Z Z Z<|.gF Z Z Z Z<|.gU Z Z Z<|.gU Z Z Z<|.gU Z Z Z<|.gF Z Z Z Z<|.gF Z Z Z Z<|.gU Z Z Z<|.gU Z Z Z<|.gU Z Z Z<|.gF Z Z Z Z<|.fn (tl := [_]) Z<|.yv (.pickT Z Z) Z<|.nt<|.cT Z<|.sr<|.a Z Z<|.nt<|.rt<|.tR<|?_
   refine Sx.ret1 (.inl rfl) rfl (.tmp rfl) fun W s => ⟨retB ?_,s.ext⟩
   first
    | (rw [all_mk,show frmE (.mk op nm nn args) = false from Bool.eq_false_iff.2 fun e => by rw [frm_iff] at e;first | (exact e.1 (by assumption)) | (exact e.2.1 ⟨by assumption,by assumption⟩) | (exact e.2.2.1 (by assumption)) | (exact e.2.2.2 ⟨by omega,by assumption⟩)];simp)
    | (rw [all_mk,alls_bad hk (by simpa using h51)];simp)
    | (rw [all_mk,hal,Bool.and_true,show frmE (.mk op nm nn args) = true by rw [frm_iff];exact ⟨by assumption,by omega,by omega,by first | (rintro ⟨_,_⟩;omega) | (rintro ⟨_,_⟩;contradiction)⟩])
  try simp only [df] at h22
  refine .yg Z Z (.fieldAddr Z Fx.field51_2) Z<|.yg Z Z (.load Z Fx.agg2 (.head _) Z) Z<|.yg Z Z (.lss Z Z) Z<|.yv (.pickF Z Z) Z<|.m Z Z<|.b2 (fun h27 => ?_) (fun h27 => ?_)
  ·try simp only [dt] at h27
   refine .gF Z Z Z Z<|.gF Z Z Z Z<|.gF Z Z Z Z<|.gF Z Z Z Z<|.gU Z Z Z<|.gU Z Z Z<|.gU Z Z Z<|.gF Z Z Z Z<|.gF Z Z Z Z<|.gU Z Z Z<|.gU Z Z Z<|.gU Z Z Z<|.gF Z Z Z Z<|.fn (tl := [_]) Z<|.yv (.pickT Z Z) Z<|.nt<|.cT Z<|.sr<|.a Z Z<|.nt<|.rt<|.tR<|?_
   refine Sx.ret1 (.inl rfl) rfl (.tmp rfl) fun W s => ⟨retB ?_,s.ext⟩
   first
    | (rw [all_mk,show frmE (.mk op nm nn args) = false from Bool.eq_false_iff.2 fun e => by rw [frm_iff] at e;first | (exact e.1 (by assumption)) | (exact e.2.1 ⟨by assumption,by assumption⟩) | (exact e.2.2.1 (by assumption)) | (exact e.2.2.2 ⟨by omega,by assumption⟩)];simp)
    | (rw [all_mk,alls_bad hk (by simpa using h51)];simp)
    | (rw [all_mk,hal,Bool.and_true,show frmE (.mk op nm nn args) = true by rw [frm_iff];exact ⟨by assumption,by omega,by omega,by first | (rintro ⟨_,_⟩;omega) | (rintro ⟨_,_⟩;contradiction)⟩])
  try simp only [df] at h27
  refine .yg Z Z (.fieldAddr Z Fx.field51_0) Z<|.yg Z Z (.load Z Fx.agg3 (.head _) Z) Z<|.yg Z Z (.lss Z Z) Z<|.yg Z Z (.move Z) Z<|.b2 (fun h31 => ?_) (fun h31 => ?_)
  ·try simp only [dt] at h31
   refine .gF Z Z Z Z<|.gF Z Z Z Z<|.gF Z Z Z Z<|.yg Z Z (.pickT Z Z) Z<|.yg Z Z (.move Z) Z<|.yg Z Z (.fieldAddr Z Fx.field51_1) Z<|.yg Z Z (.load Z Fx.agg9 (.head _) Z) Z<|.yg Z Z (.neS Z Z) Z<|.yg Z Z (.pickT Z Z) Z<|.fn (tl := [_]) Z<|.yv (.pickF Z Z) Z<|.nt<|.cd Z (fun h41 => ?_) (fun h41 => ?_)
   ·try simp only [dt] at h41
    skip
    refine .sr<|.a Z Z<|.nt<|.rt<|.tR<|?_
    refine Sx.ret1 (.inl rfl) rfl (.tmp rfl) fun W s => ⟨retB ?_,s.ext⟩
    first
     | (rw [all_mk,show frmE (.mk op nm nn args) = false from Bool.eq_false_iff.2 fun e => by rw [frm_iff] at e;first | (exact e.1 (by assumption)) | (exact e.2.1 ⟨by assumption,by assumption⟩) | (exact e.2.2.1 (by assumption)) | (exact e.2.2.2 ⟨by omega,by assumption⟩)];simp)
     | (rw [all_mk,alls_bad hk (by simpa using h51)];simp)
     | (rw [all_mk,hal,Bool.and_true,show frmE (.mk op nm nn args) = true by rw [frm_iff];exact ⟨by assumption,by omega,by omega,by first | (rintro ⟨_,_⟩;omega) | (rintro ⟨_,_⟩;contradiction)⟩])
   try simp only [df] at h41
   skip
   refine .sk<|.tN<|.sq<|.sr<|.yv (.fieldAddr Z Fx.field51_3) Z<|.yv (.load Z Fx.agg49 (.head _) Z) Z<|.yv (.lenSl Fx.sl49 Z) Z<|.m Z Z<|.nt<|.bk<|.lp (X := Nat) [(43,_),(44,_)] ⟨rfl,rfl,trivial⟩ [_] (fun k => [(45,.int .i64 (k : Nat))]) (fun k => H) (fun k => []) (fun k => k ≤ args.length ∧ Ex.alls frmE (args.take k) = true) (fun k => args.length - k) 0 (fun _ s => s) ⟨rfl,trivial⟩ ⟨by omega,rfl⟩ fun k hC => ?_
   obtain ⟨hk0,hal⟩ := hC
   refine .sr<|.yv (.lss Z Z) Z<|.nt<|.sq<|.cd Z (fun h46 => ?_) (fun h46 => ?_)
   ·try simp only [dt] at h46
    have hk : k < args.length := by omega
    obtain ⟨bE,oE,cE,hpE,rE,lE,mE⟩ := hs.elem (map_at hk)
    cases hpE
    refine .sk<|.tN<|.sq<|.bk<|.sr<|.yv (.indexSl Fx.sl49 Z Z Z (by omega) (q := oE + k * 4) Z) Z<|.yv (.loadMW Z Fx.agg51 mE lE) Z<|.al Fx.zero51 Z fun b4 => .sV .head Z Z Fx.size51 lE rE.one Z<|.ns<|.yv (.loadW Z Fx.agg51 (.head _) lE) Z<|.yv (.call Fx.call106 Z (fun W s => ih _ (List.getElem_mem hk) cE W rE s.agr)) Z<|.yv (.not Z) Z<|.nt<|.cd Z (fun h51 => ?_) (fun h51 => ?_)
    ·skip
     refine .sr<|.a Z Z<|.nt<|.rt<|.bR<|.tR<|.tR<|.bR<|.tR<|?_
     refine Sx.ret1 (.inl rfl) rfl (.tmp rfl) fun W s => ⟨retB ?_,s.ext⟩
     first
      | (rw [all_mk,show frmE (.mk op nm nn args) = false from Bool.eq_false_iff.2 fun e => by rw [frm_iff] at e;first | (exact e.1 (by assumption)) | (exact e.2.1 ⟨by assumption,by assumption⟩) | (exact e.2.2.1 (by assumption)) | (exact e.2.2.2 ⟨by omega,by assumption⟩)];simp)
      | (rw [all_mk,alls_bad hk (by simpa using h51)];simp)
      | (rw [all_mk,hal,Bool.and_true,show frmE (.mk op nm nn args) = true by rw [frm_iff];exact ⟨by assumption,by omega,by omega,by first | (rintro ⟨_,_⟩;omega) | (rintro ⟨_,_⟩;contradiction)⟩])
    skip
    exact .sk<|.bN<|.tN<|.rg<|.yv (.add Z Z (w6 (by omega))) Z<|.m Z Z<|.nt<|.ag (k + 1) ⟨rfl,trivial⟩ ⟨rfl,rfl,trivial⟩ (fun _ s => s.pick [1] [_] Z Z) ⟨by omega,by rw [alls_succ hk,hal];simpa using h51⟩ (by omega)
   try simp only [df] at h46
   obtain rfl : k = args.length := by omega
   rw [List.take_length] at hal
   refine .ex<|.tE<|.tE<|.bE<|.tN<|.sr<|.a Z Z<|.nt<|.rt<|?_
   refine Sx.ret1 (.inl rfl) rfl (.tmp rfl) fun W s => ⟨retB ?_,s.ext⟩
   first
    | (rw [all_mk,show frmE (.mk op nm nn args) = false from Bool.eq_false_iff.2 fun e => by rw [frm_iff] at e;first | (exact e.1 (by assumption)) | (exact e.2.1 ⟨by assumption,by assumption⟩) | (exact e.2.2.1 (by assumption)) | (exact e.2.2.2 ⟨by omega,by assumption⟩)];simp)
    | (rw [all_mk,alls_bad hk (by simpa using h51)];simp)
    | (rw [all_mk,hal,Bool.and_true,show frmE (.mk op nm nn args) = true by rw [frm_iff];exact ⟨by assumption,by omega,by omega,by first | (rintro ⟨_,_⟩;omega) | (rintro ⟨_,_⟩;contradiction)⟩])
  try simp only [df] at h31
  refine .yg Z Z (.fieldAddr Z Fx.field51_0) Z<|.yg Z Z (.load Z Fx.agg3 (.head _) Z) Z<|.yg Z Z (.gtr Z Z) Z<|.yg Z Z (.pickF Z Z) Z<|.yg Z Z (.move Z) Z<|.b2 (fun h36 => ?_) (fun h36 => ?_)
  ·try simp only [dt] at h36
   refine .yg Z Z (.fieldAddr Z Fx.field51_1) Z<|.yg Z Z (.load Z Fx.agg9 (.head _) Z) Z<|.yg Z Z (.neS Z Z) Z<|.yg Z Z (.pickT Z Z) Z<|.fn (tl := [_]) Z<|.yv (.pickF Z Z) Z<|.nt<|.cd Z (fun h41 => ?_) (fun h41 => ?_)
   ·try simp only [dt] at h41
    skip
    refine .sr<|.a Z Z<|.nt<|.rt<|.tR<|?_
    refine Sx.ret1 (.inl rfl) rfl (.tmp rfl) fun W s => ⟨retB ?_,s.ext⟩
    first
     | (rw [all_mk,show frmE (.mk op nm nn args) = false from Bool.eq_false_iff.2 fun e => by rw [frm_iff] at e;first | (exact e.1 (by assumption)) | (exact e.2.1 ⟨by assumption,by assumption⟩) | (exact e.2.2.1 (by assumption)) | (exact e.2.2.2 ⟨by omega,by assumption⟩)];simp)
     | (rw [all_mk,alls_bad hk (by simpa using h51)];simp)
     | (rw [all_mk,hal,Bool.and_true,show frmE (.mk op nm nn args) = true by rw [frm_iff];exact ⟨by assumption,by omega,by omega,by first | (rintro ⟨_,_⟩;omega) | (rintro ⟨_,_⟩;contradiction)⟩])
   try simp only [df] at h41
   skip
   refine .sk<|.tN<|.sq<|.sr<|.yv (.fieldAddr Z Fx.field51_3) Z<|.yv (.load Z Fx.agg49 (.head _) Z) Z<|.yv (.lenSl Fx.sl49 Z) Z<|.m Z Z<|.nt<|.bk<|.lp (X := Nat) [(43,_),(44,_)] ⟨rfl,rfl,trivial⟩ [_] (fun k => [(45,.int .i64 (k : Nat))]) (fun k => H) (fun k => []) (fun k => k ≤ args.length ∧ Ex.alls frmE (args.take k) = true) (fun k => args.length - k) 0 (fun _ s => s) ⟨rfl,trivial⟩ ⟨by omega,rfl⟩ fun k hC => ?_
   obtain ⟨hk0,hal⟩ := hC
   refine .sr<|.yv (.lss Z Z) Z<|.nt<|.sq<|.cd Z (fun h46 => ?_) (fun h46 => ?_)
   ·try simp only [dt] at h46
    have hk : k < args.length := by omega
    obtain ⟨bE,oE,cE,hpE,rE,lE,mE⟩ := hs.elem (map_at hk)
    cases hpE
    refine .sk<|.tN<|.sq<|.bk<|.sr<|.yv (.indexSl Fx.sl49 Z Z Z (by omega) (q := oE + k * 4) Z) Z<|.yv (.loadMW Z Fx.agg51 mE lE) Z<|.al Fx.zero51 Z fun b4 => .sV .head Z Z Fx.size51 lE rE.one Z<|.ns<|.yv (.loadW Z Fx.agg51 (.head _) lE) Z<|.yv (.call Fx.call106 Z (fun W s => ih _ (List.getElem_mem hk) cE W rE s.agr)) Z<|.yv (.not Z) Z<|.nt<|.cd Z (fun h51 => ?_) (fun h51 => ?_)
    ·skip
     refine .sr<|.a Z Z<|.nt<|.rt<|.bR<|.tR<|.tR<|.bR<|.tR<|?_
     refine Sx.ret1 (.inl rfl) rfl (.tmp rfl) fun W s => ⟨retB ?_,s.ext⟩
     first
      | (rw [all_mk,show frmE (.mk op nm nn args) = false from Bool.eq_false_iff.2 fun e => by rw [frm_iff] at e;first | (exact e.1 (by assumption)) | (exact e.2.1 ⟨by assumption,by assumption⟩) | (exact e.2.2.1 (by assumption)) | (exact e.2.2.2 ⟨by omega,by assumption⟩)];simp)
      | (rw [all_mk,alls_bad hk (by simpa using h51)];simp)
      | (rw [all_mk,hal,Bool.and_true,show frmE (.mk op nm nn args) = true by rw [frm_iff];exact ⟨by assumption,by omega,by omega,by first | (rintro ⟨_,_⟩;omega) | (rintro ⟨_,_⟩;contradiction)⟩])
    skip
    exact .sk<|.bN<|.tN<|.rg<|.yv (.add Z Z (w6 (by omega))) Z<|.m Z Z<|.nt<|.ag (k + 1) ⟨rfl,trivial⟩ ⟨rfl,rfl,trivial⟩ (fun _ s => s.pick [1] [_] Z Z) ⟨by omega,by rw [alls_succ hk,hal];simpa using h51⟩ (by omega)
   try simp only [df] at h46
   obtain rfl : k = args.length := by omega
   rw [List.take_length] at hal
   refine .ex<|.tE<|.tE<|.bE<|.tN<|.sr<|.a Z Z<|.nt<|.rt<|?_
   refine Sx.ret1 (.inl rfl) rfl (.tmp rfl) fun W s => ⟨retB ?_,s.ext⟩
   first
    | (rw [all_mk,show frmE (.mk op nm nn args) = false from Bool.eq_false_iff.2 fun e => by rw [frm_iff] at e;first | (exact e.1 (by assumption)) | (exact e.2.1 ⟨by assumption,by assumption⟩) | (exact e.2.2.1 (by assumption)) | (exact e.2.2.2 ⟨by omega,by assumption⟩)];simp)
    | (rw [all_mk,alls_bad hk (by simpa using h51)];simp)
    | (rw [all_mk,hal,Bool.and_true,show frmE (.mk op nm nn args) = true by rw [frm_iff];exact ⟨by assumption,by omega,by omega,by first | (rintro ⟨_,_⟩;omega) | (rintro ⟨_,_⟩;contradiction)⟩])
  try simp only [df] at h36
  refine .gF Z Z Z Z<|.gF Z Z Z Z<|.gF Z Z Z Z<|.yg Z Z (.pickF Z Z) Z<|.fn (tl := [_]) Z<|.yv (.pickF Z Z) Z<|.nt<|.cF Z<|.sk<|.tN<|.sq<|.sr<|.yv (.fieldAddr Z Fx.field51_3) Z<|.yv (.load Z Fx.agg49 (.head _) Z) Z<|.yv (.lenSl Fx.sl49 Z) Z<|.m Z Z<|.nt<|.bk<|.lp (X := Nat) [(43,_),(44,_)] ⟨rfl,rfl,trivial⟩ [_] (fun k => [(45,.int .i64 (k : Nat))]) (fun k => H) (fun k => []) (fun k => k ≤ args.length ∧ Ex.alls frmE (args.take k) = true) (fun k => args.length - k) 0 (fun _ s => s) ⟨rfl,trivial⟩ ⟨by omega,rfl⟩ fun k hC => ?_
  obtain ⟨hk0,hal⟩ := hC
  refine .sr<|.yv (.lss Z Z) Z<|.nt<|.sq<|.cd Z (fun h46 => ?_) (fun h46 => ?_)
  ·try simp only [dt] at h46
   have hk : k < args.length := by omega
   obtain ⟨bE,oE,cE,hpE,rE,lE,mE⟩ := hs.elem (map_at hk)
   cases hpE
   refine .sk<|.tN<|.sq<|.bk<|.sr<|.yv (.indexSl Fx.sl49 Z Z Z (by omega) (q := oE + k * 4) Z) Z<|.yv (.loadMW Z Fx.agg51 mE lE) Z<|.al Fx.zero51 Z fun b4 => .sV .head Z Z Fx.size51 lE rE.one Z<|.ns<|.yv (.loadW Z Fx.agg51 (.head _) lE) Z<|.yv (.call Fx.call106 Z (fun W s => ih _ (List.getElem_mem hk) cE W rE s.agr)) Z<|.yv (.not Z) Z<|.nt<|.cd Z (fun h51 => ?_) (fun h51 => ?_)
   ·skip
    refine .sr<|.a Z Z<|.nt<|.rt<|.bR<|.tR<|.tR<|.bR<|.tR<|?_
    refine Sx.ret1 (.inl rfl) rfl (.tmp rfl) fun W s => ⟨retB ?_,s.ext⟩
    first
     | (rw [all_mk,show frmE (.mk op nm nn args) = false from Bool.eq_false_iff.2 fun e => by rw [frm_iff] at e;first | (exact e.1 (by assumption)) | (exact e.2.1 ⟨by assumption,by assumption⟩) | (exact e.2.2.1 (by assumption)) | (exact e.2.2.2 ⟨by omega,by assumption⟩)];simp)
     | (rw [all_mk,alls_bad hk (by simpa using h51)];simp)
     | (rw [all_mk,hal,Bool.and_true,show frmE (.mk op nm nn args) = true by rw [frm_iff];exact ⟨by assumption,by omega,by omega,by first | (rintro ⟨_,_⟩;omega) | (rintro ⟨_,_⟩;contradiction)⟩])
   skip
   exact .sk<|.bN<|.tN<|.rg<|.yv (.add Z Z (w6 (by omega))) Z<|.m Z Z<|.nt<|.ag (k + 1) ⟨rfl,trivial⟩ ⟨rfl,rfl,trivial⟩ (fun _ s => s.pick [1] [_] Z Z) ⟨by omega,by rw [alls_succ hk,hal];simpa using h51⟩ (by omega)
  try simp only [df] at h46
  obtain rfl : k = args.length := by omega
  rw [List.take_length] at hal
  refine .ex<|.tE<|.tE<|.bE<|.tN<|.sr<|.a Z Z<|.nt<|.rt<|?_
  refine Sx.ret1 (.inl rfl) rfl (.tmp rfl) fun W s => ⟨retB ?_,s.ext⟩
  first
   | (rw [all_mk,show frmE (.mk op nm nn args) = false from Bool.eq_false_iff.2 fun e => by rw [frm_iff] at e;first | (exact e.1 (by assumption)) | (exact e.2.1 ⟨by assumption,by assumption⟩) | (exact e.2.2.1 (by assumption)) | (exact e.2.2.2 ⟨by omega,by assumption⟩)];simp)
   | (rw [all_mk,alls_bad hk (by simpa using h51)];simp)
   | (rw [all_mk,hal,Bool.and_true,show frmE (.mk op nm nn args) = true by rw [frm_iff];exact ⟨by assumption,by omega,by omega,by first | (rintro ⟨_,_⟩;omega) | (rintro ⟨_,_⟩;contradiction)⟩])
 try simp only [df] at h16
 refine .gF Z Z Z Z<|.gF Z Z Z Z<|.gF Z Z Z Z<|.yg Z Z (.pickF Z Z) Z<|.yv (.pickF Z Z) Z<|.m Z Z<|.yg Z Z (.fieldAddr Z Fx.field51_2) Z<|.yg Z Z (.load Z Fx.agg2 (.head _) Z) Z<|.yg Z Z (.lss Z Z) Z<|.yv (.pickF Z Z) Z<|.m Z Z<|.b2 (fun h27 => ?_) (fun h27 => ?_)
 ·try simp only [dt] at h27
  refine .gF Z Z Z Z<|.gF Z Z Z Z<|.gF Z Z Z Z<|.gF Z Z Z Z<|.gU Z Z Z<|.gU Z Z Z<|.gU Z Z Z<|.gF Z Z Z Z<|.gF Z Z Z Z<|.gU Z Z Z<|.gU Z Z Z<|.gU Z Z Z<|.gF Z Z Z Z<|.fn (tl := [_]) Z<|.yv (.pickT Z Z) Z<|.nt<|.cT Z<|.sr<|.a Z Z<|.nt<|.rt<|.tR<|?_
  refine Sx.ret1 (.inl rfl) rfl (.tmp rfl) fun W s => ⟨retB ?_,s.ext⟩
  first
   | (rw [all_mk,show frmE (.mk op nm nn args) = false from Bool.eq_false_iff.2 fun e => by rw [frm_iff] at e;first | (exact e.1 (by assumption)) | (exact e.2.1 ⟨by assumption,by assumption⟩) | (exact e.2.2.1 (by assumption)) | (exact e.2.2.2 ⟨by omega,by assumption⟩)];simp)
   | (rw [all_mk,alls_bad hk (by simpa using h51)];simp)
   | (rw [all_mk,hal,Bool.and_true,show frmE (.mk op nm nn args) = true by rw [frm_iff];exact ⟨by assumption,by omega,by omega,by first | (rintro ⟨_,_⟩;omega) | (rintro ⟨_,_⟩;contradiction)⟩])
 try simp only [df] at h27
 refine .yg Z Z (.fieldAddr Z Fx.field51_0) Z<|.yg Z Z (.load Z Fx.agg3 (.head _) Z) Z<|.yg Z Z (.lss Z Z) Z<|.yg Z Z (.move Z) Z<|.b2 (fun h31 => ?_) (fun h31 => ?_)
 ·try simp only [dt] at h31
  refine .gF Z Z Z Z<|.gF Z Z Z Z<|.gF Z Z Z Z<|.yg Z Z (.pickT Z Z) Z<|.yg Z Z (.move Z) Z<|.yg Z Z (.fieldAddr Z Fx.field51_1) Z<|.yg Z Z (.load Z Fx.agg9 (.head _) Z) Z<|.yg Z Z (.neS Z Z) Z<|.yg Z Z (.pickT Z Z) Z<|.fn (tl := [_]) Z<|.yv (.pickF Z Z) Z<|.nt<|.cd Z (fun h41 => ?_) (fun h41 => ?_)
  ·try simp only [dt] at h41
   skip
   refine .sr<|.a Z Z<|.nt<|.rt<|.tR<|?_
   refine Sx.ret1 (.inl rfl) rfl (.tmp rfl) fun W s => ⟨retB ?_,s.ext⟩
   first
    | (rw [all_mk,show frmE (.mk op nm nn args) = false from Bool.eq_false_iff.2 fun e => by rw [frm_iff] at e;first | (exact e.1 (by assumption)) | (exact e.2.1 ⟨by assumption,by assumption⟩) | (exact e.2.2.1 (by assumption)) | (exact e.2.2.2 ⟨by omega,by assumption⟩)];simp)
    | (rw [all_mk,alls_bad hk (by simpa using h51)];simp)
    | (rw [all_mk,hal,Bool.and_true,show frmE (.mk op nm nn args) = true by rw [frm_iff];exact ⟨by assumption,by omega,by omega,by first | (rintro ⟨_,_⟩;omega) | (rintro ⟨_,_⟩;contradiction)⟩])
  try simp only [df] at h41
  skip
  refine .sk<|.tN<|.sq<|.sr<|.yv (.fieldAddr Z Fx.field51_3) Z<|.yv (.load Z Fx.agg49 (.head _) Z) Z<|.yv (.lenSl Fx.sl49 Z) Z<|.m Z Z<|.nt<|.bk<|.lp (X := Nat) [(43,_),(44,_)] ⟨rfl,rfl,trivial⟩ [_] (fun k => [(45,.int .i64 (k : Nat))]) (fun k => H) (fun k => []) (fun k => k ≤ args.length ∧ Ex.alls frmE (args.take k) = true) (fun k => args.length - k) 0 (fun _ s => s) ⟨rfl,trivial⟩ ⟨by omega,rfl⟩ fun k hC => ?_
  obtain ⟨hk0,hal⟩ := hC
  refine .sr<|.yv (.lss Z Z) Z<|.nt<|.sq<|.cd Z (fun h46 => ?_) (fun h46 => ?_)
  ·try simp only [dt] at h46
   have hk : k < args.length := by omega
   obtain ⟨bE,oE,cE,hpE,rE,lE,mE⟩ := hs.elem (map_at hk)
   cases hpE
   refine .sk<|.tN<|.sq<|.bk<|.sr<|.yv (.indexSl Fx.sl49 Z Z Z (by omega) (q := oE + k * 4) Z) Z<|.yv (.loadMW Z Fx.agg51 mE lE) Z<|.al Fx.zero51 Z fun b4 => .sV .head Z Z Fx.size51 lE rE.one Z<|.ns<|.yv (.loadW Z Fx.agg51 (.head _) lE) Z<|.yv (.call Fx.call106 Z (fun W s => ih _ (List.getElem_mem hk) cE W rE s.agr)) Z<|.yv (.not Z) Z<|.nt<|.cd Z (fun h51 => ?_) (fun h51 => ?_)
   ·skip
    refine .sr<|.a Z Z<|.nt<|.rt<|.bR<|.tR<|.tR<|.bR<|.tR<|?_
    refine Sx.ret1 (.inl rfl) rfl (.tmp rfl) fun W s => ⟨retB ?_,s.ext⟩
    first
     | (rw [all_mk,show frmE (.mk op nm nn args) = false from Bool.eq_false_iff.2 fun e => by rw [frm_iff] at e;first | (exact e.1 (by assumption)) | (exact e.2.1 ⟨by assumption,by assumption⟩) | (exact e.2.2.1 (by assumption)) | (exact e.2.2.2 ⟨by omega,by assumption⟩)];simp)
     | (rw [all_mk,alls_bad hk (by simpa using h51)];simp)
     | (rw [all_mk,hal,Bool.and_true,show frmE (.mk op nm nn args) = true by rw [frm_iff];exact ⟨by assumption,by omega,by omega,by first | (rintro ⟨_,_⟩;omega) | (rintro ⟨_,_⟩;contradiction)⟩])
   skip
   exact .sk<|.bN<|.tN<|.rg<|.yv (.add Z Z (w6 (by omega))) Z<|.m Z Z<|.nt<|.ag (k + 1) ⟨rfl,trivial⟩ ⟨rfl,rfl,trivial⟩ (fun _ s => s.pick [1] [_] Z Z) ⟨by omega,by rw [alls_succ hk,hal];simpa using h51⟩ (by omega)
  try simp only [df] at h46
  obtain rfl : k = args.length := by omega
  rw [List.take_length] at hal
  refine .ex<|.tE<|.tE<|.bE<|.tN<|.sr<|.a Z Z<|.nt<|.rt<|?_
  refine Sx.ret1 (.inl rfl) rfl (.tmp rfl) fun W s => ⟨retB ?_,s.ext⟩
  first
   | (rw [all_mk,show frmE (.mk op nm nn args) = false from Bool.eq_false_iff.2 fun e => by rw [frm_iff] at e;first | (exact e.1 (by assumption)) | (exact e.2.1 ⟨by assumption,by assumption⟩) | (exact e.2.2.1 (by assumption)) | (exact e.2.2.2 ⟨by omega,by assumption⟩)];simp)
   | (rw [all_mk,alls_bad hk (by simpa using h51)];simp)
   | (rw [all_mk,hal,Bool.and_true,show frmE (.mk op nm nn args) = true by rw [frm_iff];exact ⟨by assumption,by omega,by omega,by first | (rintro ⟨_,_⟩;omega) | (rintro ⟨_,_⟩;contradiction)⟩])
 try simp only [df] at h31
 refine .yg Z Z (.fieldAddr Z Fx.field51_0) Z<|.yg Z Z (.load Z Fx.agg3 (.head _) Z) Z<|.yg Z Z (.gtr Z Z) Z<|.yg Z Z (.pickF Z Z) Z<|.yg Z Z (.move Z) Z<|.b2 (fun h36 => ?_) (fun h36 => ?_)
 ·try simp only [dt] at h36
  refine .yg Z Z (.fieldAddr Z Fx.field51_1) Z<|.yg Z Z (.load Z Fx.agg9 (.head _) Z) Z<|.yg Z Z (.neS Z Z) Z<|.yg Z Z (.pickT Z Z) Z<|.fn (tl := [_]) Z<|.yv (.pickF Z Z) Z<|.nt<|.cd Z (fun h41 => ?_) (fun h41 => ?_)
  ·try simp only [dt] at h41
   skip
   refine .sr<|.a Z Z<|.nt<|.rt<|.tR<|?_
   refine Sx.ret1 (.inl rfl) rfl (.tmp rfl) fun W s => ⟨retB ?_,s.ext⟩
   first
    | (rw [all_mk,show frmE (.mk op nm nn args) = false from Bool.eq_false_iff.2 fun e => by rw [frm_iff] at e;first | (exact e.1 (by assumption)) | (exact e.2.1 ⟨by assumption,by assumption⟩) | (exact e.2.2.1 (by assumption)) | (exact e.2.2.2 ⟨by omega,by assumption⟩)];simp)
    | (rw [all_mk,alls_bad hk (by simpa using h51)];simp)
    | (rw [all_mk,hal,Bool.and_true,show frmE (.mk op nm nn args) = true by rw [frm_iff];exact ⟨by assumption,by omega,by omega,by first | (rintro ⟨_,_⟩;omega) | (rintro ⟨_,_⟩;contradiction)⟩])
  try simp only [df] at h41
  skip
  refine .sk<|.tN<|.sq<|.sr<|.yv (.fieldAddr Z Fx.field51_3) Z<|.yv (.load Z Fx.agg49 (.head _) Z) Z<|.yv (.lenSl Fx.sl49 Z) Z<|.m Z Z<|.nt<|.bk<|.lp (X := Nat) [(43,_),(44,_)] ⟨rfl,rfl,trivial⟩ [_] (fun k => [(45,.int .i64 (k : Nat))]) (fun k => H) (fun k => []) (fun k => k ≤ args.length ∧ Ex.alls frmE (args.take k) = true) (fun k => args.length - k) 0 (fun _ s => s) ⟨rfl,trivial⟩ ⟨by omega,rfl⟩ fun k hC => ?_
  obtain ⟨hk0,hal⟩ := hC
  refine .sr<|.yv (.lss Z Z) Z<|.nt<|.sq<|.cd Z (fun h46 => ?_) (fun h46 => ?_)
  ·try simp only [dt] at h46
   have hk : k < args.length := by omega
   obtain ⟨bE,oE,cE,hpE,rE,lE,mE⟩ := hs.elem (map_at hk)
   cases hpE
   refine .sk<|.tN<|.sq<|.bk<|.sr<|.yv (.indexSl Fx.sl49 Z Z Z (by omega) (q := oE + k * 4) Z) Z<|.yv (.loadMW Z Fx.agg51 mE lE) Z<|.al Fx.zero51 Z fun b4 => .sV .head Z Z Fx.size51 lE rE.one Z<|.ns<|.yv (.loadW Z Fx.agg51 (.head _) lE) Z<|.yv (.call Fx.call106 Z (fun W s => ih _ (List.getElem_mem hk) cE W rE s.agr)) Z<|.yv (.not Z) Z<|.nt<|.cd Z (fun h51 => ?_) (fun h51 => ?_)
   ·skip
    refine .sr<|.a Z Z<|.nt<|.rt<|.bR<|.tR<|.tR<|.bR<|.tR<|?_
    refine Sx.ret1 (.inl rfl) rfl (.tmp rfl) fun W s => ⟨retB ?_,s.ext⟩
    first
     | (rw [all_mk,show frmE (.mk op nm nn args) = false from Bool.eq_false_iff.2 fun e => by rw [frm_iff] at e;first | (exact e.1 (by assumption)) | (exact e.2.1 ⟨by assumption,by assumption⟩) | (exact e.2.2.1 (by assumption)) | (exact e.2.2.2 ⟨by omega,by assumption⟩)];simp)
     | (rw [all_mk,alls_bad hk (by simpa using h51)];simp)
     | (rw [all_mk,hal,Bool.and_true,show frmE (.mk op nm nn args) = true by rw [frm_iff];exact ⟨by assumption,by omega,by omega,by first | (rintro ⟨_,_⟩;omega) | (rintro ⟨_,_⟩;contradiction)⟩])
   skip
   exact .sk<|.bN<|.tN<|.rg<|.yv (.add Z Z (w6 (by omega))) Z<|.m Z Z<|.nt<|.ag (k + 1) ⟨rfl,trivial⟩ ⟨rfl,rfl,trivial⟩ (fun _ s => s.pick [1] [_] Z Z) ⟨by omega,by rw [alls_succ hk,hal];simpa using h51⟩ (by omega)
  try simp only [df] at h46
  obtain rfl : k = args.length := by omega
  rw [List.take_length] at hal
  refine .ex<|.tE<|.tE<|.bE<|.tN<|.sr<|.a Z Z<|.nt<|.rt<|?_
  refine Sx.ret1 (.inl rfl) rfl (.tmp rfl) fun W s => ⟨retB ?_,s.ext⟩
  first
   | (rw [all_mk,show frmE (.mk op nm nn args) = false from Bool.eq_false_iff.2 fun e => by rw [frm_iff] at e;first | (exact e.1 (by assumption)) | (exact e.2.1 ⟨by assumption,by assumption⟩) | (exact e.2.2.1 (by assumption)) | (exact e.2.2.2 ⟨by omega,by assumption⟩)];simp)
   | (rw [all_mk,alls_bad hk (by simpa using h51)];simp)
   | (rw [all_mk,hal,Bool.and_true,show frmE (.mk op nm nn args) = true by rw [frm_iff];exact ⟨by assumption,by omega,by omega,by first | (rintro ⟨_,_⟩;omega) | (rintro ⟨_,_⟩;contradiction)⟩])
 try simp only [df] at h36
 refine .gF Z Z Z Z<|.gF Z Z Z Z<|.gF Z Z Z Z<|.yg Z Z (.pickF Z Z) Z<|.fn (tl := [_]) Z<|.yv (.pickF Z Z) Z<|.nt<|.cF Z<|.sk<|.tN<|.sq<|.sr<|.yv (.fieldAddr Z Fx.field51_3) Z<|.yv (.load Z Fx.agg49 (.head _) Z) Z<|.yv (.lenSl Fx.sl49 Z) Z<|.m Z Z<|.nt<|.bk<|.lp (X := Nat) [(43,_),(44,_)] ⟨rfl,rfl,trivial⟩ [_] (fun k => [(45,.int .i64 (k : Nat))]) (fun k => H) (fun k => []) (fun k => k ≤ args.length ∧ Ex.alls frmE (args.take k) = true) (fun k => args.length - k) 0 (fun _ s => s) ⟨rfl,trivial⟩ ⟨by omega,rfl⟩ fun k hC => ?_
 obtain ⟨hk0,hal⟩ := hC
 refine .sr<|.yv (.lss Z Z) Z<|.nt<|.sq<|.cd Z (fun h46 => ?_) (fun h46 => ?_)
 ·try simp only [dt] at h46
  have hk : k < args.length := by omega
  obtain ⟨bE,oE,cE,hpE,rE,lE,mE⟩ := hs.elem (map_at hk)
  cases hpE
  refine .sk<|.tN<|.sq<|.bk<|.sr<|.yv (.indexSl Fx.sl49 Z Z Z (by omega) (q := oE + k * 4) Z) Z<|.yv (.loadMW Z Fx.agg51 mE lE) Z<|.al Fx.zero51 Z fun b4 => .sV .head Z Z Fx.size51 lE rE.one Z<|.ns<|.yv (.loadW Z Fx.agg51 (.head _) lE) Z<|.yv (.call Fx.call106 Z (fun W s => ih _ (List.getElem_mem hk) cE W rE s.agr)) Z<|.yv (.not Z) Z<|.nt<|.cd Z (fun h51 => ?_) (fun h51 => ?_)
  ·skip
   refine .sr<|.a Z Z<|.nt<|.rt<|.bR<|.tR<|.tR<|.bR<|.tR<|?_
   refine Sx.ret1 (.inl rfl) rfl (.tmp rfl) fun W s => ⟨retB ?_,s.ext⟩
   first
    | (rw [all_mk,show frmE (.mk op nm nn args) = false from Bool.eq_false_iff.2 fun e => by rw [frm_iff] at e;first | (exact e.1 (by assumption)) | (exact e.2.1 ⟨by assumption,by assumption⟩) | (exact e.2.2.1 (by assumption)) | (exact e.2.2.2 ⟨by omega,by assumption⟩)];simp)
    | (rw [all_mk,alls_bad hk (by simpa using h51)];simp)
    | (rw [all_mk,hal,Bool.and_true,show frmE (.mk op nm nn args) = true by rw [frm_iff];exact ⟨by assumption,by omega,by omega,by first | (rintro ⟨_,_⟩;omega) | (rintro ⟨_,_⟩;contradiction)⟩])
  skip
  exact .sk<|.bN<|.tN<|.rg<|.yv (.add Z Z (w6 (by omega))) Z<|.m Z Z<|.nt<|.ag (k + 1) ⟨rfl,trivial⟩ ⟨rfl,rfl,trivial⟩ (fun _ s => s.pick [1] [_] Z Z) ⟨by omega,by rw [alls_succ hk,hal];simpa using h51⟩ (by omega)
 try simp only [df] at h46
 obtain rfl : k = args.length := by omega
 rw [List.take_length] at hal
 refine .ex<|.tE<|.tE<|.bE<|.tN<|.sr<|.a Z Z<|.nt<|.rt<|?_
 refine Sx.ret1 (.inl rfl) rfl (.tmp rfl) fun W s => ⟨retB ?_,s.ext⟩
 first
  | (rw [all_mk,show frmE (.mk op nm nn args) = false from Bool.eq_false_iff.2 fun e => by rw [frm_iff] at e;first | (exact e.1 (by assumption)) | (exact e.2.1 ⟨by assumption,by assumption⟩) | (exact e.2.2.1 (by assumption)) | (exact e.2.2.2 ⟨by omega,by assumption⟩)];simp)
  | (rw [all_mk,alls_bad hk (by simpa using h51)];simp)
  | (rw [all_mk,hal,Bool.and_true,show frmE (.mk op nm nn args) = true by rw [frm_iff];exact ⟨by assumption,by omega,by omega,by first | (rintro ⟨_,_⟩;omega) | (rintro ⟨_,_⟩;contradiction)⟩])
theorem dec_big {n : Nat} (h : ¬ n < 10) : Lib.decDigits n = Lib.decDigits (n / 10) ++ Lib.decDigits (n % 10) := by
 rw [Lib.decDigits_one (Nat.mod_lt n (by omega))]
 conv => lhs;rw [Lib.decDigits,dif_neg h]
def digsT : Str := [48,49,50,51,52,53,54,55,56,57]
theorem digs_one {n : Nat} (h : n < 10) : (digsT.take (n + 1)).drop n = Lib.decDigits n := by
 rw [Lib.decDigits_one h]
 have key : ∀ i ∈ List.range 10,(digsT.take (i + 1)).drop i = [UInt8.ofNat (48 + i)] := by decide
 exact key n (List.mem_range.2 h)
theorem dec_len {n : Nat} (h : n ≤ 9223372036854775807) : (Lib.decDigits n).length ≤ 21 := by
 have := Lib.itoa_length_le (n : Int) (by omega) (by omega)
 rwa [Lib.itoa,if_neg (by omega),Int.toNat_natCast] at this
def lvR (k : Nat) : Nat := if k = 23 then 1 else if k = 22 then 2 else if 16 ≤ k then 3 else if 14 ≤ k then 4 else if 11 ≤ k then 5 else if 9 ≤ k then 6 else 7
theorem lvR_ok {op : UInt8} (h : okOp op = true) : lvR op.toNat = (shapeOf op).lv := by
 have key : ∀ i ∈ List.range 256,okOp (UInt8.ofNat i) = true → lvR i = (shapeOf (UInt8.ofNat i)).lv := by decide +kernel
 have h2 := key op.toNat (List.mem_range.2 op.toNat_lt)
 rw [UInt8.ofNat_toNat] at h2
 exact h2 h
def symsR : List Str := [[42],[47],[37],[43],[45],[61,61],[33,61],[60],[60,61],[62],[62,61],[97,110,100],[111,114]]
theorem sym_tx {op : UInt8} (h1 : 11 ≤ op.toNat) (h2 : op.toNat ≤ 23) : (shapeOf op).tx = [32] ++ symsR.getD (op.toNat - 11) [] ++ [32] := by
 have key : ∀ i ∈ List.range 256,11 ≤ i → i ≤ 23 → (shapeOf (UInt8.ofNat i)).tx = [32] ++ symsR.getD (i - 11) [] ++ [32] := by decide +kernel
 have h := key op.toNat (List.mem_range.2 op.toNat_lt)
 rw [UInt8.ofNat_toNat] at h
 exact h h1 h2
set_option maxRecDepth 100000 in
theorem numberN_any (H : Hp) (n : Nat) : n ≤ 9223372036854775807 → ∀ (w : World),Agr H w → Calls Tryz.prog 33 #[.int .i64 (n : Nat)] w fun r w' => r = .returned (strV (Lib.decDigits n)) ∧ Ext w w' := by
 induction n using Nat.strongRecOn with | _ n ih
 intro hn w hA
 refine Sx.enter (H := H) Tryz.func33 rfl Tryz.ntmps33 rfl hA ?_
 refine .sr<|.a Z Z<|.nt<|.sq<|.sr<|.m Z Z<|.yv (.lss Z Z) Z<|.nt<|.cd Z (fun h4 => ?_) (fun h4 => ?_)
 ·try simp only [dt] at h4
  exact absurd (by omega : False) id
 try simp only [df] at h4
 refine .sk<|.tN<|.sq<|.sr<|.m Z Z<|.yv (.lss Z Z) Z<|.nt<|.cd Z (fun h10 => ?_) (fun h10 => ?_)
 ·try simp only [dt] at h10
  refine .sr<|.m Z Z<|.m Z Z<|.yv (.add Z Z (c := ((n + 1 : Nat) : Int)) ((w6 (by omega)).trans (by omega))) Z<|.yv (.cast (.midS (l := digsT) Fx.str9 Z Z Z (lo := n) (hi := n + 1) Z Z (by omega) (by show n + 1 ≤ 10;omega)) (by rw [digs_one (by omega)])) Z<|.a Z Z<|.nt<|.rt<|.tR<|?_
  refine Sx.ret1 (.inl rfl) rfl (.tmp rfl) fun W s => ⟨?_,s.ext⟩
  first
   | (rfl)
   | (rw [dec_big (n := n) (by omega)];rfl)
   | (rw [digs_one (by omega)])
 try simp only [df] at h10
 refine .sk<|.tN<|.sr<|.m Z Z<|.yv (.quo Z Z (by decide) (c := ((n / 10 : Nat) : Int)) (by rw [Int.tdiv_eq_ediv_of_nonneg (by omega)];exact (w6 (by omega)).trans (by omega))) Z<|.yv (.call Fx.call33 Z (fun W s => ih (n / 10) (by omega) (by omega) W s.agr)) Z<|.m Z Z<|.yv (.rem Z Z (by decide) (c := ((n % 10 : Nat) : Int)) (by rw [Int.tmod_eq_emod_of_nonneg (by omega)];omega)) Z<|.yv (.call Fx.call33 Z (fun W s => ih (n % 10) (by omega) (by omega) W s.agr)) Z<|.yv (.app Z Z (by have := dec_len (n := n / 10) (by omega);have := dec_len (n := n % 10) (by omega);omega)) Z<|.a Z Z<|.nt<|.rt<|?_
 refine Sx.ret1 (.inl rfl) rfl (.tmp rfl) fun W s => ⟨?_,s.ext⟩
 first
  | (rfl)
  | (rw [dec_big (n := n) (by omega)];rfl)
  | (rw [digs_one (by omega)])
theorem _root_.Go.Sx.Yl.neg64 {P : Program} {L : Sl} {H : Hp} {w0 : World} {bs : List Res} {d : Option Tmp} {ty : TypeId} {pos : String} {aft : Array Edge} {g : Option (Nat × Bool)} {x : Operand} {T : TypeId} {i c : Int} (hx : ev L x = some (.int .i64 i)) (hc : c = -i) (h1 : -9223372036854775808 ≤ c) (h2 : c ≤ 9223372036854775807) : Yl P L H w0 bs ⟨d,.unOp .neg T x,ty,pos,aft,g⟩ (.int .i64 c) := .of_run fun a W f _ => by
 subst hc
 have hw : IntKind.i64.wrap (-i) = -i := w64 h1 h2
 unfold execOp
 simp [f x _ hx,Op.unary,Op.intArith,hw,Result.andThen]
set_option maxRecDepth 100000 in
theorem number_any (H : Hp) (n : Int) (h1 : -9223372036854775808 < n) (h2 : n ≤ 9223372036854775807) (w : World) (hA : Agr H w) : Calls Tryz.prog 33 #[.int .i64 n] w fun r w' => r = .returned (strV (Lib.itoa n)) ∧ Ext w w' := by
 by_cases h0 : 0 ≤ n
 ·have h := numberN_any H n.toNat (by omega) w hA
  rw [show ((n.toNat : Nat) : Int) = n by omega] at h
  rw [Lib.itoa,if_neg (by omega)]
  exact h
 refine Sx.enter (H := H) Tryz.func33 rfl Tryz.ntmps33 rfl hA ?_
 refine .sr<|.a Z Z<|.nt<|.sq<|.sr<|.m Z Z<|.yv (.lss Z Z) Z<|.nt<|.cd Z (fun h4 => ?_) (fun h4 => ?_)
 ·try simp only [dt] at h4
  refine .sr<|.m Z Z<|.yv (.neg64 Z (c := ((n.natAbs : Nat) : Int)) (by omega) (by omega) (by omega)) Z<|.yv (.call Fx.call33 Z (fun W s => numberN_any H n.natAbs (by omega) W s.agr)) Z<|.yv (.app Z Z (by have := dec_len (n := n.natAbs) (by omega);simp only [List.length_cons,List.length_nil];omega)) Z<|.a Z Z<|.nt<|.rt<|.tR<|?_
  refine Sx.ret1 (.inl rfl) rfl (.tmp rfl) fun W s => ⟨?_,s.ext⟩
  first
   | (rw [Lib.itoa,if_pos (by omega)];rfl)
 try simp only [df] at h4
 exact absurd (by omega : False) id
set_option maxRecDepth 100000 in
theorem level_any (H : Hp) (k : Nat) (w : World) (hA : Agr H w) : Calls Tryz.prog 156 #[.int .i64 (k : Nat)] w fun r w' => r = .returned (.int .i64 (lvR k : Nat)) ∧ Ext w w' := by
 refine Sx.enter (H := H) Tryz.func156 rfl Tryz.ntmps156 rfl hA ?_
 refine .sr<|.a Z Z<|.nt<|.sq<|.bk<|.sr<|.m Z Z<|.yv (.eql Z Z) Z<|.a Z Z<|.nt<|.cd Z (fun h3 => ?_) (fun h3 => ?_)
 ·try simp only [dt] at h3
  refine .sr<|.a Z Z<|.nt<|.rt<|.bR<|.tR<|?_
  refine Sx.ret1 (.inl rfl) rfl (.tmp rfl) fun W s => ⟨?_,s.ext⟩
  first
   | (rw [lvR];(try simp only [decide_eq_true_eq,decide_eq_false_iff_not] at *);first | (rw [if_pos (by omega)];rfl) | (rw [if_neg (by omega),if_pos (by omega)];rfl) | (rw [if_neg (by omega),if_neg (by omega),if_pos (by omega)];rfl) | (rw [if_neg (by omega),if_neg (by omega),if_neg (by omega),if_pos (by omega)];rfl) | (rw [if_neg (by omega),if_neg (by omega),if_neg (by omega),if_neg (by omega),if_pos (by omega)];rfl) | (rw [if_neg (by omega),if_neg (by omega),if_neg (by omega),if_neg (by omega),if_neg (by omega),if_pos (by omega)];rfl) | (rw [if_neg (by omega),if_neg (by omega),if_neg (by omega),if_neg (by omega),if_neg (by omega),if_neg (by omega)];rfl))
 try simp only [df] at h3
 refine .sr<|.m Z Z<|.yv (.eql Z Z) Z<|.a Z Z<|.nt<|.cd Z (fun h6 => ?_) (fun h6 => ?_)
 ·try simp only [dt] at h6
  refine .sr<|.a Z Z<|.nt<|.rt<|.bR<|.tR<|?_
  refine Sx.ret1 (.inl rfl) rfl (.tmp rfl) fun W s => ⟨?_,s.ext⟩
  first
   | (rw [lvR];(try simp only [decide_eq_true_eq,decide_eq_false_iff_not] at *);first | (rw [if_pos (by omega)];rfl) | (rw [if_neg (by omega),if_pos (by omega)];rfl) | (rw [if_neg (by omega),if_neg (by omega),if_pos (by omega)];rfl) | (rw [if_neg (by omega),if_neg (by omega),if_neg (by omega),if_pos (by omega)];rfl) | (rw [if_neg (by omega),if_neg (by omega),if_neg (by omega),if_neg (by omega),if_pos (by omega)];rfl) | (rw [if_neg (by omega),if_neg (by omega),if_neg (by omega),if_neg (by omega),if_neg (by omega),if_pos (by omega)];rfl) | (rw [if_neg (by omega),if_neg (by omega),if_neg (by omega),if_neg (by omega),if_neg (by omega),if_neg (by omega)];rfl))
 try simp only [df] at h6
 refine .sr<|.m Z Z<|.yv (.geq Z Z) Z<|.a Z Z<|.nt<|.cd Z (fun h9 => ?_) (fun h9 => ?_)
 ·try simp only [dt] at h9
  refine .sr<|.a Z Z<|.nt<|.rt<|.bR<|.tR<|?_
  refine Sx.ret1 (.inl rfl) rfl (.tmp rfl) fun W s => ⟨?_,s.ext⟩
  first
   | (rw [lvR];(try simp only [decide_eq_true_eq,decide_eq_false_iff_not] at *);first | (rw [if_pos (by omega)];rfl) | (rw [if_neg (by omega),if_pos (by omega)];rfl) | (rw [if_neg (by omega),if_neg (by omega),if_pos (by omega)];rfl) | (rw [if_neg (by omega),if_neg (by omega),if_neg (by omega),if_pos (by omega)];rfl) | (rw [if_neg (by omega),if_neg (by omega),if_neg (by omega),if_neg (by omega),if_pos (by omega)];rfl) | (rw [if_neg (by omega),if_neg (by omega),if_neg (by omega),if_neg (by omega),if_neg (by omega),if_pos (by omega)];rfl) | (rw [if_neg (by omega),if_neg (by omega),if_neg (by omega),if_neg (by omega),if_neg (by omega),if_neg (by omega)];rfl))
 try simp only [df] at h9
 refine .sr<|.m Z Z<|.yv (.geq Z Z) Z<|.a Z Z<|.nt<|.cd Z (fun h12 => ?_) (fun h12 => ?_)
 ·try simp only [dt] at h12
  refine .sr<|.a Z Z<|.nt<|.rt<|.bR<|.tR<|?_
  refine Sx.ret1 (.inl rfl) rfl (.tmp rfl) fun W s => ⟨?_,s.ext⟩
  first
   | (rw [lvR];(try simp only [decide_eq_true_eq,decide_eq_false_iff_not] at *);first | (rw [if_pos (by omega)];rfl) | (rw [if_neg (by omega),if_pos (by omega)];rfl) | (rw [if_neg (by omega),if_neg (by omega),if_pos (by omega)];rfl) | (rw [if_neg (by omega),if_neg (by omega),if_neg (by omega),if_pos (by omega)];rfl) | (rw [if_neg (by omega),if_neg (by omega),if_neg (by omega),if_neg (by omega),if_pos (by omega)];rfl) | (rw [if_neg (by omega),if_neg (by omega),if_neg (by omega),if_neg (by omega),if_neg (by omega),if_pos (by omega)];rfl) | (rw [if_neg (by omega),if_neg (by omega),if_neg (by omega),if_neg (by omega),if_neg (by omega),if_neg (by omega)];rfl))
 try simp only [df] at h12
 refine .sr<|.m Z Z<|.yv (.geq Z Z) Z<|.a Z Z<|.nt<|.cd Z (fun h15 => ?_) (fun h15 => ?_)
 ·try simp only [dt] at h15
  refine .sr<|.a Z Z<|.nt<|.rt<|.bR<|.tR<|?_
  refine Sx.ret1 (.inl rfl) rfl (.tmp rfl) fun W s => ⟨?_,s.ext⟩
  first
   | (rw [lvR];(try simp only [decide_eq_true_eq,decide_eq_false_iff_not] at *);first | (rw [if_pos (by omega)];rfl) | (rw [if_neg (by omega),if_pos (by omega)];rfl) | (rw [if_neg (by omega),if_neg (by omega),if_pos (by omega)];rfl) | (rw [if_neg (by omega),if_neg (by omega),if_neg (by omega),if_pos (by omega)];rfl) | (rw [if_neg (by omega),if_neg (by omega),if_neg (by omega),if_neg (by omega),if_pos (by omega)];rfl) | (rw [if_neg (by omega),if_neg (by omega),if_neg (by omega),if_neg (by omega),if_neg (by omega),if_pos (by omega)];rfl) | (rw [if_neg (by omega),if_neg (by omega),if_neg (by omega),if_neg (by omega),if_neg (by omega),if_neg (by omega)];rfl))
 try simp only [df] at h15
 refine .sr<|.m Z Z<|.yv (.geq Z Z) Z<|.a Z Z<|.nt<|.cd Z (fun h18 => ?_) (fun h18 => ?_)
 ·try simp only [dt] at h18
  refine .sr<|.a Z Z<|.nt<|.rt<|.bR<|.tR<|?_
  refine Sx.ret1 (.inl rfl) rfl (.tmp rfl) fun W s => ⟨?_,s.ext⟩
  first
   | (rw [lvR];(try simp only [decide_eq_true_eq,decide_eq_false_iff_not] at *);first | (rw [if_pos (by omega)];rfl) | (rw [if_neg (by omega),if_pos (by omega)];rfl) | (rw [if_neg (by omega),if_neg (by omega),if_pos (by omega)];rfl) | (rw [if_neg (by omega),if_neg (by omega),if_neg (by omega),if_pos (by omega)];rfl) | (rw [if_neg (by omega),if_neg (by omega),if_neg (by omega),if_neg (by omega),if_pos (by omega)];rfl) | (rw [if_neg (by omega),if_neg (by omega),if_neg (by omega),if_neg (by omega),if_neg (by omega),if_pos (by omega)];rfl) | (rw [if_neg (by omega),if_neg (by omega),if_neg (by omega),if_neg (by omega),if_neg (by omega),if_neg (by omega)];rfl))
 try simp only [df] at h18
 refine .sk<|.bN<|.tN<|.sr<|.a Z Z<|.nt<|.rt<|?_
 refine Sx.ret1 (.inl rfl) rfl (.tmp rfl) fun W s => ⟨?_,s.ext⟩
 first
  | (rw [lvR];(try simp only [decide_eq_true_eq,decide_eq_false_iff_not] at *);first | (rw [if_pos (by omega)];rfl) | (rw [if_neg (by omega),if_pos (by omega)];rfl) | (rw [if_neg (by omega),if_neg (by omega),if_pos (by omega)];rfl) | (rw [if_neg (by omega),if_neg (by omega),if_neg (by omega),if_pos (by omega)];rfl) | (rw [if_neg (by omega),if_neg (by omega),if_neg (by omega),if_neg (by omega),if_pos (by omega)];rfl) | (rw [if_neg (by omega),if_neg (by omega),if_neg (by omega),if_neg (by omega),if_neg (by omega),if_pos (by omega)];rfl) | (rw [if_neg (by omega),if_neg (by omega),if_neg (by omega),if_neg (by omega),if_neg (by omega),if_neg (by omega)];rfl))
set_option maxRecDepth 100000 in
theorem symbol_any (H : Hp) (k : Nat) (h1 : 11 ≤ k) (h2 : k ≤ 23) (w : World) (hA : Agr H w) : Calls Tryz.prog 157 #[.int .i64 (k : Nat)] w fun r w' => r = .returned (strV (symsR.getD (k - 11) [])) ∧ Ext w w' := by
 refine Sx.enter (H := H) Tryz.func157 rfl Tryz.ntmps157 rfl hA ?_
 refine .sr<|.a Z Z<|.ns<|.bl Z (Fx.bsl66_13 _ _ _ _ _ _ _ _ _ _ _ _ _) Z fun b3 => .m Z Z<|.yv (.sub Z Z (c := ((k - 11 : Nat) : Int)) ((w6 (by omega)).trans (by omega))) Z<|.yv (.indexSl Fx.sl66 Z Z (i := k - 11) Z (by omega) (q := k - 11) (by omega)) Z<|.yv (.load (v := strV (symsR.getD (k - 11) [])) Z Fx.agg9 (.head _) (strs_at (es := symsR) (by show k - 11 < 13;omega))) Z<|.a Z Z<|.nt<|.rt<|?_
 exact Sx.ret1 (.inl rfl) rfl (.tmp rfl) fun W s => ⟨rfl,s.ext⟩
def TextR (H : Hp) (e : Ex) : Prop := ∀ (cs : List Value) (w : World),Rep H (dEx .i64 e) cs → Ex.all frmE e = true → e.text.length ≤ 1000000000 → Agr H w →
 Calls Tryz.prog 151 #[.agg cs.toArray] w fun r w' => r = .returned (strV e.text) ∧ Ext w w'
set_option maxRecDepth 100000 in
theorem operandR_any (H : Hp) (e : Ex) (ht : TextR H e) (cs : List Value) (h : Rep H (dEx .i64 e) cs) (hf : Ex.all frmE e = true) (hl : e.text.length ≤ 1000000000) (k : Nat) (w : World) (hA : Agr H w) :
 Calls Tryz.prog 155 #[.agg cs.toArray,.int .i64 (k : Nat)] w fun r w' => r = .returned (strV (opT (k + 1) ((shapeOf e.op).lv,e.text))) ∧ Ext w w' := by
 obtain ⟨op,nm,nn,args⟩ := e
 obtain ⟨p,c,rfl,hs,hnm⟩ := ex_open h
 have hlv := lvR_ok (op := op) (by have := hf;rw [all_mk,Bool.and_eq_true] at this;have := this.1;simp only [frmE,Bool.and_eq_true] at this;exact this.1.1.1)
 refine Sx.enter (H := H) Tryz.func155 rfl Tryz.ntmps155 rfl hA ?_
 refine .sr<|.bx Z Z Z fun b2 => .a Z Z<|.nt<|.sq<|.sr<|.yv (.fieldAddr Z Fx.field51_0) Z<|.yv (.load Z Fx.agg3 (.head _) Z) Z<|.yv (.cast (.call Fx.call156 Z (fun W s => level_any H op.toNat W s.agr)) (by rw [hlv])) Z<|.m Z Z<|.yv (.leq Z Z) Z<|.nt<|.cd Z (fun h9 => ?_) (fun h9 => ?_)
 ·try simp only [dt] at h9
  refine .sr<|.yv (.loadW Z Fx.agg51 (.head _) Z) Z<|.yv (.call Fx.call151 Z (fun W s => ht _ W h hf hl s.agr)) Z<|.yv (.app Z Z (by (try simp only [List.length_append,List.length_cons,List.length_nil]);omega)) Z<|.yv (.app Z Z (by (try simp only [List.length_append,List.length_cons,List.length_nil]);omega)) Z<|.a Z Z<|.nt<|.rt<|.tR<|?_
  refine Sx.ret1 (.inl rfl) rfl (.tmp rfl) fun W s => ⟨?_,s.ext⟩
  first
   | (rw [opT,if_pos (by show (shapeOf op).lv < k + 1;omega)] <;> rfl)
   | (rw [opT,if_neg (by show ¬ (shapeOf op).lv < k + 1;omega)] <;> rfl)
 try simp only [df] at h9
 refine .sk<|.tN<|.sr<|.yv (.loadW Z Fx.agg51 (.head _) Z) Z<|.yv (.call Fx.call151 Z (fun W s => ht _ W h hf hl s.agr)) Z<|.a Z Z<|.nt<|.rt<|?_
 refine Sx.ret1 (.inl rfl) rfl (.tmp rfl) fun W s => ⟨?_,s.ext⟩
 first
  | (rw [opT,if_pos (by show (shapeOf op).lv < k + 1;omega)] <;> rfl)
  | (rw [opT,if_neg (by show ¬ (shapeOf op).lv < k + 1;omega)] <;> rfl)
theorem operandRm_any (H : Hp) (e : Ex) (ht : TextR H e) (cs : List Value) (h : Rep H (dEx .i64 e) cs) (hf : Ex.all frmE e = true) (hl : e.text.length ≤ 1000000000) (k m : Nat) (hk : k + 1 = m) (w : World) (hA : Agr H w) :
 Calls Tryz.prog 155 #[.agg cs.toArray,.int .i64 (k : Nat)] w fun r w' => r = .returned (strV (opT m ((shapeOf e.op).lv,e.text))) ∧ Ext w w' := by
 subst hk
 exact operandR_any H e ht cs h hf hl k w hA
theorem operandR6_any (H : Hp) (e : Ex) (ht : TextR H e) (cs : List Value) (h : Rep H (dEx .i64 e) cs) (hf : Ex.all frmE e = true) (hl : e.text.length ≤ 1000000000) (w : World) (hA : Agr H w) :
 Calls Tryz.prog 155 #[.agg cs.toArray,.int .i64 5] w fun r w' => r = .returned (strV (opT 6 ((shapeOf e.op).lv,e.text))) ∧ Ext w w' := operandR_any H e ht cs h hf hl 5 w hA
theorem txt_k6 {nm : Str} {n : Int64} {ls : List (Nat × Str)} : txt 6 nm n ls = nm ++ ([91] : Str) ++ (ls.getD 0 (0,[])).2 ++ ([93] : Str) := by rw [txt,if_neg (by decide),if_neg (by decide),if_pos (by decide),show (shapeOf 6).tx = [] from rfl,List.nil_append]
theorem txt_k7 {nm : Str} {n : Int64} {ls : List (Nat × Str)} : txt 7 nm n ls = ([104,97,115,32] : Str) ++ nm ++ ([91] : Str) ++ (ls.getD 0 (0,[])).2 ++ ([93] : Str) := by rw [txt,if_neg (by decide),if_neg (by decide),if_pos (by decide),show (shapeOf 7).tx = [104,97,115,32] from rfl]
theorem txt_k9 {nm : Str} {n : Int64} {ls : List (Nat × Str)} : txt 9 nm n ls = ([45] : Str) ++ opT 6 (ls.getD 0 (0,[])) := by rw [txt,if_neg (by decide),if_neg (by decide),if_neg (by decide),if_pos (by decide),show (shapeOf 9).tx = [45] from rfl,show (shapeOf 9).lv = 6 from rfl]
theorem txt_k10 {nm : Str} {n : Int64} {ls : List (Nat × Str)} : txt 10 nm n ls = ([110,111,116,32] : Str) ++ opT 6 (ls.getD 0 (0,[])) := by rw [txt,if_neg (by decide),if_neg (by decide),if_neg (by decide),if_pos (by decide),show (shapeOf 10).tx = [110,111,116,32] from rfl,show (shapeOf 10).lv = 6 from rfl]
theorem shape_two {op : UInt8} (h1 : 11 ≤ op.toNat) (h2 : op.toNat ≤ 23) : (shapeOf op).n = 2 := by
 have key : ∀ i ∈ List.range 256,11 ≤ i → i ≤ 23 → (shapeOf (UInt8.ofNat i)).n = 2 := by decide +kernel
 have h := key op.toNat (List.mem_range.2 op.toNat_lt)
 rw [UInt8.ofNat_toNat] at h
 exact h h1 h2
theorem shape_lv1 {op : UInt8} (h1 : 11 ≤ op.toNat) (h2 : op.toNat ≤ 23) : 1 ≤ (shapeOf op).lv ∧ (shapeOf op).lv ≤ 5 := by
 have key : ∀ i ∈ List.range 256,11 ≤ i → i ≤ 23 → 1 ≤ (shapeOf (UInt8.ofNat i)).lv ∧ (shapeOf (UInt8.ofNat i)).lv ≤ 5 := by decide +kernel
 have h := key op.toNat (List.mem_range.2 op.toNat_lt)
 rw [UInt8.ofNat_toNat] at h
 exact h h1 h2
theorem lft_back {l : Nat} (h : 1 ≤ l ∧ l ≤ 5) : lftT l - 1 + 1 = lftT l := by unfold lftT;split <;> omega
theorem text_two {op : UInt8} {nm : Str} {n : Int64} {args : List Ex} (h1 : 11 ≤ op.toNat) (h2 : op.toNat ≤ 23) (k0 : 0 < args.length) (k1 : 1 < args.length) : Ex.text (.mk op nm n args) =
 opT (lftT (shapeOf op).lv) ((shapeOf args[0].op).lv,args[0].text) ++ ([32] : Str) ++ symsR.getD (op.toNat - 11) [] ++ ([32] : Str) ++ opT ((shapeOf op).lv + 1) ((shapeOf args[1].op).lv,args[1].text) := by
 have e : ∀ v : UInt8,v.toNat ≤ 10 → ¬ op = v := fun v hv e => by rw [e] at h1;omega
 have e2 := shape_two h1 h2
 rw [text_mk,txt,if_neg (e 1 (by decide)),if_neg (not_or.2 ⟨e 5 (by decide),e 8 (by decide)⟩),if_neg (not_or.2 ⟨e 6 (by decide),e 7 (by decide)⟩),if_neg (not_or.2 ⟨e 9 (by decide),e 10 (by decide)⟩),if_neg (by omega),map_getD k0,map_getD k1,sym_tx h1 h2]
 simp only [List.append_assoc]
set_option maxRecDepth 100000 in
theorem printExprR_any (H : Hp) (e : Ex) : TextR H e := by
 induction e using Ex.ind with | _ op nm nn args ih
 intro cs w h hf hl hA
 obtain ⟨p,c,rfl,hs,hnm⟩ := ex_open h
 rw [all_mk,Bool.and_eq_true] at hf
 obtain ⟨hf1,hf2⟩ := hf
 simp only [frmE,Bool.and_eq_true,decide_eq_true_eq] at hf1
 obtain ⟨⟨⟨hok,har⟩,_⟩,hN⟩ := hf1
 have hok0 := hok
 refine Sx.enter (H := H) Tryz.func151 rfl Tryz.ntmps151 rfl hA ?_
 refine .sr<|.bx Z Z Z fun b1 => .a Z Z<|.nt<|.sq<|.sr<|.yv (.fieldAddr Z Fx.field51_0) Z<|.yv (.load Z Fx.agg3 (.head _) Z) Z<|.nt<|.bk<|.sr<|.yv (.eql Z Z) Z<|.a Z Z<|.nt<|.cd Z (fun h7 => ?_) (fun h7 => ?_)
 ·try simp only [dt] at h7
  have e1 : op = 1 := UInt8.toNat_inj.1 (by show op.toNat = 1;omega)
  subst e1
  have hn : args.length = 0 := har.trans (by decide)
  have h1n : 0 ≤ nn.toInt := by simpa using hN
  refine .sr<|.yv (.fieldAddr Z Fx.field51_2) Z<|.yv (.load Z Fx.agg2 (.head _) Z) Z<|.yv (.call Fx.call33 Z (fun W s => number_any H nn.toInt (by have := nn.le_toInt;omega) (by have := nn.toInt_lt;omega) W s.agr)) Z<|.a Z Z<|.nt<|.rt<|.bR<|.tR<|?_
  refine Sx.ret1 (.inl rfl) rfl (.tmp rfl) fun W s => ⟨?_,s.ext⟩
  first
   | (rfl)
   | (rw [text_mk,txt];rfl)
   | (simp only [List.append_assoc];rfl)
 try simp only [df] at h7
 have n1 : ¬ op.toNat = 1 := by omega
 refine .sr<|.yv (.eql Z Z) Z<|.a Z Z<|.nt<|.cd Z (fun h12 => ?_) (fun h12 => ?_)
 ·try simp only [dt] at h12
  have e2 : op = 2 := UInt8.toNat_inj.1 (by show op.toNat = 2;omega)
  subst e2
  have hn : args.length = 0 := har.trans (by decide)
  refine .sr<|.a Z Z<|.nt<|.rt<|.bR<|.tR<|?_
  refine Sx.ret1 (.inl rfl) rfl (.tmp rfl) fun W s => ⟨?_,s.ext⟩
  first
   | (rfl)
   | (rw [text_mk,txt];rfl)
   | (simp only [List.append_assoc];rfl)
 try simp only [df] at h12
 have n2 : ¬ op.toNat = 2 := by omega
 refine .sr<|.yv (.eql Z Z) Z<|.a Z Z<|.nt<|.cd Z (fun h14 => ?_) (fun h14 => ?_)
 ·try simp only [dt] at h14
  have e3 : op = 3 := UInt8.toNat_inj.1 (by show op.toNat = 3;omega)
  subst e3
  have hn : args.length = 0 := har.trans (by decide)
  refine .sr<|.a Z Z<|.nt<|.rt<|.bR<|.tR<|?_
  refine Sx.ret1 (.inl rfl) rfl (.tmp rfl) fun W s => ⟨?_,s.ext⟩
  first
   | (rfl)
   | (rw [text_mk,txt];rfl)
   | (simp only [List.append_assoc];rfl)
 try simp only [df] at h14
 have n3 : ¬ op.toNat = 3 := by omega
 refine .sr<|.yv (.eql Z Z) Z<|.a Z Z<|.nt<|.cd Z (fun h16 => ?_) (fun h16 => ?_)
 ·try simp only [dt] at h16
  have e4 : op = 4 := UInt8.toNat_inj.1 (by show op.toNat = 4;omega)
  subst e4
  have hn : args.length = 0 := har.trans (by decide)
  refine .sr<|.a Z Z<|.nt<|.rt<|.bR<|.tR<|?_
  refine Sx.ret1 (.inl rfl) rfl (.tmp rfl) fun W s => ⟨?_,s.ext⟩
  first
   | (rfl)
   | (rw [text_mk,txt];rfl)
   | (simp only [List.append_assoc];rfl)
 try simp only [df] at h16
 have n4 : ¬ op.toNat = 4 := by omega
 refine .sr<|.yv (.eql Z Z) Z<|.a Z Z<|.nt<|.cd Z (fun h18 => ?_) (fun h18 => ?_)
 ·try simp only [dt] at h18
  have e5 : op = 5 := UInt8.toNat_inj.1 (by show op.toNat = 5;omega)
  subst e5
  have hn : args.length = 0 := har.trans (by decide)
  refine .sr<|.yv (.fieldAddr Z Fx.field51_1) Z<|.yv (.load Z Fx.agg9 (.head _) Z) Z<|.a Z Z<|.nt<|.rt<|.bR<|.tR<|?_
  refine Sx.ret1 (.inl rfl) rfl (.tmp rfl) fun W s => ⟨?_,s.ext⟩
  first
   | (rfl)
   | (rw [text_mk,txt];rfl)
   | (simp only [List.append_assoc];rfl)
 try simp only [df] at h18
 have n5 : ¬ op.toNat = 5 := by omega
 refine .sr<|.yv (.eql Z Z) Z<|.a Z Z<|.nt<|.cd Z (fun h22 => ?_) (fun h22 => ?_)
 ·try simp only [dt] at h22
  have e6 : op = 6 := UInt8.toNat_inj.1 (by show op.toNat = 6;omega)
  subst e6
  have hn : args.length = 1 := har.trans (by decide)
  have h0 : 0 < args.length := by omega
  obtain ⟨b0,o0,c0,hp0,r0,l0,m0⟩ := hs.elem (map_at h0)
  cases hp0
  have hf0 := lalls_at h0 hf2
  have htx : Ex.text (.mk 6 nm nn args) = nm ++ ([91] : Str) ++ Ex.text args[0] ++ ([93] : Str) := by rw [text_mk,txt_k6,map_getD h0]
  rw [htx] at hl ⊢
  have hO := opT_len 6 ((shapeOf args[0].op).lv,Ex.text args[0])
  dsimp only at hO
  simp only [List.length_append] at hl
  refine .sq<|.fl (trip := [(_,_,_),(_,_,_),(_,_,_),(_,_,_),(_,_,_),(_,_,_),(_,_,_),(_,_,_),(_,_,_),(_,_,_)]) 10 [(0,0),(1,0),(2,0),(3,0),(4,0),(5,0),(6,0),(7,0),(8,0),(9,0)] (by kernel_rfl) (by kernel_rfl) Z<|.yv (.fieldAddr Z Fx.field51_1) Z<|.yv (.load Z Fx.agg9 (.head _) Z) Z<|.yv (.app Z Z (by (try simp only [List.length_append]);(try simp only [List.length_cons,List.length_nil]);omega)) Z<|.yv (.fieldAddr Z Fx.field51_3) Z<|.yv (.load Z Fx.agg49 (.head _) Z) Z<|.yv (.indexSl Fx.sl49 Z Z (i := 0) Z (by omega) (q := o0 + 0 * 4) Z) Z<|.yv (.loadMW Z Fx.agg51 m0 l0) Z<|.yv (.call Fx.call151 Z (fun W s => ih _ (List.getElem_mem h0) _ W r0 hf0 (by omega) s.agr)) Z<|.yv (.app Z Z (by (try simp only [List.length_append]);(try simp only [List.length_cons,List.length_nil]);omega)) Z<|.yv (.app Z Z (by (try simp only [List.length_append]);(try simp only [List.length_cons,List.length_nil]);omega)) Z<|.fn (tl := [_]) Z<|.a Z Z<|.nt<|.rt<|.bR<|.tR<|?_
  refine Sx.ret1 (.inl rfl) rfl (.tmp rfl) fun W s => ⟨?_,s.ext⟩
  first
   | (rfl)
   | (rw [text_mk,txt];rfl)
   | (simp only [List.append_assoc];rfl)
 try simp only [df] at h22
 have n6 : ¬ op.toNat = 6 := by omega
 refine .sr<|.yv (.eql Z Z) Z<|.a Z Z<|.nt<|.cd Z (fun h34 => ?_) (fun h34 => ?_)
 ·try simp only [dt] at h34
  have e7 : op = 7 := UInt8.toNat_inj.1 (by show op.toNat = 7;omega)
  subst e7
  have hn : args.length = 1 := har.trans (by decide)
  have h0 : 0 < args.length := by omega
  obtain ⟨b0,o0,c0,hp0,r0,l0,m0⟩ := hs.elem (map_at h0)
  cases hp0
  have hf0 := lalls_at h0 hf2
  have htx : Ex.text (.mk 7 nm nn args) = ([104,97,115,32] : Str) ++ nm ++ ([91] : Str) ++ Ex.text args[0] ++ ([93] : Str) := by rw [text_mk,txt_k7,map_getD h0]
  rw [htx] at hl ⊢
  have hO := opT_len 6 ((shapeOf args[0].op).lv,Ex.text args[0])
  dsimp only at hO
  simp only [List.length_append] at hl
  refine .sq<|.fl (trip := [(_,_,_),(_,_,_),(_,_,_),(_,_,_),(_,_,_),(_,_,_),(_,_,_),(_,_,_),(_,_,_),(_,_,_),(_,_,_)]) 11 [(0,0),(1,0),(2,0),(3,0),(4,0),(5,0),(6,0),(7,0),(8,0),(9,0),(10,0)] (by kernel_rfl) (by kernel_rfl) Z<|.yv (.fieldAddr Z Fx.field51_1) Z<|.yv (.load Z Fx.agg9 (.head _) Z) Z<|.yv (.app Z Z (by (try simp only [List.length_append]);(try simp only [List.length_cons,List.length_nil]);omega)) Z<|.yv (.app Z Z (by (try simp only [List.length_append]);(try simp only [List.length_cons,List.length_nil]);omega)) Z<|.yv (.fieldAddr Z Fx.field51_3) Z<|.yv (.load Z Fx.agg49 (.head _) Z) Z<|.yv (.indexSl Fx.sl49 Z Z (i := 0) Z (by omega) (q := o0 + 0 * 4) Z) Z<|.yv (.loadMW Z Fx.agg51 m0 l0) Z<|.yv (.call Fx.call151 Z (fun W s => ih _ (List.getElem_mem h0) _ W r0 hf0 (by omega) s.agr)) Z<|.yv (.app Z Z (by (try simp only [List.length_append]);(try simp only [List.length_cons,List.length_nil]);omega)) Z<|.yv (.app Z Z (by (try simp only [List.length_append]);(try simp only [List.length_cons,List.length_nil]);omega)) Z<|.fn (tl := [_]) Z<|.a Z Z<|.nt<|.rt<|.bR<|.tR<|?_
  refine Sx.ret1 (.inl rfl) rfl (.tmp rfl) fun W s => ⟨?_,s.ext⟩
  first
   | (rfl)
   | (rw [text_mk,txt];rfl)
   | (simp only [List.append_assoc];rfl)
 try simp only [df] at h34
 have n7 : ¬ op.toNat = 7 := by omega
 refine .sr<|.yv (.eql Z Z) Z<|.a Z Z<|.nt<|.cd Z (fun h47 => ?_) (fun h47 => ?_)
 ·try simp only [dt] at h47
  have e8 : op = 8 := UInt8.toNat_inj.1 (by show op.toNat = 8;omega)
  subst e8
  have hn : args.length = 0 := har.trans (by decide)
  refine .sr<|.yv (.fieldAddr Z Fx.field51_1) Z<|.yv (.load Z Fx.agg9 (.head _) Z) Z<|.yv (.app Z Z (by (try simp only [List.length_append]);(try simp only [List.length_cons,List.length_nil]);omega)) Z<|.a Z Z<|.nt<|.rt<|.bR<|.tR<|?_
  refine Sx.ret1 (.inl rfl) rfl (.tmp rfl) fun W s => ⟨?_,s.ext⟩
  first
   | (rfl)
   | (rw [text_mk,txt];rfl)
   | (simp only [List.append_assoc];rfl)
 try simp only [df] at h47
 have n8 : ¬ op.toNat = 8 := by omega
 refine .sr<|.yv (.eql Z Z) Z<|.a Z Z<|.nt<|.cd Z (fun h52 => ?_) (fun h52 => ?_)
 ·try simp only [dt] at h52
  have e9 : op = 9 := UInt8.toNat_inj.1 (by show op.toNat = 9;omega)
  subst e9
  have hn : args.length = 1 := har.trans (by decide)
  have h0 : 0 < args.length := by omega
  obtain ⟨b0,o0,c0,hp0,r0,l0,m0⟩ := hs.elem (map_at h0)
  cases hp0
  have hf0 := lalls_at h0 hf2
  have htx : Ex.text (.mk 9 nm nn args) = ([45] : Str) ++ opT 6 ((shapeOf args[0].op).lv,Ex.text args[0]) := by rw [text_mk,txt_k9,map_getD h0]
  rw [htx] at hl ⊢
  have hO := opT_len 6 ((shapeOf args[0].op).lv,Ex.text args[0])
  dsimp only at hO
  simp only [List.length_append] at hl
  refine .sr<|.yv (.fieldAddr Z Fx.field51_3) Z<|.yv (.load Z Fx.agg49 (.head _) Z) Z<|.yv (.indexSl Fx.sl49 Z Z (i := 0) Z (by omega) (q := o0 + 0 * 4) Z) Z<|.yv (.loadMW Z Fx.agg51 m0 l0) Z<|.yv (.call Fx.call155 Z (fun W s => operandR6_any H _ (ih _ (List.getElem_mem h0)) _ r0 hf0 (by omega) W s.agr)) Z<|.yv (.app Z Z (by (try simp only [List.length_append]);(try simp only [List.length_cons,List.length_nil]);omega)) Z<|.a Z Z<|.nt<|.rt<|.bR<|.tR<|?_
  refine Sx.ret1 (.inl rfl) rfl (.tmp rfl) fun W s => ⟨?_,s.ext⟩
  first
   | (rfl)
   | (rw [text_mk,txt];rfl)
   | (simp only [List.append_assoc];rfl)
 try simp only [df] at h52
 have n9 : ¬ op.toNat = 9 := by omega
 refine .sr<|.yv (.eql Z Z) Z<|.a Z Z<|.nt<|.cd Z (fun h60 => ?_) (fun h60 => ?_)
 ·try simp only [dt] at h60
  have e10 : op = 10 := UInt8.toNat_inj.1 (by show op.toNat = 10;omega)
  subst e10
  have hn : args.length = 1 := har.trans (by decide)
  have h0 : 0 < args.length := by omega
  obtain ⟨b0,o0,c0,hp0,r0,l0,m0⟩ := hs.elem (map_at h0)
  cases hp0
  have hf0 := lalls_at h0 hf2
  have htx : Ex.text (.mk 10 nm nn args) = ([110,111,116,32] : Str) ++ opT 6 ((shapeOf args[0].op).lv,Ex.text args[0]) := by rw [text_mk,txt_k10,map_getD h0]
  rw [htx] at hl ⊢
  have hO := opT_len 6 ((shapeOf args[0].op).lv,Ex.text args[0])
  dsimp only at hO
  simp only [List.length_append] at hl
  refine .sr<|.yv (.fieldAddr Z Fx.field51_3) Z<|.yv (.load Z Fx.agg49 (.head _) Z) Z<|.yv (.indexSl Fx.sl49 Z Z (i := 0) Z (by omega) (q := o0 + 0 * 4) Z) Z<|.yv (.loadMW Z Fx.agg51 m0 l0) Z<|.yv (.call Fx.call155 Z (fun W s => operandR6_any H _ (ih _ (List.getElem_mem h0)) _ r0 hf0 (by omega) W s.agr)) Z<|.yv (.app Z Z (by (try simp only [List.length_append]);(try simp only [List.length_cons,List.length_nil]);omega)) Z<|.a Z Z<|.nt<|.rt<|.bR<|.tR<|?_
  refine Sx.ret1 (.inl rfl) rfl (.tmp rfl) fun W s => ⟨?_,s.ext⟩
  first
   | (rfl)
   | (rw [text_mk,txt];rfl)
   | (simp only [List.append_assoc];rfl)
 try simp only [df] at h60
 have n10 : ¬ op.toNat = 10 := by omega
 simp only [okOp,Bool.and_eq_true,decide_eq_true_eq] at hok
 have hop : 11 ≤ op.toNat := by omega
 have hn2 : args.length = 2 := har.trans (shape_two hop hok.2)
 have h0 : 0 < args.length := by omega
 obtain ⟨b0,o0,c0,hp0,r0,l0,m0⟩ := hs.elem (map_at h0)
 cases hp0
 have hf0 := lalls_at h0 hf2
 have h1 : 1 < args.length := by omega
 obtain ⟨b1x,o1,c1,hp1,r1,l1,m1⟩ := hs.elem (map_at h1)
 cases hp1
 have hf1 := lalls_at h1 hf2
 have htx := text_two (op := op) (nm := nm) (n := nn) (args := args) hop hok.2 h0 h1
 rw [htx] at hl ⊢
 simp only [List.length_append] at hl
 have ho := opT_len (lftT (shapeOf op).lv) ((shapeOf args[0].op).lv,args[0].text)
 have ho1 := opT_len ((shapeOf op).lv + 1) ((shapeOf args[1].op).lv,args[1].text)
 have hlv1 := shape_lv1 hop hok.2
 dsimp only at ho ho1
 refine .sk<|.bN<|.tN<|.sr<|.yv (.fieldAddr Z Fx.field51_0) Z<|.yv (.load Z Fx.agg3 (.head _) Z) Z<|.yv (.cast (.call Fx.call156 Z (fun W s => level_any H op.toNat W s.agr)) (by rw [lvR_ok hok0])) Z<|.a Z Z<|.ns<|.m Z Z<|.yv (.sub Z Z (c := (((shapeOf op).lv - 1 : Nat) : Int)) ((w6 (by omega)).trans (by omega))) Z<|.a Z Z<|.nt<|.cu (X := Unit) [(1,_),(3,_)] ⟨rfl,rfl,trivial⟩ (fun z => [(4,.int .i64 (lftT (shapeOf op).lv - 1 : Nat))]) (fun z => H) (fun z => [.box b1 [.int .i64 op.toNat,strV nm,.int .i64 nn.toInt,.slice (some ⟨b0,o0,none⟩) args.length c] 51]) (fun z => True) ?_ fun z hC => ?_
 ·
  refine .sr<|.m Z Z<|.yv (.eql Z Z) Z<|.nt<|.cd Z (fun h74 => ?_) (fun h74 => ?_)
  ·try simp only [dt] at h74
   exact .rg<|.a Z Z<|.nt<|.me () ⟨(by first | (rw [lftT,if_pos (by omega),show (shapeOf op).lv + 1 - 1 = 3 by omega];rfl) | (rw [lftT,if_neg (by omega)];rfl)),trivial⟩ ⟨rfl,rfl,trivial⟩ (fun _ s => s) trivial
  try simp only [df] at h74
  exact .sk<|.tN<|.me () ⟨(by first | (rw [lftT,if_pos (by omega),show (shapeOf op).lv + 1 - 1 = 3 by omega];rfl) | (rw [lftT,if_neg (by omega)];rfl)),trivial⟩ ⟨rfl,rfl,trivial⟩ (fun _ s => s) trivial
 refine .sq<|.fl (trip := [(_,_,_),(_,_,_),(_,_,_),(_,_,_),(_,_,_),(_,_,_),(_,_,_),(_,_,_),(_,_,_),(_,_,_),(_,_,_),(_,_,_),(_,_,_),(_,_,_),(_,_,_),(_,_,_),(_,_,_),(_,_,_),(_,_,_)]) 19 [(0,0),(1,0),(2,0),(3,0),(4,0),(5,0),(6,0),(7,0),(8,0),(9,0),(10,0),(11,0),(12,0),(13,0),(14,0),(15,0),(16,0),(17,0),(18,0)] (by kernel_rfl) (by kernel_rfl) Z<|.yv (.fieldAddr Z Fx.field51_3) Z<|.yv (.load Z Fx.agg49 (.head _) Z) Z<|.yv (.indexSl Fx.sl49 Z Z (i := 0) Z (by omega) (q := o0 + 0 * 4) Z) Z<|.yv (.loadMW Z Fx.agg51 m0 l0) Z<|.m Z Z<|.yv (.call Fx.call155 Z (fun W s => operandRm_any H _ (ih _ (List.getElem_mem h0)) _ r0 hf0 (by omega) (lftT (shapeOf op).lv - 1) (lftT (shapeOf op).lv) (lft_back hlv1) W s.agr)) Z<|.yv (.app Z Z (by (try simp only [List.length_append]);(try simp only [List.length_cons,List.length_nil]);omega)) Z<|.yv (.fieldAddr Z Fx.field51_0) Z<|.yv (.load Z Fx.agg3 (.head _) Z) Z<|.yv (.call Fx.call157 Z (fun W s => symbol_any H op.toNat hop hok.2 W s.agr)) Z<|.yv (.app Z Z (by (try simp only [List.length_append]);(try simp only [List.length_cons,List.length_nil]);omega)) Z<|.yv (.app Z Z (by (try simp only [List.length_append]);(try simp only [List.length_cons,List.length_nil]);omega)) Z<|.yv (.fieldAddr Z Fx.field51_3) Z<|.yv (.load Z Fx.agg49 (.head _) Z) Z<|.yv (.indexSl Fx.sl49 Z Z (i := 1) Z (by omega) (q := o0 + 1 * 4) Z) Z<|.yv (.loadMW Z Fx.agg51 m1 l1) Z<|.m Z Z<|.yv (.call Fx.call155 Z (fun W s => operandR_any H _ (ih _ (List.getElem_mem h1)) _ r1 hf1 (by omega) (shapeOf op).lv W s.agr)) Z<|.yv (.app Z Z (by (try simp only [List.length_append]);(try simp only [List.length_cons,List.length_nil]);omega)) Z<|.fn (tl := [_]) Z<|.a Z Z<|.nt<|.rt<|?_
 refine Sx.ret1 (.inl rfl) rfl (.tmp rfl) fun W s => ⟨?_,s.ext⟩
 first
  | (rfl)
  | (rw [text_mk,txt];rfl)
  | (simp only [List.append_assoc];rfl)
def BuiltC (x : List Value) (H' : Hp) : Prop := ∃ e : Ex,Rep H' (dEx .i64 e) x ∧ goodE 1 e
set_option maxRecDepth 100000 in
theorem buildR_any (H : Hp) (l : List Nd) (v : Value) (h0 : Rep H (.seq 5 (l.map dNd)) [v]) (w : World) (hA : Agr H w) :
 Calls Tryz.prog 17 #[v] w fun r w' => ∃ (x : List Value) (H' : Hp),BuiltC x H' ∧ r = .returned (.agg x.toArray) ∧ Grow H w H' w' := by
 obtain ⟨p,c,e,_⟩ := h0.sl
 simp only [List.cons.injEq,and_true,List.length_map] at e
 subst e
 have h := h0
 have hcap := h.cap
 refine Sx.enter (H := H) Tryz.func17 rfl Tryz.ntmps17 rfl hA ?_
 refine .sr<|.al Fx.zero51 Z fun b2 => .ns<|.m Z Z<|.m Z Z<|.yv (.lenSl Fx.sl53 Z) Z<|.yv (.min2 Z Z (c := ((min l.length 60 : Nat) : Int)) (by omega)) Z<|.yv (.cutHi2 Fx.sl53 Z Z (h := min l.length 60) Z (by have := h.len.2.1;omega)) Z<|.ct (X := List Value × Value) Fx.call49 Z (fun W s => build_any 30 1 Z H (l.take (min l.length 60)) _ W (by rw [List.map_take];exact rep_take2 h (by omega)) s.agr) Z fun y H1 hc u1 => ?_
 obtain ⟨x,y⟩ := y
 obtain ⟨e,rest,hx,hg,_⟩ := hc
 dsimp only at hx
 refine .m Z Z<|.yv (.extract Z Z) Z<|.yv (.extract Z Z) Z<|.al Fx.zero51 Z fun b3 => .sV .head Z Z Fx.size51 (ex_len hx) hx.one Z<|.a Z Z<|.ns<|.yv (.loadW Z Fx.agg51 (.head _) (ex_len hx)) Z<|.sV (.tail<|.head) Z Z Fx.size51 (ex_len hx) hx.one Z<|.nt<|.rt<|?_
 exact Sx.ret1 (.inl rfl) rfl (.cell rfl Fx.agg51 (.tail _<|.head _) (ex_len hx)) fun W t => ⟨x,H1,⟨e,hx,hg⟩,rfl,u1.grow t⟩
theorem Fx.agg53 : aggN Tryz.prog 53 = Option.some Option.none := by kernel_rfl
theorem Fx.call17 : callN Tryz.prog 17 = Bool.true := by kernel_rfl
theorem Fx.call93 : callN Tryz.prog 93 = Bool.true := by kernel_rfl
theorem Fx.field55_0 : fieldN Tryz.prog 55 0 = Option.some 0 := by kernel_rfl
theorem Fx.field55_2 : fieldN Tryz.prog 55 2 = Option.some 2 := by kernel_rfl
theorem Fx.field55_3 : fieldN Tryz.prog 55 3 = Option.some 3 := by kernel_rfl
theorem Fx.field55_4 : fieldN Tryz.prog 55 4 = Option.some 4 := by kernel_rfl
theorem Fx.field150_0 : fieldN Tryz.prog 150 0 = Option.some 0 := by kernel_rfl
theorem Fx.field150_1 : fieldN Tryz.prog 150 1 = Option.some 1 := by kernel_rfl
theorem Fx.field150_2 : fieldN Tryz.prog 150 2 = Option.some 2 := by kernel_rfl
theorem Fx.field150_3 : fieldN Tryz.prog 150 3 = Option.some 3 := by kernel_rfl
theorem Fx.int2 : intN Tryz.prog 2 = Option.some Go.IntKind.i64 := by kernel_rfl
theorem Fx.int139 : intN Tryz.prog 139 = Option.some Go.IntKind.u64 := by kernel_rfl
theorem Fx.bsl49_0  : bslN Tryz.prog 49 0 [] = some (51,[]) := by kernel_rfl
theorem qu8 (a : Nat) {b : Nat} (h : a < 256) (hb : 0 < b) : IntKind.u8.wrap (Int.tdiv (a : Int) (b : Int)) = ((a / b : Nat) : Int) := by
 rw [Int.tdiv_eq_ediv_of_nonneg (Int.natCast_nonneg _),show (a : Int) / (b : Int) = ((a / b : Nat) : Int) from rfl]
 have h3 : ∀ n : Nat,n < 256 → IntKind.u8.wrap (n : Int) = (n : Int) := fun n hn => by
  have key : ∀ i ∈ List.range 256,IntKind.u8.wrap (i : Int) = (i : Int) := by decide +kernel
  exact key n (List.mem_range.2 hn)
 exact h3 _ (Nat.lt_of_le_of_lt (Nat.div_le_self _ _) h)
theorem wu64 (i : Int) : ∃ m : Nat,IntKind.u64.wrap i = (m : Int) := ⟨(IntKind.u64.wrap i).toNat,by
 have : 0 ≤ IntKind.u64.wrap i := by simp only [IntKind.wrap,IntKind.signed,IntKind.bits];simp;omega
 omega⟩
theorem ofN13 {m : Nat} (h : m < 13) : (UInt8.ofNat m).toNat = m := by rw [UInt8.toNat_ofNat'];omega
theorem sm_len {H : Hp} {k : IntKind} {s : Sm} {cs : List Value} (h : Rep H (dSm k s) cs) : cs.length = 6 := by
 obtain ⟨kd,nm,hd,ex,th,el⟩ := s
 obtain ⟨p1,c1,p2,c2,p3,c3,rfl,_⟩ := sm_open h
 rfl
set_option maxRecDepth 100000 in
theorem wrap_any (H : Hp) (s : Sm) (n : Nat) (hn : n ≤ 100) (cs : List Value) (w : World) (h : Rep H (dSm .i64 s) cs) (hA : Agr H w) : Calls Tryz.prog 93 #[.agg cs.toArray,.int .i64 (n : Nat)] w fun r w' => ∃ (v : List Value) (H' : Hp),Rep H' (dSm .i64 (wrapS n s)) v ∧ r = .returned (.agg v.toArray) ∧ Grow H w H' w' := by
 refine Sx.enter (H := H) Tryz.func93 rfl Tryz.ntmps93 rfl hA ?_
 refine .sr<|.bx Z Z Z fun b2 => .al Fx.zero150 Z fun b4 => .nt<|.sq<|.sr<|.a Z Z<|.nt<|.bk<|.pm [1,0] [_,_] Z Z<|.lp (X := Nat × Hp × List Value) [(1,_),(2,_),(4,_)] ⟨rfl,rfl,rfl,trivial⟩ [_] (fun z => [(5,.int .i64 (z.1 : Nat))]) (fun z => z.2.1) (fun z => [.box b2 z.2.2 150]) (fun z => z.1 ≤ n ∧ HUp w H z.2.1 ∧ Rep z.2.1 (dSm .i64 (wrapS z.1 s)) z.2.2) (fun z => n - z.1) (0,H,_) (fun _ s => s) ⟨rfl,trivial⟩ ⟨by simp,.refl,h⟩ fun z hC => ?_
 obtain ⟨k,H1,xs⟩ := z
 dsimp only at hC ⊢
 obtain ⟨hk0,u1,hr⟩ := hC
 generalize hw : wrapS k s = s1 at hr
 obtain ⟨kd,nm,hd,ex,th,el⟩ := s1
 obtain ⟨p1,c1,p2,c2,p3,c3,rfl,hs1,hs2,hs3,hn1,hn2⟩ := sm_open hr
 refine .sq<|.sr<|.m Z Z<|.m Z Z<|.yv (.lss Z Z) Z<|.nt<|.cd Z (fun h8 => ?_) (fun h8 => ?_)
 ·try simp only [dt] at h8
  have hk : k < n := by omega
  refine .sk<|.tN<|.sq<|.bk<|.rg<|.yv (.build Z (Fx.bld51_0 _)) Z<|.bl Z (Fx.bsl49_1 _ _ _ _) Z fun b12 => .yv (.loadW Z Fx.agg150 (.tail _<|.head _) Z) Z<|.bl Z (Fx.bsl98_1 _ _ _ _ _ _) Z fun b14 => .yv (.build Z (Fx.bld150_0_3_4 _ _ _ _ _ _ _)) Z<|.sW (.tail<|.tail<|.head) Z Z Fx.size150 (by simp [Value.oneCell',strV]) Z<|?_
  refine Sx.freezeBox fun Ha ua ma => ?_
  refine Sx.freezeBox fun Hb ub mb => ?_
  exact .nl<|.bN<|.tN<|.rg<|.m Z Z<|.yv (.add Z Z (w6 (by omega))) Z<|.a Z Z<|.nt<|.ag (x := (k,H1,[.int .i64 kd.toNat,strV nm,strV hd,.slice p1 ex.length c1,.slice p2 th.length c2,.slice p3 el.length c3])) (k + 1,Hb,[.int .i64 4,.string ⟨#[]⟩,.string ⟨#[]⟩,.slice (some ⟨b12,0,none⟩) 1 1,.slice (some ⟨b14,0,none⟩) 1 1,.slice none 0 0]) ⟨rfl,trivial⟩ ⟨rfl,rfl,rfl,trivial⟩ (fun _ s => (s.pick [0,1] _ Z Z)) ⟨by dsimp only;omega,u1.trans (ua.trans ub),by dsimp only;rw [wrapS,hw];exact sm_shut (kd := 4) (nm := []) (hd := []) (ex := [.mk 2 [] 0 []]) (el := []) (by decide) (by decide) (Rep.mk (n := 1) (c := 1) mb (.single (ex_shut (op := 2) (nm := []) (n := 0) (args := []) (by decide) (Rep.empty (by decide))) Z) Z (Nat.le_refl _) (by decide)) (Rep.mk (n := 1) (c := 1) (ma.up ub.up) (.single (hr.up (ua.trans ub).up) Z) Z (Nat.le_refl _) (by decide)) (Rep.empty (by decide))⟩ (by dsimp only;omega)
 try simp only [df] at h8
 obtain rfl : k = n := by omega
 refine .ex<|.tE<|.tE<|.bE<|.tN<|.sr<|.yv (.loadW Z Fx.agg150 (.head _) Z) Z<|.sW (.tail<|.head) Z Z Fx.size150 (by simp [Value.oneCell',strV]) Z<|.nt<|.rt<|?_
 exact Sx.ret1 (.inl rfl) rfl (.cell rfl Fx.agg150 (.tail _<|.head _) rfl) fun W t => ⟨_,H1,by rw [hw];exact hr,rfl,u1.grow t⟩
set_option maxRecDepth 100000 in
theorem change_any (H : Hp) (s : Sm) (x : Sp) (cs xs : List Value) (w : World) (h : Rep H (dSm .i64 s) cs) (hX : Rep H (dSp x) xs) (hs : s.ex.length ≤ 1000000) (hA : Agr H w) : Calls Tryz.prog 94 #[.agg cs.toArray,.agg xs.toArray] w fun r w' => ∃ (v : List Value) (H' : Hp),(∃ s',Rep H' (dSm .i64 s') v ∧ Grew s s') ∧ r = .returned (.agg v.toArray) ∧ Grow H w H' w' := by
 obtain ⟨kd,nm,hd,ex,th,el⟩ := s
 obtain ⟨p1,c1,p2,c2,p3,c3,rfl,hs1,hs2,hs3,hn1,hn2⟩ := sm_open h
 obtain ⟨pN,cN,rfl,hN⟩ := sp_open hX
 have hs : ex.length ≤ 1000000 := hs
 obtain ⟨m0,hm0⟩ := wu64 x.n.toInt
 obtain ⟨m,hmm⟩ : ∃ m,m = m0 % 13 := ⟨_,rfl⟩
 have hm13 : m < 13 := by omega
 refine Sx.enter (H := H) Tryz.func94 rfl Tryz.ntmps94 rfl hA ?_
 refine .sr<|.bx Z Z Z fun b2 => .bx Z Z Z fun b3 => .al Fx.zero150 Z fun b4 => .ns<|.yv (.fieldAddr Z Fx.field55_3) Z<|.yv (.load Z Fx.agg2 (.tail _<|.head _) Z) Z<|.yv (.conv Z Fx.int2 Fx.int139 hm0) Z<|.yv (.rem Z Z (by decide) (c := ((m : Nat) : Int)) (by rw [hmm];exact tm2 _ 13)) Z<|.yv (.conv Z Fx.int139 Fx.int3 (c := ((m : Nat) : Int)) (w6 (by omega))) Z<|.a Z Z<|.nt<|.sq<|.sr<|.yv (.fieldAddr Z Fx.field55_0) Z<|.yv (.load Z Fx.agg5 (.tail _<|.head _) Z) Z<|.yv (.rem Z Z (by decide) (c := ((x.wh.toNat % 26 : Nat) : Int)) (by rw [Int.tmod_eq_emod_of_nonneg (by omega)];omega)) Z<|.nt<|.bk<|.sr<|.yv (.eql Z Z) Z<|.a Z Z<|.nt<|.cd Z (fun h14 => ?_) (fun h14 => ?_)
 ·skip
  refine .rg<|.m Z Z<|.yv (.fieldAddr Z Fx.field150_0) Z<|.st (.tail<|.tail<|.head) Z Z Fx.size3 Z (nb Z) Z<|.nl<|.bN<|.tN<|.sr<|.yv (.loadW Z Fx.agg150 (.tail _<|.tail _<|.head _) Z) Z<|.sW .head Z Z Fx.size150 (by show ∀ u ∈ [_,_,_,_,_,_],Value.oneCell' u = true;simp [Value.oneCell',strV]) Z<|.nt<|.rt<|?_
  exact Sx.ret1 (.inl rfl) rfl (.cell rfl Fx.agg150 (.head _) rfl) fun W t => ⟨_,H,⟨_,by have := sm_shut (kd := UInt8.ofNat m) (nm := nm) (hd := hd) (by omega) (by omega) hs1 hs2 hs3;rw [ofN13 hm13] at this;exact this,grew_kind⟩,rfl,(.refl : HUp w H H).grow t⟩
 skip
 refine .sr<|.yv (.eql Z Z) Z<|.a Z Z<|.nt<|.cd Z (fun h18 => ?_) (fun h18 => ?_)
 ·skip
  refine .rg<|.yv (.fieldAddr Z Fx.field55_2) Z<|.yv (.load Z Fx.agg5 (.tail _<|.head _) Z) Z<|.yv (.call Fx.call53 Z (fun W s => word_any H x.nm W s.agr)) Z<|.yv (.fieldAddr Z Fx.field150_1) Z<|.st (.tail<|.tail<|.head) Z Z Fx.size9 Z (nb Z) Z<|.nl<|.bN<|.tN<|.sr<|.yv (.loadW Z Fx.agg150 (.tail _<|.tail _<|.head _) Z) Z<|.sW .head Z Z Fx.size150 (by show ∀ u ∈ [_,_,_,_,_,_],Value.oneCell' u = true;simp [Value.oneCell',strV]) Z<|.nt<|.rt<|?_
  exact Sx.ret1 (.inl rfl) rfl (.cell rfl Fx.agg150 (.head _) rfl) fun W t => ⟨_,H,⟨_,sm_shut (kd := kd) (nm := wordR x.nm) (hd := hd) (by exact Nat.le_trans (word_len _) (by decide)) (by omega) hs1 hs2 hs3,grew_kind⟩,rfl,(.refl : HUp w H H).grow t⟩
 skip
 refine .sr<|.yv (.eql Z Z) Z<|.a Z Z<|.nt<|.cd Z (fun h24 => ?_) (fun h24 => ?_)
 ·skip
  refine .rg<|.yv (.fieldAddr Z Fx.field55_2) Z<|.yv (.load Z Fx.agg5 (.tail _<|.head _) Z) Z<|.yv (.call Fx.call53 Z (fun W s => word_any H x.nm W s.agr)) Z<|.yv (.fieldAddr Z Fx.field150_2) Z<|.st (.tail<|.tail<|.head) Z Z Fx.size9 Z (nb Z) Z<|.nl<|.bN<|.tN<|.sr<|.yv (.loadW Z Fx.agg150 (.tail _<|.tail _<|.head _) Z) Z<|.sW .head Z Z Fx.size150 (by show ∀ u ∈ [_,_,_,_,_,_],Value.oneCell' u = true;simp [Value.oneCell',strV]) Z<|.nt<|.rt<|?_
  exact Sx.ret1 (.inl rfl) rfl (.cell rfl Fx.agg150 (.head _) rfl) fun W t => ⟨_,H,⟨_,sm_shut (kd := kd) (nm := nm) (hd := wordR x.nm) (by omega) (by exact Nat.le_trans (word_len _) (by decide)) hs1 hs2 hs3,grew_kind⟩,rfl,(.refl : HUp w H H).grow t⟩
 skip
 refine .sr<|.yv (.eql Z Z) Z<|.a Z Z<|.nt<|.cd Z (fun h30 => ?_) (fun h30 => ?_)
 ·skip
  refine .fl (trip := [(_,_,_),(_,_,_),(_,_,_),(_,_,_),(_,_,_),(_,_,_),(_,_,_),(_,_,_)]) 8 [(1,0),(2,0),(4,0),(5,0),(0,1),(3,3),(6,1),(7,1)] (by kernel_rfl) (by kernel_rfl) Z<|.yv (.fieldAddr Z Fx.field150_3) Z<|.yv (.load Z Fx.agg49 (.tail _<|.tail _<|.head _) Z) Z<|.yv (.fieldAddr Z Fx.field55_4) Z<|.yv (.load Z Fx.agg53 (.tail _<|.head _) Z) Z<|.blR Z Fx.bsl49_0 Z (z := 4) Z (by decide) fun b32 => .apD Fx.row49 Z (fun _ _ => .head) Z hs1 (by simp [maxLen];omega) (by omega) Z (fun _ _ => (.yv (.load Z Fx.agg53 (.tail _<|.tail _<|.head _) Z)<|.yv (.fieldAddr Z Fx.field55_4)<|.done (by kernel_rfl)<|.done (by kernel_rfl)<|.nl)) fun xs35 p35 c35 hz35 => .ct (X := List Value) Fx.call17 Z (fun W s => buildR_any H x.nodes _ hN W s.agr) Z fun y H1 hc u1 => ?_
  obtain ⟨e,hx,hg⟩ := hc
  obtain ⟨op,enm,en,args⟩ := e
  obtain ⟨pe,ce,rfl,hes,hen⟩ := ex_open hx
  refine .bl Z (Fx.bsl49_1 _ _ _ _) Z fun b39 => .fn (tl := [_,_,_]) Z<|.ap (news := [.int .i64 op.toNat,strV enm,.int .i64 en.toInt,.slice pe args.length ce]) Fx.row49 Z (fun _ => (.tail<|.head)) Z (.box (.head _) z0) Z (by simp [Value.oneCell',strV]) (by simp [maxLen];omega) (by omega) Z fun r40 _ => .ra (.tail _<|.head _) fun p40 c40 e40 => .yv (.fieldAddr Z Fx.field150_3) Z<|.st (.tail<|.tail<|.tail<|.tail<|.head) Z Z Fx.size49 (by rw [e40];rfl) (nb Z) Z<|?_
  refine At.pm [1,0,2,3,4] [_,_,_,_,_] rfl rfl ?_
  refine Sx.freezeSeq (ds := (ex ++ [Ex.mk op enm en args]).map (dEx .i64)) (by simp) (by rw [List.map_append];exact ((hz35.up u1.up).snoc hx rfl)) fun H3 p3 c3 u3 e3 hE => ?_
  subst e3
  have v3 := u1.trans u3
  have v2 := v3.up
  refine .nl<|.bN<|.tN<|.sr<|.yv (.loadW Z Fx.agg150 (.tail _<|.tail _<|.tail _<|.head _) Z) Z<|.sW (.tail<|.head) Z Z Fx.size150 (by show ∀ u ∈ [_,_,_,_,_,_],Value.oneCell' u = true;simp [Value.oneCell',strV]) Z<|.nt<|.rt<|?_
  exact Sx.ret1 (.inl rfl) rfl (.cell rfl Fx.agg150 (.tail _<|.head _) rfl) fun W t => ⟨_,H3,⟨_,sm_shut (kd := kd) (nm := nm) (hd := hd) (by omega) (by omega) hE (hs2.up v2) (hs3.up v2),grew_add hg⟩,rfl,(v3 : HUp w H H3).grow t⟩
 skip
 refine .sr<|.yv (.eql Z Z) Z<|.a Z Z<|.nt<|.cd Z (fun h42 => ?_) (fun h42 => ?_)
 ·skip
  refine .rg<|.yv (.fieldAddr Z Fx.field55_4) Z<|.yv (.load Z Fx.agg53 (.tail _<|.head _) Z) Z<|.ct (X := List Value) Fx.call17 Z (fun W s => buildR_any H x.nodes _ hN W s.agr) Z fun y H1 hc u1 => ?_
  obtain ⟨e,hx,hg⟩ := hc
  obtain ⟨op,enm,en,args⟩ := e
  obtain ⟨pe,ce,rfl,hes,hen⟩ := ex_open hx
  refine .bl Z (Fx.bsl49_1 _ _ _ _) Z fun b47 => ?_
  refine Sx.freezeBox fun H3 u3 m3 => ?_
  have v3 := u1.trans u3
  have v2 := v3.up
  have hE : Rep H3 (.seq 4 (([.mk op enm en args] : List Ex).map (dEx .i64))) [.slice (some ⟨b47,0,none⟩) 1 1] := Rep.mk (n := 1) (c := 1) m3 (.single (hx.up u3.up) rfl) rfl (Nat.le_refl _) (by decide)
  refine .yv (.fieldAddr Z Fx.field150_3) Z<|.st (.tail<|.tail<|.head) Z Z Fx.size49 Z (nb Z) Z<|.nl<|.bN<|.tN<|.sr<|.yv (.loadW Z Fx.agg150 (.tail _<|.tail _<|.head _) Z) Z<|.sW .head Z Z Fx.size150 (by show ∀ u ∈ [_,_,_,_,_,_],Value.oneCell' u = true;simp [Value.oneCell',strV]) Z<|.nt<|.rt<|?_
  exact Sx.ret1 (.inl rfl) rfl (.cell rfl Fx.agg150 (.head _) rfl) fun W t => ⟨_,H3,⟨_,sm_shut (kd := kd) (nm := nm) (hd := hd) (by omega) (by omega) hE (hs2.up v2) (hs3.up v2),grew_one hg⟩,rfl,(v3 : HUp w H H3).grow t⟩
 skip
 refine .sr<|.yv (.eql Z Z) Z<|.a Z Z<|.nt<|.cd Z (fun h49 => ?_) (fun h49 => ?_)
 ·skip
  refine .rg<|.yv (.build Z (Fx.bld150_0 _)) Z<|.bl Z (Fx.bsl98_1 _ _ _ _ _ _) Z fun b52 => ?_
  refine Sx.freezeBox fun Ha ua ma => ?_
  have hST : Rep Ha (.seq 6 (([stopS] : List Sm).map (dSm .i64))) [.slice (some ⟨b52,0,none⟩) 1 1] := (Rep.mk (n := 1) (c := 1) ma (.single (sm_shut (kd := 10) (nm := []) (hd := []) (ex := []) (th := []) (el := []) (by decide) (by decide) (Rep.empty (by decide)) (Rep.empty (by decide)) (Rep.empty (by decide))) rfl) rfl (Nat.le_refl _) (by decide))
  refine .yv (.fieldAddr Z Fx.field150_4) Z<|.st (.tail<|.tail<|.head) Z Z Fx.size49 Z (nb Z) Z<|.nl<|.bN<|.tN<|.sr<|.yv (.loadW Z Fx.agg150 (.tail _<|.tail _<|.head _) Z) Z<|.sW .head Z Z Fx.size150 (by show ∀ u ∈ [_,_,_,_,_,_],Value.oneCell' u = true;simp [Value.oneCell',strV]) Z<|.nt<|.rt<|?_
  exact Sx.ret1 (.inl rfl) rfl (.cell rfl Fx.agg150 (.head _) rfl) fun W t => ⟨_,Ha,⟨_,sm_shut (kd := kd) (nm := nm) (hd := hd) (by omega) (by omega) (hs1.up ua.up) hST (hs3.up ua.up),grew_then⟩,rfl,(ua : HUp w H Ha).grow t⟩
 skip
 refine .sr<|.yv (.eql Z Z) Z<|.a Z Z<|.nt<|.cd Z (fun h54 => ?_) (fun h54 => ?_)
 ·skip
  refine .rg<|.yv (.build Z (Fx.bld150_0 _)) Z<|.bl Z (Fx.bsl98_1 _ _ _ _ _ _) Z fun b57 => ?_
  refine Sx.freezeBox fun Ha ua ma => ?_
  have hST : Rep Ha (.seq 6 (([stopS] : List Sm).map (dSm .i64))) [.slice (some ⟨b57,0,none⟩) 1 1] := (Rep.mk (n := 1) (c := 1) ma (.single (sm_shut (kd := 10) (nm := []) (hd := []) (ex := []) (th := []) (el := []) (by decide) (by decide) (Rep.empty (by decide)) (Rep.empty (by decide)) (Rep.empty (by decide))) rfl) rfl (Nat.le_refl _) (by decide))
  refine .yv (.fieldAddr Z Fx.field150_5) Z<|.st (.tail<|.tail<|.head) Z Z Fx.size49 Z (nb Z) Z<|.nl<|.bN<|.tN<|.sr<|.yv (.loadW Z Fx.agg150 (.tail _<|.tail _<|.head _) Z) Z<|.sW .head Z Z Fx.size150 (by show ∀ u ∈ [_,_,_,_,_,_],Value.oneCell' u = true;simp [Value.oneCell',strV]) Z<|.nt<|.rt<|?_
  exact Sx.ret1 (.inl rfl) rfl (.cell rfl Fx.agg150 (.head _) rfl) fun W t => ⟨_,Ha,⟨_,sm_shut (kd := kd) (nm := nm) (hd := hd) (by omega) (by omega) (hs1.up ua.up) (hs2.up ua.up) hST,grew_else⟩,rfl,(ua : HUp w H Ha).grow t⟩
 skip
 refine .sr<|.yv (.eql Z Z) Z<|.a Z Z<|.nt<|.cd Z (fun h59 => ?_) (fun h59 => ?_)
 ·skip
  refine .rg<|.yv (.loadW Z Fx.agg150 (.tail _<|.tail _<|.head _) Z) Z<|.m Z Z<|.ct (X := List Value) Fx.call93 Z (fun W s => wrap_any H _ m (by omega) _ W h s.agr) Z fun y1 H1 hwr u1 => .sV (.tail<|.tail<|.head) Z Z Fx.size150 (sm_len hwr) hwr.one Z<|.nl<|.bN<|.tN<|.sr<|.yv (.loadW Z Fx.agg150 (.tail _<|.tail _<|.head _) (sm_len hwr)) Z<|.sV .head Z Z Fx.size150 (sm_len hwr) hwr.one Z<|.nt<|.rt<|?_
  exact Sx.ret1 (.inl rfl) rfl (.cell rfl Fx.agg150 (.head _) (sm_len hwr)) fun W t => ⟨_,H1,⟨_,hwr,grew_wrap hm13⟩,rfl,(u1 : HUp w H H1).grow t⟩
 skip
 refine .sk<|.bN<|.tN<|.sr<|.yv (.loadW Z Fx.agg150 (.tail _<|.tail _<|.head _) Z) Z<|.sW .head Z Z Fx.size150 (by show ∀ u ∈ [_,_,_,_,_,_],Value.oneCell' u = true;simp [Value.oneCell',strV]) Z<|.nt<|.rt<|?_
 exact Sx.ret1 (.inl rfl) rfl (.cell rfl Fx.agg150 (.head _) rfl) fun W t => ⟨_,H,⟨_,h,grew_refl _⟩,rfl,(.refl : HUp w H H).grow t⟩
theorem Fx.agg55 : aggN Tryz.prog 55 = Option.some (Option.some 5) := by kernel_rfl
theorem Fx.agg100 : aggN Tryz.prog 100 = Option.some (Option.some 3) := by kernel_rfl
theorem Fx.call94 : callN Tryz.prog 94 = Bool.true := by kernel_rfl
theorem Fx.field55_1 : fieldN Tryz.prog 55 1 = Option.some 1 := by kernel_rfl
theorem Fx.field100_0 : fieldN Tryz.prog 100 0 = Option.some 0 := by kernel_rfl
theorem Fx.field100_1 : fieldN Tryz.prog 100 1 = Option.some 1 := by kernel_rfl
theorem Fx.field100_2 : fieldN Tryz.prog 100 2 = Option.some 2 := by kernel_rfl
theorem Fx.size66 : sizeN Tryz.prog 66 = Option.some 1 := by kernel_rfl
theorem Fx.size98 : sizeN Tryz.prog 98 = Option.some 1 := by kernel_rfl
theorem Fx.size100 : sizeN Tryz.prog 100 = Option.some 3 := by kernel_rfl
theorem Fx.sl97 : slN Tryz.prog 97 = Option.some 3 := by kernel_rfl
theorem Fx.zero100 : zeroN Tryz.prog 100 = Option.some
 [Go.Value.string { data := { toList := [] } },Go.Value.slice Option.none 0 0,Go.Value.slice Option.none 0 0] := by kernel_rfl
theorem Fx.bld100_0 (x0 : ByteArray) : buildN Tryz.prog 100 [(0,.string x0)] = some [.string x0,.slice none 0 0,.slice none 0 0] := by kernel_rfl
theorem Fx.bsl66_0  : bslN Tryz.prog 66 0 [] = some (9,[]) := by kernel_rfl
theorem Fx.bsl97_0  : bslN Tryz.prog 97 0 [] = some (100,[]) := by kernel_rfl
theorem Fx.bsl98_0  : bslN Tryz.prog 98 0 [] = some (150,[]) := by kernel_rfl
def gsP (n : Nat) : List Hd := (List.range n).map fun (j : Nat) => ⟨[103] ++ Lib.itoa (j : Nat),[],[]⟩
theorem gsP_succ (n : Nat) : gsP (n + 1) = gsP n ++ [⟨[103] ++ Lib.itoa (n : Nat),[],[]⟩] := by simp [gsP,List.range_succ]
theorem itoaN_len (j : Nat) (h : j < 100) : (Lib.itoa (j : Nat)).length ≤ 21 := Lib.itoa_length_le _ (by omega) (by omega)
theorem sl_inj {p q : Option Addr} {n m c d : Nat} (h : Value.slice p n c = .slice q m d) : p = q ∧ c = d := by injection h with a _ b;exact ⟨a,b⟩
theorem rep0 {H : Hp} {z n c : Nat} {ds : List D} {p : Option Addr} (h : Rep H (.seq z ds) [.slice p (0 + n) c]) : Rep H (.seq z ds) [.slice p (0 + n) c] := h
theorem hd_len {H : Hp} {k : IntKind} {x : Hd} {cs : List Value} (h : Rep H (dHd k x) cs) : cs.length = 3 := by
 obtain ⟨_,_,_,_,rfl,_⟩ := hd_open h;rfl
theorem stop_shut {H : Hp} : Rep H (dSm .i64 stopS) [.int .i64 10,.string ⟨#[]⟩,.string ⟨#[]⟩,.slice none 0 0,.slice none 0 0,.slice none 0 0] :=
 sm_shut (kd := 10) (nm := []) (hd := []) (ex := []) (th := []) (el := []) (by decide) (by decide) (Rep.empty (by decide)) (Rep.empty (by decide)) (Rep.empty (by decide))
theorem okL_reps : ∀ n,okL n (List.replicate n stopS)
 | 0 => .nil
 | n + 1 => by rw [List.replicate_succ'];exact (okL_reps n).app (okL_stop (Nat.le_refl 1))
theorem get_app {xs more : List Value} {i : Nat} {u : Value} (h : xs[i]? = some u) : (xs ++ more)[i]? = some u := by rw [List.getElem?_append_left (List.getElem?_eq_some_iff.1 h).1];exact h
theorem ex_bnd {N M : Nat} {l : List Sm} (h : okL N l) {j : Nat} (hj : j < l.length) (hN : N ≤ M) : (l[j]).ex.length ≤ M := by
 have h2 := h.at hj
 generalize l[j] = s at h2
 obtain ⟨kd,nm,hd,ex,th,el⟩ := s
 have := (okL_one.1 h2).2.2.2.1
 exact Nat.le_trans this hN
theorem okV_gs {N m : Nat} {l : List Hd} (h : okV2 N l) (hm : m < 13) : okV2 (2 * N + 100) (l ++ gsP m) := by
 refine ⟨by have := h.len;simp [gsP];omega,fun x hx => ?_⟩
 rcases List.mem_append.1 hx with hx | hx
 ·exact (h.all x hx).mono (by omega)
 ·obtain ⟨j,_,rfl⟩ := List.mem_map.1 hx
  exact ⟨by simp,.nil⟩
theorem okV_set {N k : Nat} {l : List Hd} {h1 : Hd} (h : okV2 N l) (k1 : okHd (2 * N + 100) h1) : okV2 (2 * N + 100) (l.set k h1) := by
 refine ⟨by have := h.len;simp;omega,fun x hx => ?_⟩
 rcases List.mem_or_eq_of_mem_set hx with hx | rfl
 ·exact (h.all x hx).mono (by omega)
 ·exact k1
theorem num_name {j : Nat} {c : UInt8} (h : j < 100) : ([c] ++ Lib.itoa (j : Nat)).length ≤ 1000000 := by
 have := itoaN_len j h;simp;omega
set_option maxHeartbeats 4000000 in
set_option maxRecDepth 100000 in
theorem handlersOf_any (H : Hp) (l : List Hd) (x : Sp) (v : Value) (xs : List Value) (N : Nat) (hN1 : N ≤ 100000) (w : World) (h : Rep H (.seq 3 (l.map (dHd .i64))) [v]) (hX : Rep H (dSp x) xs) (hpos : 0 < l.length) (hok : okV2 N l) (hA : Agr H w) :
 Calls Tryz.prog 54 #[v,.agg xs.toArray] w fun r w' => ∃ (v' : Value) (H' : Hp),(∃ l',Rep H' (.seq 3 (l'.map (dHd .i64))) [v'] ∧ okV2 (2 * N + 100) l') ∧ r = .returned v' ∧ Grow H w H' w' := by
 obtain ⟨pl,cl,el,_⟩ := h.sl
 simp only [List.cons.injEq,and_true,List.length_map] at el
 subst el
 have hl := h
 have hll := hok.len
 have hi256 := x.i.toNat_lt
 obtain ⟨pN,cN,rfl,hN⟩ := sp_open hX
 obtain ⟨m0,hm0⟩ := wu64 x.n.toInt
 obtain ⟨m,hmm⟩ : ∃ m,m = m0 % 13 := ⟨_,rfl⟩
 have hm13 : m < 13 := by omega
 refine Sx.enter (H := H) Tryz.func54 rfl Tryz.ntmps54 rfl hA ?_
 refine .sr<|.bx Z Z Z fun b3 => .a Z Z<|.ns<|.yv (.fieldAddr Z Fx.field55_3) Z<|.yv (.load Z Fx.agg2 (.head _) Z) Z<|.yv (.conv Z Fx.int2 Fx.int139 hm0) Z<|.yv (.rem Z Z (by decide) (c := ((m : Nat) : Int)) (by rw [hmm];exact tm2 _ 13)) Z<|.yv (.conv Z Fx.int139 Fx.int3 (c := ((m : Nat) : Int)) (w6 (by omega))) Z<|.a Z Z<|.ns<|.blR Z Fx.bsl97_0 Z (z := 3) Z (by decide) fun g18 => .m Z Z<|.apD Fx.row97 Z (fun _ _ => .head) Z hl (by simp [maxLen];omega) (by omega) Z fun xs20 r20 hz20 => ?_
 refine At.rs (.head _) (by omega) fun g20 c20 e20 => ?_
 subst e20
 refine .a Z Z<|.ns<|.yv (.fieldAddr Z Fx.field55_1) Z<|.yv (.load Z Fx.agg5 (.tail _<|.head _) Z) Z<|.yv (.quo Z Z (by decide) (c := ((x.i.toNat / 8 : Nat) : Int)) (qu8 _ (by have := (x.i).toNat_lt;omega) (by decide))) Z<|.yv (.conv Z Fx.int5 Fx.int3 (c := ((x.i.toNat / 8 : Nat) : Int)) (w6 (by omega))) Z<|.m Z Z<|.yv (.lenSl Fx.sl97 Z) Z<|.yv (.rem Z Z (by omega) (c := ((x.i.toNat / 8 % (0 + l.length) : Nat) : Int)) (tm2 _ _)) Z<|?_
 have hk : x.i.toNat / 8 % (0 + l.length) < l.length := by have := Nat.mod_lt (x.i.toNat / 8) (show 0 < 0 + l.length by omega);omega
 generalize x.i.toNat / 8 % (0 + l.length) = k at hk ⊢
 obtain ⟨cE,rE,lE,mE⟩ := hz20.at (i := k) (map_at (f := dHd .i64) hk)
 have ok0 := hok.all _ (List.getElem_mem hk)
 generalize hh0 : l[k] = h0 at rE ok0
 obtain ⟨nm0,ps0,bd0⟩ := h0
 obtain ⟨q1,d1,q2,d2,rfl,k0,k1,k2⟩ := hd_open rE
 dsimp only at k0 k1 k2 mE
 have hbd : bd0.length ≤ N := ok0.body.len
 have hpl : ps0.length ≤ N := ok0.ps
 refine .a Z Z<|.ns<|.m Z Z<|.m Z Z<|.yv (.indexSl Fx.sl97 Z Z (i := k) Z (by omega) (q := k * 3) (by omega)) Z<|.yv (.loadR (vs := [strV nm0,.slice q1 ps0.length d1,.slice q2 bd0.length d2]) Z Fx.agg100 (.head _) Z mE) Z<|.al Fx.zero100 Z fun b8 => .sW .head Z Z Fx.size100 (by simp [Value.oneCell',strV]) Z<|.ns<|.blR Z Fx.bsl98_0 Z (z := 6) Z (by decide) fun g32 => .yv (.fieldAddr Z Fx.field100_2) Z<|.yv (.load Z Fx.agg98 (.tail _<|.head _) Z) Z<|.apD Fx.row98 Z (fun _ _ => .head) Z k2 (by simp [maxLen];omega) (by omega) Z fun xs35 r35 hz35 => ?_
 refine At.ra (.head _) fun p35 c35 e35 => ?_
 subst e35
 refine .yv (.fieldAddr Z Fx.field100_2) Z<|.st (.tail<|.head) Z Z Fx.size98 Z (nb Z) Z<|.nt<|.cu (X := Hp × Hd × List Value) [(7,_),(8,_)] ⟨rfl,rfl,trivial⟩ (fun z => [(6,.slice (some ⟨g20,0,none⟩) (0 + l.length) c20)]) (fun z => z.1) (fun z => [.row 100 3 (.slice (some ⟨g20,0,none⟩) (0 + l.length) c20) (0 + l.length) ([] ++ xs20),.box b8 z.2.2 100]) (fun z => HUp w H z.1 ∧ Rep z.1 (dHd .i64 z.2.1) z.2.2 ∧ okHd (2 * N + 100) z.2.1) ?_ fun z hC => ?_
 ·
  refine .sr<|.yv (.fieldAddr Z Fx.field55_0) Z<|.yv (.load Z Fx.agg5 (.tail _<|.tail _<|.tail _<|.head _) Z) Z<|.yv (.rem Z Z (by decide) (c := ((x.wh.toNat % 26 : Nat) : Int)) (by rw [Int.tmod_eq_emod_of_nonneg (by omega)];omega)) Z<|.nt<|.bk<|.sr<|.yv (.eql Z Z) Z<|.a Z Z<|.nt<|.cd Z (fun h66 => ?_) (fun h66 => ?_)
  ·skip
   refine .sq<|.sr<|.a Z Z<|.nt<|.bk<|.pm [2,0,1,3] [_,_,_,_] Z Z<|.lp (X := Nat × Value × List Value) [(5,_),(7,_),(8,_)] ⟨rfl,rfl,rfl,trivial⟩ [_,_,_] (fun z => [(6,z.2.1),(9,.int .i64 (z.1 : Nat))]) (fun z => H) (fun z => [.row 100 3 z.2.1 (0 + l.length + z.1) z.2.2]) (fun z => z.1 ≤ m ∧ RepZ H 3 ((l ++ gsP z.1).map (dHd .i64)) z.2.2) (fun z => m - z.1) (0,_,_) (fun _ s => s) ⟨rfl,rfl,trivial⟩ ⟨by simp,by rw [show gsP 0 = [] from Z,List.append_nil];exact hz20⟩ fun z hC => ?_
   obtain ⟨j,ro,ys⟩ := z
   dsimp only at hC ⊢
   obtain ⟨hj0,hzg⟩ := hC
   refine .sq<|.sr<|.m Z Z<|.m Z Z<|.yv (.lss Z Z) Z<|.nt<|.cd Z (fun h70 => ?_) (fun h70 => ?_)
   ·try simp only [dt] at h70
    have hj : j < m := by omega
    exact .sk<|.tN<|.sq<|.bk<|.rg<|.m Z Z<|.m Z Z<|.yv (.call Fx.call33 Z (fun W s => number_any H ((j : Nat) : Int) (by omega) (by omega) W s.agr)) Z<|.yv (.app Z Z (by have := itoaN_len j (by omega);simp;omega)) Z<|.yv (.build Z (Fx.bld100_0 _)) Z<|.bl Z (Fx.bsl97_1 _ _ _) Z fun b78 => .ap (news := [strV ([103] ++ Lib.itoa (j : Nat)),.slice none 0 0,.slice none 0 0]) Fx.row97 Z (fun _ => (.tail<|.head)) Z (.box (.head _) z0) Z (by simp [Value.oneCell',strV]) (by simp [maxLen];omega) (by omega) Z fun r79 _ => .a Z Z<|.nl<|.bN<|.tN<|.rg<|.m Z Z<|.yv (.add Z Z (w6 (by omega))) Z<|.a Z Z<|.nt<|.ag (x := (j,ro,ys)) (j + 1,r79,ys ++ [strV ([103] ++ Lib.itoa (j : Nat)),.slice none 0 0,.slice none 0 0]) ⟨rfl,rfl,trivial⟩ ⟨rfl,rfl,rfl,trivial⟩ (fun _ s => (s.pick [1,2,3,4] _ Z Z)) ⟨by dsimp only;omega,by dsimp only;rw [gsP_succ,← List.append_assoc,List.map_append];exact hzg.snoc (hd_shut (x := ⟨[103] ++ Lib.itoa (j : Nat),[],[]⟩) (num_name (by omega)) (Rep.empty (by decide)) (Rep.empty (by decide))) Z⟩ (by dsimp only;omega)
   try simp only [df] at h70
   obtain rfl : m = j := by omega
   refine .ex<|.tE<|.tE<|.bE<|.tN<|.sr<|.m Z Z<|.a Z Z<|.nt<|.rt<|.bR<|.tR<|?_
   refine Sx.freezeSeq (ds := (l ++ gsP m).map (dHd .i64)) (by simp [gsP]) hzg fun HB pB cB uB eB hB => ?_
   exact Sx.ret1 (.inl rfl) rfl (.tmp rfl) fun W t => ⟨ro,HB,⟨l ++ gsP m,hB,okV_gs hok (by omega)⟩,rfl,uB.grow t⟩
  skip
  refine .sr<|.yv (.eql Z Z) Z<|.a Z Z<|.nt<|.cd Z (fun h81 => ?_) (fun h81 => ?_)
  ·skip
   refine .rg<|.yv (.fieldAddr Z Fx.field55_2) Z<|.yv (.load Z Fx.agg5 (.tail _<|.tail _<|.tail _<|.head _) Z) Z<|.yv (.call Fx.call53 Z (fun W s => word_any H x.nm W s.agr)) Z<|.yv (.fieldAddr Z Fx.field100_0) Z<|.st (.tail<|.head) Z Z Fx.size9 Z (nb Z) Z<|?_
   refine Sx.freezeSeq (ds := bd0.map (dSm .i64)) (by simp) hz35 fun HB pB cB uB eB hB => ?_
   obtain ⟨rfl,rfl⟩ := sl_inj eB
   exact .nl<|.bN<|.tN<|.me (HB,⟨wordR x.nm,ps0,bd0⟩,_) ⟨rfl,trivial⟩ ⟨rfl,rfl,trivial⟩ (fun _ s => s.pick [1,0] [_,_] Z Z) ⟨uB,hd_shut (x := ⟨wordR x.nm,ps0,bd0⟩) (Nat.le_trans (word_len _) (by decide)) (k1.up uB.up) (rep0 hB),⟨by have := ok0.ps;show ps0.length ≤ _;have h : ps0.length ≤ N := this;omega,ok0.body.mono (by omega)⟩⟩
  skip
  refine .sr<|.yv (.eql Z Z) Z<|.a Z Z<|.nt<|.cd Z (fun h87 => ?_) (fun h87 => ?_)
  ·skip
   refine .sr<|.a Z Z<|.nt<|.bk<|.pm [1,0,2,3] [_,_,_,_] Z Z<|.lp (X := Nat × Hp × Option Addr × Nat × Nat) [(5,_),(6,_),(7,_),(8,_)] ⟨rfl,rfl,rfl,rfl,trivial⟩ [_,_,_] (fun z => [(10,.int .i64 (z.1 : Nat))]) (fun z => z.2.1) (fun z => [.box b8 [strV nm0,.slice z.2.2.1 z.2.2.2.1 z.2.2.2.2,.slice p35 (0 + bd0.length) c35] 100]) (fun z => z.1 ≤ m ∧ HUp w H z.2.1 ∧ ∃ ps : List Str,ps.length = ps0.length + z.1 ∧ Rep z.2.1 (.seq 1 (ps.map dStr)) [.slice z.2.2.1 z.2.2.2.1 z.2.2.2.2]) (fun z => m - z.1) (0,H,_,_,_) (fun _ s => s) ⟨rfl,trivial⟩ ⟨by simp,.refl,ps0,by simp,k1⟩ fun z hC => ?_
   obtain ⟨j,H1,pp,pn,pc⟩ := z
   dsimp only at hC ⊢
   obtain ⟨hj0,uP,ps,hpsl,hps⟩ := hC
   have hpn := hps.len.1
   rw [List.length_map] at hpn
   refine .sq<|.sr<|.m Z Z<|.m Z Z<|.yv (.lss Z Z) Z<|.nt<|.cd Z (fun h91 => ?_) (fun h91 => ?_)
   ·try simp only [dt] at h91
    have hj : j < m := by omega
    refine .sk<|.tN<|.sq<|.bk<|.rg<|.blR Z Fx.bsl66_0 Z (z := 1) Z (by decide) fun g94 => .yv (.fieldAddr Z Fx.field100_1) Z<|.yv (.load Z Fx.agg66 (.tail _<|.head _) Z) Z<|.apD Fx.row66 Z (fun _ _ => .head) Z hps (by simp [maxLen];omega) (by omega) Z fun xs97 r97 hz97 => .m Z Z<|.yv (.call Fx.call33 Z (fun W s => number_any H1 ((j : Nat) : Int) (by omega) (by omega) W s.agr)) Z<|.yv (.app Z Z (by have := itoaN_len j (by omega);simp;omega)) Z<|.bl Z (Fx.bsl66_1 _) Z fun b101 => .ap (news := [strV ([113] ++ Lib.itoa (j : Nat))]) Fx.row66 Z (fun _ => (.tail<|.head)) Z (.box (.head _) z0) Z (by simp [Value.oneCell',strV]) (by simp [maxLen];omega) (by omega) Z fun r102 _ => ?_
    refine At.ra (.tail _<|.head _) fun p102 c102 e102 => ?_
    subst e102
    refine .yv (.fieldAddr Z Fx.field100_1) Z<|.st (.tail<|.tail<|.head) Z Z Fx.size66 Z (nb Z) Z<|?_
    refine At.pm [1,0,2,3,4,5] [_,_,_,_,_,_] rfl rfl ?_
    refine Sx.freezeSeq (ds := (ps ++ [[113] ++ Lib.itoa (j : Nat)]).map dStr) (by simp;omega) (by rw [List.map_append];exact hz97.snoc (str_shut (num_name (by omega))) rfl) fun H2 p2 c2 u2 e2 h2 => ?_
    obtain ⟨rfl,rfl⟩ := sl_inj e2
    exact .nl<|.bN<|.tN<|.rg<|.m Z Z<|.yv (.add Z Z (w6 (by omega))) Z<|.a Z Z<|.nt<|.ag (x := (j,H1,pp,pn,pc)) (j + 1,H2,p102,0 + pn + 1,c102) ⟨rfl,trivial⟩ ⟨rfl,rfl,rfl,rfl,trivial⟩ (fun _ s => (s.pick [1,2,3,4] _ Z Z)) ⟨by dsimp only;omega,uP.trans u2,ps ++ [[113] ++ Lib.itoa (j : Nat)],by simp;omega,h2⟩ (by dsimp only;omega)
   try simp only [df] at h91
   obtain rfl : m = j := by omega
   refine At.pm [1,0,2,3] [_,_,_,_] rfl rfl ?_
   refine Sx.freezeSeq (ds := bd0.map (dSm .i64)) (by simp) (RepZ.up uP.up hz35) fun HB pB cB uB eB hB => ?_
   obtain ⟨rfl,rfl⟩ := sl_inj eB
   exact .ex<|.tE<|.tE<|.bE<|.bN<|.tN<|.me (HB,⟨nm0,ps,bd0⟩,_) ⟨rfl,trivial⟩ ⟨rfl,rfl,trivial⟩ (fun _ s => s.pick [1,0] [_,_] Z Z) ⟨uP.trans uB,hd_shut (x := ⟨nm0,ps,bd0⟩) k0 (hps.up uB.up) (rep0 hB),⟨by show ps.length ≤ _;have h : ps0.length ≤ N := ok0.ps;omega,ok0.body.mono (by omega)⟩⟩
  skip
  refine .sr<|.yv (.eql Z Z) Z<|.a Z Z<|.nt<|.cd Z (fun h104 => ?_) (fun h104 => ?_)
  ·skip
   refine .fl (trip := [(_,_,_),(_,_,_),(_,_,_),(_,_,_),(_,_,_),(_,_,_),(_,_,_),(_,_,_)]) 8 [(1,0),(2,0),(4,0),(5,0),(0,1),(3,3),(6,0),(7,1)] (by kernel_rfl) (by kernel_rfl) Z<|.yv (.fieldAddr Z Fx.field100_1) Z<|.yv (.load Z Fx.agg66 (.tail _<|.head _) Z) Z<|.yv (.fieldAddr Z Fx.field55_2) Z<|.yv (.load Z Fx.agg5 (.tail _<|.tail _<|.tail _<|.head _) Z) Z<|.blR Z Fx.bsl66_0 Z (z := 1) Z (by decide) fun g106 => .apD Fx.row66 Z (fun _ _ => .head) Z k1 (by simp [maxLen];omega) (by omega) Z (fun _ _ => (.yv (.load Z Fx.agg5 (.tail _<|.tail _<|.tail _<|.tail _<|.head _) Z)<|.yv (.fieldAddr Z Fx.field55_2)<|.done (by kernel_rfl)<|.done (by kernel_rfl)<|.nl)) fun xs109 p109 c109 hz109 => .yv (.call Fx.call53 Z (fun W s => word_any H x.nm W s.agr)) Z<|.bl Z (Fx.bsl66_1 _) Z fun b113 => .fn (tl := [_,_,_]) Z<|.ap (news := [strV (wordR x.nm)]) Fx.row66 Z (fun _ => (.tail<|.head)) Z (.box (.head _) z0) Z (by simp [Value.oneCell',strV]) (by simp [maxLen];omega) (by omega) Z fun r114 _ => ?_
   refine At.ra (.tail _<|.head _) fun p114 c114 e114 => ?_
   subst e114
   refine .yv (.fieldAddr Z Fx.field100_1) Z<|.st (.tail<|.tail<|.tail<|.head) Z Z Fx.size66 Z (nb Z) Z<|?_
   refine At.pm [1,0,2,3,4,5] [_,_,_,_,_,_] rfl rfl ?_
   refine Sx.freezeSeq (ds := (ps0 ++ [wordR x.nm]).map dStr) (by simp) (by rw [List.map_append];exact hz109.snoc (str_shut (Nat.le_trans (word_len _) (by decide))) rfl) fun H2 p2 c2 uP e2 hps => ?_
   obtain ⟨rfl,rfl⟩ := sl_inj e2
   refine At.pm [1,0,2,3,4] [_,_,_,_,_] rfl rfl ?_
   refine Sx.freezeSeq (ds := bd0.map (dSm .i64)) (by simp) (RepZ.up uP.up hz35) fun HB pB cB uB eB hB => ?_
   obtain ⟨rfl,rfl⟩ := sl_inj eB
   exact .nl<|.bN<|.tN<|.me (HB,⟨nm0,ps0 ++ [wordR x.nm],bd0⟩,_) ⟨rfl,trivial⟩ ⟨rfl,rfl,trivial⟩ (fun _ s => s.pick [2,1] [_,_] Z Z) ⟨uP.trans uB,hd_shut (x := ⟨nm0,ps0 ++ [wordR x.nm],bd0⟩) k0 (hps.up uB.up) (rep0 hB),⟨by show (ps0 ++ [wordR x.nm]).length ≤ _;have h : ps0.length ≤ N := ok0.ps;rw [List.length_append,List.length_singleton];omega,ok0.body.mono (by omega)⟩⟩
  skip
  refine .sr<|.yv (.eql Z Z) Z<|.a Z Z<|.nt<|.cd Z (fun h116 => ?_) (fun h116 => ?_)
  ·skip
   refine .sr<|.a Z Z<|.nt<|.bk<|.lp (X := Nat × Value × List Value) [(5,_),(6,_),(7,_),(8,_)] ⟨rfl,rfl,rfl,rfl,trivial⟩ [_,_] (fun z => [(11,.int .i64 (z.1 : Nat))]) (fun z => H) (fun z => [.row 150 6 z.2.1 (0 + bd0.length + z.1) z.2.2,.box b8 [strV nm0,.slice q1 ps0.length d1,z.2.1] 100]) (fun z => z.1 ≤ 4 * m ∧ RepZ H 6 ((bd0 ++ List.replicate z.1 stopS).map (dSm .i64)) z.2.2) (fun z => 4 * m - z.1) (0,_,_) (fun _ s => s) ⟨rfl,trivial⟩ ⟨by simp,by simpa using hz35⟩ fun z hC => ?_
   obtain ⟨j,rb,ys⟩ := z
   dsimp only at hC ⊢
   obtain ⟨hj0,hzb⟩ := hC
   refine .sq<|.sr<|.m Z Z<|.m Z Z<|.yv (.mul Z Z (c := ((4 * m : Nat) : Int)) ((w6 (by omega)).trans (by omega))) Z<|.yv (.lss Z Z) Z<|.nt<|.cd Z (fun h121 => ?_) (fun h121 => ?_)
   ·try simp only [dt] at h121
    have hj : j < 4 * m := by omega
    refine .sk<|.tN<|.sq<|.bk<|.rg<|.yv (.fieldAddr Z Fx.field100_2) Z<|.yv (.load Z Fx.agg98 (.tail _<|.head _) Z) Z<|.yv (.build Z (Fx.bld150_0 _)) Z<|.bl Z (Fx.bsl98_1 _ _ _ _ _ _) Z fun b127 => .ap (news := [.int .i64 10,.string ⟨#[]⟩,.string ⟨#[]⟩,.slice none 0 0,.slice none 0 0,.slice none 0 0]) Fx.row98 Z (fun _ => (.tail<|.head)) Z (.box (.head _) z0) Z (by simp [Value.oneCell',strV]) (by simp [maxLen];omega) (by omega) Z fun r128 _ => ?_
    refine At.ra (.tail _<|.head _) fun p128 c128 e128 => ?_
    exact .yv (.fieldAddr Z Fx.field100_2) Z<|.st (.tail<|.tail<|.head) Z Z Fx.size98 (by rw [e128];rfl) (nb Z) Z<|.nl<|.bN<|.tN<|.rg<|.m Z Z<|.yv (.add Z Z (w6 (by omega))) Z<|.a Z Z<|.nt<|.ag (x := (j,rb,ys)) (j + 1,r128,ys ++ [.int .i64 10,.string ⟨#[]⟩,.string ⟨#[]⟩,.slice none 0 0,.slice none 0 0,.slice none 0 0]) ⟨rfl,trivial⟩ ⟨rfl,rfl,rfl,rfl,trivial⟩ (fun _ s => (s.pick [1,2,3,4] _ Z Z)) ⟨by dsimp only;omega,by dsimp only;rw [List.replicate_succ',← List.append_assoc,List.map_append];exact hzb.snoc stop_shut Z⟩ (by dsimp only;omega)
   try simp only [df] at h121
   obtain rfl : j = 4 * m := by omega
   refine Sx.freezeSeq (ds := (bd0 ++ List.replicate (4 * m) stopS).map (dSm .i64)) (by simp) hzb fun HB pB cB uB eB hB => ?_
   subst eB
   exact .ex<|.tE<|.tE<|.bE<|.bN<|.tN<|.me (HB,⟨nm0,ps0,bd0 ++ List.replicate (4 * m) stopS⟩,_) ⟨rfl,trivial⟩ ⟨rfl,rfl,trivial⟩ (fun _ s => s.pick [1,0] [_,_] Z Z) ⟨uB,hd_shut (x := ⟨nm0,ps0,bd0 ++ List.replicate (4 * m) stopS⟩) k0 (k1.up uB.up) hB,⟨by show ps0.length ≤ _;have h : ps0.length ≤ N := ok0.ps;omega,(ok0.body.app (okL_reps (4 * m))).mono (by omega)⟩⟩
  skip
  refine .sr<|.yv (.eql Z Z) Z<|.a Z Z<|.nt<|.cd Z (fun h130 => ?_) (fun h130 => ?_)
  ·skip
   refine .fl (trip := [(_,_,_),(_,_,_),(_,_,_),(_,_,_),(_,_,_),(_,_,_)]) 6 [(0,0),(1,0),(2,0),(3,0),(4,1),(5,1)] (by kernel_rfl) (by kernel_rfl) Z<|.yv (.fieldAddr Z Fx.field100_2) Z<|.yv (.load Z Fx.agg98 (.tail _<|.head _) Z) Z<|.yv (.build Z (Fx.bld150_0 _)) Z<|.m Z Z<|.ct (X := List Value) Fx.call93 Z (fun W s => wrap_any H stopS m (by omega) _ W stop_shut s.agr) Z fun y136 H136 hw136 u136 => ?_
   generalize hws : wrapS m stopS = sw at hw136
   obtain ⟨kd,snm,shd,ex,th,el⟩ := sw
   obtain ⟨p1,c1,p2,c2,p3,c3,rfl,hs1,hs2,hs3,hn1,hn2⟩ := sm_open hw136
   refine .bl Z (Fx.bsl98_1 _ _ _ _ _ _) Z fun b137 => .fn (tl := [_,_,_]) Z<|.ap (news := [.int .i64 kd.toNat,strV snm,strV shd,.slice p1 ex.length c1,.slice p2 th.length c2,.slice p3 el.length c3]) Fx.row98 Z (fun _ => (.tail<|.head)) Z (.box (.head _) z0) Z (by simp [Value.oneCell',strV]) (by simp [maxLen];omega) (by omega) Z fun r138 _ => ?_
   refine At.ra (.tail _<|.head _) fun p138 c138 e138 => ?_
   subst e138
   refine .yv (.fieldAddr Z Fx.field100_2) Z<|.st (.tail<|.tail<|.head) Z Z Fx.size98 Z (nb Z) Z<|?_
   refine At.pm [1,0,2,3,4] [_,_,_,_,_] rfl rfl ?_
   refine Sx.freezeSeq (ds := (bd0 ++ [wrapS m stopS]).map (dSm .i64)) (by simp) (by rw [List.map_append,hws];exact (RepZ.up u136.up hz35).snoc hw136 rfl) fun HB pB cB uB eB hB => ?_
   obtain ⟨rfl,rfl⟩ := sl_inj eB
   exact .nl<|.bN<|.tN<|.me (HB,⟨nm0,ps0,bd0 ++ [wrapS m stopS]⟩,_) ⟨rfl,trivial⟩ ⟨rfl,rfl,trivial⟩ (fun _ s => s.pick [2,1] [_,_] Z Z) ⟨u136.trans uB,hd_shut (x := ⟨nm0,ps0,bd0 ++ [wrapS m stopS]⟩) k0 (k1.up (u136.trans uB).up) hB,⟨by show ps0.length ≤ _;have h : ps0.length ≤ N := ok0.ps;omega,(ok0.body.app (okL_wrap (okL_stop (Nat.le_refl 1)) m)).mono (by omega)⟩⟩
  skip
  refine .cu (X := List Sm × Value × List Value) [(3,_),(6,_),(7,_),(8,_)] ⟨rfl,rfl,rfl,rfl,trivial⟩ (fun z => []) (fun z => H) (fun z => [.row 150 6 z.2.1 z.1.length z.2.2,.box b8 [strV nm0,.slice q1 ps0.length d1,z.2.1] 100,.row 100 3 (.slice (some ⟨g20,0,none⟩) (0 + l.length) c20) (0 + l.length) ([] ++ xs20),.box b3 [.int .u8 x.wh.toNat,.int .u8 x.i.toNat,.int .u8 x.nm.toNat,.int .i64 x.n.toInt,.slice pN x.nodes.length cN] 55]) (fun z => 0 < z.1.length ∧ RepZ H 6 (z.1.map (dSm .i64)) z.2.2 ∧ okL (N + 1) z.1) ?_ fun z hC => ?_
  ·
   refine .sr<|.yv (.fieldAddr Z Fx.field100_2) Z<|.yv (.load Z Fx.agg98 (.tail _<|.head _) Z) Z<|.yv (.lenSl Fx.sl98 Z) Z<|.yv (.eql Z Z) Z<|.nt<|.cd Z (fun h43 => ?_) (fun h43 => ?_)
   ·try simp only [dt] at h43
    have hb0 : bd0.length = 0 := by omega
    exact .rg<|.yv (.build Z (Fx.bld150_0 _)) Z<|.blR Z (Fx.bsl98_1 _ _ _ _ _ _) Z (z := 6) Z (by decide) fun g45 => .yv (.fieldAddr Z Fx.field100_2) Z<|.st (.tail<|.tail<|.head) Z Z Fx.size98 Z (nb Z) Z<|.nt<|.me ([stopS],_,_) trivial ⟨rfl,rfl,rfl,rfl,trivial⟩ (fun _ s => s.pick [0,2,3,4] [_,_,_,_] Z Z) ⟨by simp,.single stop_shut Z,okL_stop (by omega)⟩
   try simp only [df] at h43
   have hb0 : 0 < bd0.length := by omega
   exact .sk<|.tN<|.me (bd0,_,_) trivial ⟨rfl,rfl,rfl,rfl,trivial⟩ (fun _ s => by rw [Nat.zero_add] at s;exact (s.pick [0,1,2,3] _ Z Z)) ⟨hb0,hz35,ok0.body.mono (by omega)⟩
  obtain ⟨bs,rb,ys⟩ := z
  dsimp only at hC ⊢
  obtain ⟨hb0,hzb,okb⟩ := hC
  have hbl : bs.length ≤ N + 1 := okb.len
  refine At.rb hb0 fun gB capB moreB eB hcB1 hcB2 => ?_
  subst eB
  refine .sr<|.yv (.fieldAddr Z Fx.field55_1) Z<|.yv (.load Z Fx.agg5 (.tail _<|.tail _<|.tail _<|.head _) Z) Z<|.yv (.quo Z Z (by decide) (c := ((x.i.toNat / 4 : Nat) : Int)) (qu8 _ (by have := (x.i).toNat_lt;omega) (by decide))) Z<|.yv (.conv Z Fx.int5 Fx.int3 (c := ((x.i.toNat / 4 : Nat) : Int)) (w6 (by omega))) Z<|.yv (.fieldAddr Z Fx.field100_2) Z<|.yv (.load Z Fx.agg98 (.tail _<|.head _) Z) Z<|.yv (.lenSl Fx.sl98 Z) Z<|.yv (.rem Z Z (by omega) (c := ((x.i.toNat / 4 % bs.length : Nat) : Int)) (tm2 _ _)) Z<|?_
  have hj : x.i.toNat / 4 % bs.length < bs.length := Nat.mod_lt _ hb0
  generalize x.i.toNat / 4 % bs.length = j at hj ⊢
  obtain ⟨cS,rS,lS,mS⟩ := hzb.at (i := j) (map_at (f := dSm .i64) hj)
  refine .a Z Z<|.nt<|.fl (trip := [(_,_,_),(_,_,_),(_,_,_),(_,_,_),(_,_,_),(_,_,_),(_,_,_),(_,_,_),(_,_,_),(_,_,_)]) 10 [(0,0),(1,0),(2,0),(3,0),(4,0),(5,0),(6,0),(7,0),(8,0),(9,1)] (by kernel_rfl) (by kernel_rfl) Z<|.yv (.fieldAddr Z Fx.field100_2) Z<|.yv (.load Z Fx.agg98 (.tail _<|.head _) Z) Z<|.m Z Z<|.yv (.fieldAddr Z Fx.field100_2) Z<|.yv (.load Z Fx.agg98 (.tail _<|.head _) Z) Z<|.m Z Z<|.yv (.indexSl Fx.sl98 Z Z (i := j) Z (by omega) (q := j * 6) (by omega)) Z<|.yv (.loadS (vs := cS) Z Fx.agg150 (.head _) lS (fun j u e => get_app (mS j u e))) Z<|.yv (.loadW Z Fx.agg55 (.tail _<|.tail _<|.tail _<|.head _) Z) Z<|.ct (X := List Value) Fx.call94 Z (fun W s => change_any H _ x cS _ W rS hX (ex_bnd okb hj (by omega)) s.agr) Z fun y64 H64 hc64 u64 => ?_
  obtain ⟨s2,hs2,gs⟩ := hc64
  refine .fn (tl := [_,_]) Z<|.yv (.indexSl Fx.sl98 Z Z (i := j) Z (by omega) (q := j * 6) (by omega)) Z<|.sE (vs := y64) .head Z Z (by rw [sm_len hs2];exact Fx.size150) hs2.one (by rw [sm_len hs2,List.length_append,hzb.len,List.length_map];omega)<|?_
  refine Sx.freezeBox fun HB uB mB => ?_
  rw [setsL_app _ _ _ _ (by rw [sm_len hs2,hzb.len,List.length_map];omega)] at mB
  have hB : Rep HB (.seq 6 ((bs.set j s2).map (dSm .i64))) [.slice (some ⟨gB,0,none⟩) bs.length capB] := Rep.mk mB.pre (by rw [List.map_set];exact RepZ.put (hs2.up uB.up) (sm_len hs2) (hzb.up (u64.trans uB).up) (by simpa using hj)) (by simp) hcB1 hcB2
  exact .nl<|.bN<|.tN<|.me (HB,⟨nm0,ps0,bs.set j s2⟩,_) ⟨rfl,trivial⟩ ⟨rfl,rfl,trivial⟩ (fun _ s => s.pick [1,0] [_,_] Z Z) ⟨u64.trans uB,hd_shut (x := ⟨nm0,ps0,bs.set j s2⟩) k0 (k1.up (u64.trans uB).up) hB,⟨by show ps0.length ≤ _;have h : ps0.length ≤ N := ok0.ps;omega,(okb.put hj (gs _ (okb.at hj))).mono (by omega)⟩⟩
 obtain ⟨H1,h1,ch⟩ := z
 dsimp only at hC ⊢
 obtain ⟨u1,hch,ok1⟩ := hC
 refine At.rc (by omega) fun more hc1 hc2 => ?_
 refine .sr<|.m Z Z<|.m Z Z<|.yv (.loadW Z Fx.agg100 (.tail _<|.head _) (hd_len hch)) Z<|.yv (.indexSl Fx.sl97 Z Z (i := k) Z (by omega) (q := k * 3) (by omega)) Z<|.sE (vs := ch) .head Z Z (by rw [hd_len hch];exact Fx.size100) hch.one (by rw [hd_len hch,List.length_append,List.length_append,hz20.len,List.length_map];simp;omega)<|.ns<|.m Z Z<|.a Z Z<|.nt<|.rt<|?_
 refine Sx.freezeBox fun HB uB mB => ?_
 rw [setsL_app _ _ _ _ (by rw [hd_len hch,List.length_append,hz20.len,List.length_map];simp;omega)] at mB
 exact Sx.ret1 (.inl rfl) rfl (.tmp rfl) fun W t => ⟨_,HB,⟨l.set k h1,Rep.mk mB.pre (by rw [List.map_set];exact RepZ.put (hch.up uB.up) (hd_len hch) (hz20.up (u1.trans uB).up) (by simpa using hk)) (by simp) hc1 hc2,okV_set hok ok1⟩,rfl,(u1.trans uB).grow t⟩
theorem Fx.agg97 : aggN Tryz.prog 97 = Option.some Option.none := by kernel_rfl
theorem Fx.call54 : callN Tryz.prog 54 = Bool.true := by kernel_rfl
theorem Fx.field32_0 : fieldN Tryz.prog 32 0 = Option.some 0 := by kernel_rfl
theorem Fx.field91_0 : fieldN Tryz.prog 91 0 = Option.some 0 := by kernel_rfl
theorem Fx.size97 : sizeN Tryz.prog 97 = Option.some 1 := by kernel_rfl
theorem Fx.sl30 : slN Tryz.prog 30 = Option.some 3 := by kernel_rfl
theorem Fx.sl89 : slN Tryz.prog 89 = Option.some 1 := by kernel_rfl
theorem Fx.bld84_0 (x0 : ByteArray) : buildN Tryz.prog 84 [(0,.string x0)] = some [.string x0,.bool false] := by kernel_rfl
theorem Fx.bld93_0_1 (x0 : ByteArray) (x1 : Int) : buildN Tryz.prog 93 [(0,.string x0),(1,.int .i64 x1)] = some [.string x0,.int .i64 x1,.int .i64 0] := by kernel_rfl
theorem Fx.bsl28_0  : bslN Tryz.prog 28 0 [] = some (84,[]) := by kernel_rfl
theorem Fx.bsl29_0  : bslN Tryz.prog 29 0 [] = some (86,[]) := by kernel_rfl
theorem Fx.bsl30_0  : bslN Tryz.prog 30 0 [] = some (91,[]) := by kernel_rfl
theorem Fx.bsl88_0  : bslN Tryz.prog 88 0 [] = some (93,[]) := by kernel_rfl
theorem Fx.bsl89_0  : bslN Tryz.prog 89 0 [] = some (97,[]) := by kernel_rfl
theorem one_at {v : Value} {xs : List Value} {o : Nat} (h : xs[o]? = some v) : ∀ (j : Nat) u,[v][j]? = some u → xs[o + j]? = some u := fun j u e => by
 match j,e with
 | 0,e => simp at e;rw [Nat.add_zero,h,e]
def wvar (n : UInt8) : Vr := ⟨wordR n,1,0⟩
theorem yvar_shut {H : Hp} (n : UInt8) (i : Int64) : Rep H (dVr .i64 ⟨[121],UInt8.ofNat (n.toNat % 5),i⟩) [strV [121],.int .i64 (n.toNat % 5 : Nat),.int .i64 i.toInt] := by
 have := vr_shut (H := H) (k := .i64) (x := ⟨[121],UInt8.ofNat (n.toNat % 5),i⟩) (show [(121 : UInt8)].length ≤ 1000000 by decide)
 have e : (UInt8.ofNat (n.toNat % 5)).toNat = n.toNat % 5 := by rw [UInt8.toNat_ofNat'];omega
 simp only [e] at this
 exact this
theorem cp_len {H : Hp} {k : IntKind} {x : Cp} {cs : List Value} (h : Rep H (dCp k x) cs) : cs.length = 3 := by
 obtain ⟨_,_,_,_,rfl,_⟩ := cp_open h;rfl
theorem okC_set {N k : Nat} {c : Cp} {l : List Hd} (h : okCp N c) (k1 : okV2 (2 * N + 100) l) : okCp (2 * N + 100) ⟨c.nm,c.vars,c.vers.set k l⟩ := by
 refine ⟨by have := h.vars;show c.vars.length ≤ _;omega,by have := h.vers;simp;omega,fun v hv => ?_⟩
 rcases List.mem_or_eq_of_mem_set hv with hv | rfl
 ·exact (h.all v hv).mono (by omega)
 ·exact k1
theorem okF_set {N k : Nat} {f : Ft} {c : Cp} (h : okFt N f) (k1 : okCp (2 * N + 100) c) : okFt (2 * N + 100) ⟨f.nm,f.flags,f.links,f.comps.set k c⟩ := by
 refine ⟨by have := h.flags;show f.flags.length ≤ _;omega,by have := h.links;show f.links.length ≤ _;omega,by have := h.comps;simp;omega,by have := h.pos;simp;omega,fun v hv => ?_⟩
 rcases List.mem_or_eq_of_mem_set hv with hv | rfl
 ·exact (h.all v hv).mono (by omega)
 ·exact k1
set_option maxHeartbeats 4000000 in
set_option maxRecDepth 100000 in
theorem apply_any (H : Hp) (f : Ft) (x : Sp) (cs xs : List Value) (N : Nat) (hN1 : N ≤ 50000) (w : World) (h : Rep H (dFt .i64 f) cs) (hX : Rep H (dSp x) xs) (hok : okFt N f) (hA : Agr H w) :
 Calls Tryz.prog 23 #[.agg cs.toArray,.agg xs.toArray] w fun r w' => ∃ (v : List Value) (H' : Hp),(∃ f',Rep H' (dFt .i64 f') v ∧ okFt (2 * (N + 100) + 100) f') ∧ r = .returned (.agg v.toArray) ∧ Grow H w H' w' := by
 obtain ⟨p1,c1,p2,c2,p3,c3,rfl,n00,k1,k2,k3⟩ := ft_open h
 have hi256 := x.i.toNat_lt
 have hn256 := x.nm.toNat_lt
 have hcap := k3.cap
 obtain ⟨pN,cN,rfl,hNd⟩ := sp_open hX
 obtain ⟨m0,hm0⟩ := wu64 x.n.toInt
 obtain ⟨m,hmm⟩ : ∃ m,m = m0 % 13 := ⟨_,rfl⟩
 have hm13 : m < 13 := by omega
 refine Sx.enter (H := H) Tryz.func23 rfl Tryz.ntmps23 rfl hA ?_
 refine .sr<|.bx Z Z Z fun b2 => .bx Z Z Z fun b3 => .al Fx.zero32 Z fun b4 => .ns<|.yv (.fieldAddr Z Fx.field55_3) Z<|.yv (.load Z Fx.agg2 (.tail _<|.head _) Z) Z<|.yv (.conv Z Fx.int2 Fx.int139 hm0) Z<|.yv (.rem Z Z (by decide) (c := ((m : Nat) : Int)) (by rw [hmm];exact tm2 _ 13)) Z<|.yv (.conv Z Fx.int139 Fx.int3 (c := ((m : Nat) : Int)) (w6 (by omega))) Z<|.a Z Z<|.ns<|.yv (.fieldAddr Z Fx.field55_2) Z<|.yv (.load Z Fx.agg5 (.tail _<|.head _) Z) Z<|.yv (.call Fx.call53 Z (fun W s => word_any H x.nm W s.agr)) Z<|.a Z Z<|.ns<|.yv (.fieldAddr Z Fx.field55_1) Z<|.yv (.load Z Fx.agg5 (.tail _<|.head _) Z) Z<|.yv (.conv Z Fx.int5 Fx.int3 (c := ((x.i.toNat : Nat) : Int)) (w6 (by omega))) Z<|.yv (.fieldAddr Z Fx.field32_3) Z<|.yv (.load Z Fx.agg30 (.tail _<|.tail _<|.head _) Z) Z<|.yv (.lenSl Fx.sl30 Z) Z<|.yv (.rem Z Z (by have := hok.pos;omega) (c := ((x.i.toNat % f.comps.length : Nat) : Int)) (tm2 _ _)) Z<|?_
 have hi : x.i.toNat % f.comps.length < f.comps.length := Nat.mod_lt _ hok.pos
 generalize x.i.toNat % f.comps.length = i at hi ⊢
 obtain ⟨bE,oE,cE,hpE,rE,lE,mE⟩ := k3.elem (map_at (f := dCp .i64) hi)
 cases hpE
 have ok0 := hok.all _ (List.getElem_mem hi)
 generalize hc0 : f.comps[i] = c0 at rE ok0
 obtain ⟨nm0,vs0,vr0⟩ := c0
 obtain ⟨q1,d1,q2,d2,rfl,n0,g1,g2⟩ := cp_open rE
 dsimp only at n0 g1 g2 mE
 have hvl : vs0.length ≤ N := ok0.vars
 have hrl : vr0.length ≤ N := ok0.vers
 have hfl := hok.flags
 have hll := hok.links
 have hcl := hok.comps
 refine .a Z Z<|.ns<|.yv (.fieldAddr Z Fx.field32_3) Z<|.yv (.load Z Fx.agg30 (.tail _<|.tail _<|.head _) Z) Z<|.m Z Z<|.yv (.indexSl Fx.sl30 Z Z (i := i) Z hi (q := oE + i * 3) Z) Z<|.yv (.loadMW Z Fx.agg91 mE Z) Z<|.al Fx.zero91 Z fun b8 => .sW .head Z Z Fx.size91 (by show ∀ u ∈ [_,_,_],Value.oneCell' u = true;simp [Value.oneCell',strV]) Z<|.nt<|.cu (X := List Value × Option Addr × Nat × List Value × Option Addr × Nat) [(2,_),(3,_),(4,_),(5,_),(6,_),(7,_),(8,_)] ⟨rfl,rfl,rfl,rfl,rfl,rfl,rfl,trivial⟩ (fun z => []) (fun z => H) (fun z => [.row 93 3 (.slice z.2.1 vs0.length z.2.2.1) vs0.length z.1,.row 97 1 (.slice z.2.2.2.2.1 vr0.length z.2.2.2.2.2) vr0.length z.2.2.2.1,.box b8 [strV nm0,.slice z.2.1 vs0.length z.2.2.1,.slice z.2.2.2.2.1 vr0.length z.2.2.2.2.2] 91,.box b4 [.string ⟨#[]⟩,.slice none 0 0,.slice none 0 0,.slice none 0 0] 32,.box b3 [.int .u8 x.wh.toNat,.int .u8 x.i.toNat,.int .u8 x.nm.toNat,.int .i64 x.n.toInt,.slice pN x.nodes.length cN] 55,.box b2 [strV f.nm,.slice p1 f.flags.length c1,.slice p2 f.links.length c2,.slice (some ⟨bE,oE,none⟩) f.comps.length c3] 32]) (fun z => RepZ H 3 (vs0.map (dVr .i64)) z.1 ∧ RepZ H 1 (vr0.map (dVs .i64)) z.2.2.2.1) ?_ fun z hC => ?_
 ·
  refine .ft (p := .light _ _ (.light _ _ (.light _ _ (.light _ _ (.alt _ _ _ (.alt _ _ _ (.light _ _ (.alt _ _ _ (.alt _ _ _ (.done) (.no)) (.no))) (.alt _ _ _ (.alt _ _ _ (.light _ _ (.alt _ _ _ (.done) (.no))) (.no)) (.no))) (.alt _ _ _ (.alt _ _ _ (.alt _ _ _ (.light _ _ (.alt _ _ _ (.done) (.no))) (.no)) (.no)) (.no))))))) 9 (.light 1 (.light 2 (.light 5 (.light 6 (.alt 0 0 (.alt 3 2 (.light 8 (.alt 4 0 (.alt 7 2 (.done) (.no)) (.no))) (.alt 4 0 (.alt 3 2 (.light 8 (.alt 7 2 (.done) (.no))) (.no)) (.no))) (.alt 4 0 (.alt 0 0 (.alt 3 2 (.light 8 (.alt 7 2 (.done) (.no))) (.no)) (.no)) (.no))))))) (by kernel_rfl) (by kernel_rfl) Z<|.yv (.fieldAddr Z Fx.field91_1) Z<|.yv (.load Z Fx.agg88 (.head _) Z) Z<|.yv (.fieldAddr Z Fx.field91_2) Z<|.yv (.load Z Fx.agg89 (.head _) Z) Z<|.h ?_ (.h ?_ .nn)
  ·
   refine .blR Z Fx.bsl88_0 Z (z := 3) Z (by decide) fun g34 => .h ?_ (.h ?_ .nn)
   ·
    exact .apD0 Fx.row88 Z (fun _ _ => .head) Z g1 (by simp [maxLen];omega) (by omega) Z (fun _ _ => (.yv (.load Z Fx.agg89 (.tail _<|.head _) Z)<|.yv (.fieldAddr Z Fx.field91_2)<|.done (by kernel_rfl)<|.done (by kernel_rfl)<|.nl)) fun xs37 p37 c37 hz37 => .yv (.fieldAddr Z Fx.field91_1) Z<|.h1<|.blR Z Fx.bsl89_0 Z (z := 1) Z (by decide) fun g38 => .h1<|.apD0 Fx.row89 Z (fun _ _ => .head) Z g2 (by simp [maxLen];omega) (by omega) Z (fun _ _ => (.yv (.fieldAddr Z Fx.field91_1)<|.done (by kernel_rfl)<|.done (by kernel_rfl)<|.done (by kernel_rfl)<|.done (by kernel_rfl)<|.nl)) fun xs41 p41 c41 hz41 => .fn (tl := [_,_,_]) Z<|.st (.tail<|.tail<|.head) Z Z Fx.size88 Z (nb Z) Z<|.yv (.fieldAddr Z Fx.field91_2) Z<|.st (.tail<|.tail<|.head) Z Z Fx.size89 Z (nb Z) Z<|.nt<|.me (xs37,p37,c37,xs41,p41,c41) trivial ⟨rfl,rfl,rfl,rfl,rfl,rfl,rfl,trivial⟩ (fun _ s => s.pick [1,0,2,3,4,5] [_,_,_,_,_,_] Z Z) ⟨hz37,hz41⟩
   exact .blR Z Fx.bsl89_0 Z (z := 1) Z (by decide) fun g38 => .h1<|.apD0 Fx.row88 Z (fun _ _ => (.tail<|.head)) Z g1 (by simp [maxLen];omega) (by omega) Z (fun _ _ => (.yv (.load Z Fx.agg89 (.tail _<|.tail _<|.head _) Z)<|.yv (.fieldAddr Z Fx.field91_2)<|.done (by kernel_rfl)<|.done (by kernel_rfl)<|.nl)) fun xs37 p37 c37 hz37 => .yv (.fieldAddr Z Fx.field91_1) Z<|.h1<|.apD0 Fx.row89 Z (fun _ _ => .head) Z g2 (by simp [maxLen];omega) (by omega) Z (fun _ _ => (.yv (.fieldAddr Z Fx.field91_1)<|.done (by kernel_rfl)<|.done (by kernel_rfl)<|.done (by kernel_rfl)<|.done (by kernel_rfl)<|.nl)) fun xs41 p41 c41 hz41 => .fn (tl := [_,_,_]) Z<|.st (.tail<|.tail<|.head) Z Z Fx.size88 Z (nb Z) Z<|.yv (.fieldAddr Z Fx.field91_2) Z<|.st (.tail<|.tail<|.head) Z Z Fx.size89 Z (nb Z) Z<|.nt<|.me (xs37,p37,c37,xs41,p41,c41) trivial ⟨rfl,rfl,rfl,rfl,rfl,rfl,rfl,trivial⟩ (fun _ s => s.pick [1,0,2,3,4,5] [_,_,_,_,_,_] Z Z) ⟨hz37,hz41⟩
  exact .blR Z Fx.bsl89_0 Z (z := 1) Z (by decide) fun g38 => .h1<|.blR Z Fx.bsl88_0 Z (z := 3) Z (by decide) fun g34 => .h1<|.apD0 Fx.row88 Z (fun _ _ => .head) Z g1 (by simp [maxLen];omega) (by omega) Z (fun _ _ => (.yv (.load Z Fx.agg89 (.tail _<|.tail _<|.head _) Z)<|.yv (.fieldAddr Z Fx.field91_2)<|.done (by kernel_rfl)<|.done (by kernel_rfl)<|.nl)) fun xs37 p37 c37 hz37 => .yv (.fieldAddr Z Fx.field91_1) Z<|.h1<|.apD0 Fx.row89 Z (fun _ _ => (.tail<|.head)) Z g2 (by simp [maxLen];omega) (by omega) Z (fun _ _ => (.yv (.fieldAddr Z Fx.field91_1)<|.done (by kernel_rfl)<|.done (by kernel_rfl)<|.done (by kernel_rfl)<|.done (by kernel_rfl)<|.nl)) fun xs41 p41 c41 hz41 => .fn (tl := [_,_,_]) Z<|.st (.tail<|.tail<|.head) Z Z Fx.size88 Z (nb Z) Z<|.yv (.fieldAddr Z Fx.field91_2) Z<|.st (.tail<|.tail<|.head) Z Z Fx.size89 Z (nb Z) Z<|.nt<|.me (xs37,p37,c37,xs41,p41,c41) trivial ⟨rfl,rfl,rfl,rfl,rfl,rfl,rfl,trivial⟩ (fun _ s => s) ⟨hz37,hz41⟩
 obtain ⟨xs37,p37,c37,xs41,p41,c41⟩ := z
 dsimp only at hC ⊢
 obtain ⟨hz37,hz41⟩ := hC
 refine .cu (X := Hp × Ft × List Value × Cp × Value × List Value × Value × List Value) [(2,_),(3,_),(4,_),(7,_),(8,_)] ⟨rfl,rfl,rfl,rfl,rfl,trivial⟩ (fun z => []) (fun z => z.1) (fun z => [.row 93 3 z.2.2.2.2.1 z.2.2.2.1.vars.length z.2.2.2.2.2.1,.row 97 1 z.2.2.2.2.2.2.1 z.2.2.2.1.vers.length z.2.2.2.2.2.2.2,.box b8 [strV z.2.2.2.1.nm,z.2.2.2.2.1,z.2.2.2.2.2.2.1] 91,.box b2 z.2.2.1 32,.box b3 [.int .u8 x.wh.toNat,.int .u8 x.i.toNat,.int .u8 x.nm.toNat,.int .i64 x.n.toInt,.slice pN x.nodes.length cN] 55,.box b4 [.string ⟨#[]⟩,.slice none 0 0,.slice none 0 0,.slice none 0 0] 32]) (fun z => HUp w H z.1 ∧ Rep z.1 (dFt .i64 z.2.1) z.2.2.1 ∧ okFt (N + 100) z.2.1 ∧ f.comps.length ≤ z.2.1.comps.length ∧ z.2.2.2.1.nm.length ≤ 1000000 ∧ RepZ z.1 3 (z.2.2.2.1.vars.map (dVr .i64)) z.2.2.2.2.2.1 ∧ RepZ z.1 1 (z.2.2.2.1.vers.map (dVs .i64)) z.2.2.2.2.2.2.2 ∧ okCp (N + 100) z.2.2.2.1) ?_ fun z hC => ?_
 ·
  refine .sr<|.yv (.fieldAddr Z Fx.field55_0) Z<|.yv (.load Z Fx.agg5 (.tail _<|.tail _<|.tail _<|.tail _<|.head _) Z) Z<|.yv (.rem Z Z (by decide) (c := ((x.wh.toNat % 26 : Nat) : Int)) (by rw [Int.tmod_eq_emod_of_nonneg (by omega)];omega)) Z<|.nt<|.bk<|.sr<|.yv (.eql Z Z) Z<|.a Z Z<|.nt<|.cd Z (fun h47 => ?_) (fun h47 => ?_)
  ·skip
   exact .rg<|.m Z Z<|.yv (.fieldAddr Z Fx.field32_0) Z<|.st (.tail<|.tail<|.tail<|.tail<|.tail<|.head) Z Z Fx.size9 Z (nb Z) Z<|.nl<|.bN<|.tN<|.me (H,⟨wordR x.nm,f.flags,f.links,f.comps⟩,_,⟨nm0,vs0,vr0⟩,_,_,_,_) trivial ⟨rfl,rfl,rfl,rfl,rfl,trivial⟩ (fun _ s => s.pick [0,1,2,5,4,3] [_,_,_,_,_,_] Z Z) ⟨.refl,ft_shut (x := ⟨wordR x.nm,f.flags,f.links,f.comps⟩) (Nat.le_trans (word_len _) (by decide)) k1 k2 k3,⟨(hok.mono (M := N + 100) (by omega)).flags,(hok.mono (M := N + 100) (by omega)).links,(hok.mono (M := N + 100) (by omega)).comps,hok.pos,(hok.mono (M := N + 100) (by omega)).all⟩,Nat.le_refl _,n0,hz37,hz41,ok0.mono (by omega)⟩
  skip
  refine .sr<|.yv (.eql Z Z) Z<|.a Z Z<|.nt<|.cd Z (fun h51 => ?_) (fun h51 => ?_)
  ·skip
   refine .sr<|.a Z Z<|.nt<|.bk<|.pm [5,0,1,2,3,4] [_,_,_,_,_,_] Z Z<|.lp (X := Nat × Hp × Option Addr × Nat × Nat) [(2,_),(3,_),(4,_),(5,_),(7,_),(8,_)] ⟨rfl,rfl,rfl,rfl,rfl,rfl,trivial⟩ [_,_,_,_,_] (fun z => [(9,.int .i64 (z.1 : Nat))]) (fun z => z.2.1) (fun z => [.box b2 [strV f.nm,.slice p1 f.flags.length c1,.slice p2 f.links.length c2,.slice z.2.2.1 z.2.2.2.1 z.2.2.2.2] 32]) (fun z => z.1 ≤ m ∧ HUp w H z.2.1 ∧ ∃ L : List Cp,L.length = f.comps.length + z.1 ∧ Rep z.2.1 (.seq 3 (L.map (dCp .i64))) [.slice z.2.2.1 z.2.2.2.1 z.2.2.2.2] ∧ ∀ c ∈ L,okCp N c) (fun z => m - z.1) (0,H,_,_,_) (fun _ s => s) ⟨rfl,trivial⟩ ⟨by simp,.refl,f.comps,by simp,k3,fun c m => (hok.all c m)⟩ fun z hC => ?_
   obtain ⟨j,H1,pp,pn,pc⟩ := z
   dsimp only at hC ⊢
   obtain ⟨hj0,uP,L,hL,hr,hall⟩ := hC
   have hpn := hr.len.1
   rw [List.length_map] at hpn
   have hrc := hr.cap
   refine .sq<|.sr<|.m Z Z<|.m Z Z<|.yv (.lss Z Z) Z<|.nt<|.cd Z (fun h55 => ?_) (fun h55 => ?_)
   ·try simp only [dt] at h55
    have hj : j < m := by omega
    have hL0 : 0 < L.length := by have := hok.pos;omega
    obtain ⟨bF,oF,cF,hpF,rF,lF,mF⟩ := hr.elem (map_at (f := dCp .i64) hL0)
    cases hpF
    generalize hcx : L[0] = cx at rF
    obtain ⟨nmx,vsx,vrx⟩ := cx
    obtain ⟨qx1,dx1,qx2,dx2,rfl,nx0,kx1,kx2⟩ := cp_open rF
    dsimp only at mF
    refine .sk<|.tN<|.sq<|.bk<|.ft (p := .light _ _ (.light _ _ (.light _ _ (.light _ _ (.light _ _ (.light _ _ (.alt _ _ _ (.alt _ _ _ (.alt _ _ _ (.done) (.no)) (.alt _ _ _ (.alt _ _ _ (.done) (.no)) (.no))) (.alt _ _ _ (.alt _ _ _ (.alt _ _ _ (.done) (.no)) (.no)) (.no))))))))) 9 (.light 1 (.light 2 (.light 4 (.light 5 (.light 6 (.light 7 (.alt 0 0 (.alt 3 2 (.alt 8 0 (.done) (.no)) (.alt 8 0 (.alt 3 2 (.done) (.no)) (.no))) (.alt 8 0 (.alt 0 0 (.alt 3 2 (.done) (.no)) (.no)) (.no))))))))) (by kernel_rfl) (by kernel_rfl) Z<|.yv (.fieldAddr Z Fx.field32_3) Z<|.yv (.load Z Fx.agg30 (.head _) Z) Z<|.yv (.fieldAddr Z Fx.field32_3) Z<|.yv (.load Z Fx.agg30 (.head _) Z) Z<|.yv (.indexSl Fx.sl30 Z Z (i := 0) Z (by omega) (q := oF + 0 * 3) Z) Z<|.yv (.loadMW Z Fx.agg91 mF Z) Z<|.h ?_ (.h ?_ .nn)
    ·
     refine .blR Z Fx.bsl30_0 Z (z := 3) Z (by decide) fun g58 => .h ?_ (.h ?_ .nn)
     ·
      refine .apD0 Fx.row30 Z (fun _ _ => .head) Z hr (by simp [maxLen];omega) (by omega) Z (fun _ _ => (.yv (.loadMW Z Fx.agg91 mF Z)<|.yv (.indexSl Fx.sl30 Z Z (i := 0) Z (by omega) (q := oF + 0 * 3) Z)<|.yv (.load Z Fx.agg30 (.tail _<|.head _) Z)<|.yv (.fieldAddr Z Fx.field32_3)<|.done (by kernel_rfl)<|.done (by kernel_rfl)<|.nl)) fun xs61 p61 c61 hz61 => .h1<|.bl Z (Fx.bsl30_1 _ _ _) Z fun b66 => .fn (tl := [_,_,_]) Z<|.ap (news := [strV nmx,.slice qx1 vsx.length dx1,.slice qx2 vrx.length dx2]) Fx.row30 Z (fun _ => (.tail<|.head)) Z (.box (.head _) z0) Z (by simp [Value.oneCell',strV]) (by simp [maxLen];omega) (by omega) Z fun r67 _ => ?_
      refine At.ra (.tail _<|.head _) fun p67 c67 e67 => ?_
      subst e67
      refine .yv (.fieldAddr Z Fx.field32_3) Z<|.st (.tail<|.tail<|.head) Z Z Fx.size30 Z (nb Z) Z<|?_
      refine At.pm [1,0,2,3,4,5,6,7] [_,_,_,_,_,_,_,_] rfl rfl ?_
      refine Sx.freezeSeq (ds := (L ++ [L[0]]).map (dCp .i64)) (by simp <;> omega) (by rw [List.map_append,hcx];exact hz61.snoc rF rfl) fun H2 p2 c2 u2 e2 h2 => ?_
      obtain ⟨rfl,rfl⟩ := sl_inj e2
      exact .nl<|.bN<|.tN<|.rg<|.m Z Z<|.yv (.add Z Z (w6 (by omega))) Z<|.a Z Z<|.nt<|.ag (x := (j,H1,some ⟨bF,oF,none⟩,pn,pc)) (j + 1,H2,p67,pn + 1,c67) ⟨rfl,trivial⟩ ⟨rfl,rfl,rfl,rfl,rfl,rfl,trivial⟩ (fun _ s => (s.pick [1,2,3,4,5,6] _ Z Z)) ⟨by dsimp only;omega,uP.trans u2,L ++ [L[0]],by simp;omega,h2,fun c m => (List.mem_append.1 m).elim (hall c) (fun m => by rw [List.mem_singleton.1 m];exact hall _ (List.getElem_mem hL0))⟩ (by dsimp only;omega)
     refine .bl Z (Fx.bsl30_1 _ _ _) Z fun b66 => .h1<|.apD0 Fx.row30 Z (fun _ _ => (.tail<|.head)) Z hr (by simp [maxLen];omega) (by omega) Z (fun _ _ => (.yv (.loadMW Z Fx.agg91 mF Z)<|.yv (.indexSl Fx.sl30 Z Z (i := 0) Z (by omega) (q := oF + 0 * 3) Z)<|.yv (.load Z Fx.agg30 (.tail _<|.tail _<|.head _) Z)<|.yv (.fieldAddr Z Fx.field32_3)<|.done (by kernel_rfl)<|.done (by kernel_rfl)<|.nl)) fun xs61 p61 c61 hz61 => .fn (tl := [_,_,_]) Z<|.ap (news := [strV nmx,.slice qx1 vsx.length dx1,.slice qx2 vrx.length dx2]) Fx.row30 Z (fun _ => (.tail<|.head)) Z (.box (.head _) z0) Z (by simp [Value.oneCell',strV]) (by simp [maxLen];omega) (by omega) Z fun r67 _ => ?_
     refine At.ra (.tail _<|.head _) fun p67 c67 e67 => ?_
     subst e67
     refine .yv (.fieldAddr Z Fx.field32_3) Z<|.st (.tail<|.tail<|.head) Z Z Fx.size30 Z (nb Z) Z<|?_
     refine At.pm [1,0,2,3,4,5,6,7] [_,_,_,_,_,_,_,_] rfl rfl ?_
     refine Sx.freezeSeq (ds := (L ++ [L[0]]).map (dCp .i64)) (by simp <;> omega) (by rw [List.map_append,hcx];exact hz61.snoc rF rfl) fun H2 p2 c2 u2 e2 h2 => ?_
     obtain ⟨rfl,rfl⟩ := sl_inj e2
     exact .nl<|.bN<|.tN<|.rg<|.m Z Z<|.yv (.add Z Z (w6 (by omega))) Z<|.a Z Z<|.nt<|.ag (x := (j,H1,some ⟨bF,oF,none⟩,pn,pc)) (j + 1,H2,p67,pn + 1,c67) ⟨rfl,trivial⟩ ⟨rfl,rfl,rfl,rfl,rfl,rfl,trivial⟩ (fun _ s => (s.pick [1,2,3,4,5,6] _ Z Z)) ⟨by dsimp only;omega,uP.trans u2,L ++ [L[0]],by simp;omega,h2,fun c m => (List.mem_append.1 m).elim (hall c) (fun m => by rw [List.mem_singleton.1 m];exact hall _ (List.getElem_mem hL0))⟩ (by dsimp only;omega)
    refine .bl Z (Fx.bsl30_1 _ _ _) Z fun b66 => .h1<|.blR Z Fx.bsl30_0 Z (z := 3) Z (by decide) fun g58 => .h1<|.apD0 Fx.row30 Z (fun _ _ => .head) Z hr (by simp [maxLen];omega) (by omega) Z (fun _ _ => (.yv (.loadMW Z Fx.agg91 mF Z)<|.yv (.indexSl Fx.sl30 Z Z (i := 0) Z (by omega) (q := oF + 0 * 3) Z)<|.yv (.load Z Fx.agg30 (.tail _<|.tail _<|.head _) Z)<|.yv (.fieldAddr Z Fx.field32_3)<|.done (by kernel_rfl)<|.done (by kernel_rfl)<|.nl)) fun xs61 p61 c61 hz61 => .fn (tl := [_,_,_]) Z<|.ap (news := [strV nmx,.slice qx1 vsx.length dx1,.slice qx2 vrx.length dx2]) Fx.row30 Z (fun _ => .head) Z (.box (.tail _<|.head _) z0) Z (by simp [Value.oneCell',strV]) (by simp [maxLen];omega) (by omega) Z fun r67 _ => ?_
    refine At.ra (.head _) fun p67 c67 e67 => ?_
    subst e67
    refine .yv (.fieldAddr Z Fx.field32_3) Z<|.st (.tail<|.tail<|.head) Z Z Fx.size30 Z (nb Z) Z<|?_
    refine Sx.freezeSeq (ds := (L ++ [L[0]]).map (dCp .i64)) (by simp <;> omega) (by rw [List.map_append,hcx];exact hz61.snoc rF rfl) fun H2 p2 c2 u2 e2 h2 => ?_
    obtain ⟨rfl,rfl⟩ := sl_inj e2
    exact .nl<|.bN<|.tN<|.rg<|.m Z Z<|.yv (.add Z Z (w6 (by omega))) Z<|.a Z Z<|.nt<|.ag (x := (j,H1,some ⟨bF,oF,none⟩,pn,pc)) (j + 1,H2,p67,pn + 1,c67) ⟨rfl,trivial⟩ ⟨rfl,rfl,rfl,rfl,rfl,rfl,trivial⟩ (fun _ s => (s.pick [1,2,3,4,5,6] _ Z Z)) ⟨by dsimp only;omega,uP.trans u2,L ++ [L[0]],by simp;omega,h2,fun c m => (List.mem_append.1 m).elim (hall c) (fun m => by rw [List.mem_singleton.1 m];exact hall _ (List.getElem_mem hL0))⟩ (by dsimp only;omega)
   skip
   exact .ex<|.tE<|.tE<|.bE<|.bN<|.tN<|.me (H1,⟨f.nm,f.flags,f.links,L⟩,_,⟨nm0,vs0,vr0⟩,_,_,_,_) trivial ⟨rfl,rfl,rfl,rfl,rfl,trivial⟩ (fun _ s => s.pick [1,2,3,0,5,4] [_,_,_,_,_,_] Z Z) ⟨uP,ft_shut (x := ⟨f.nm,f.flags,f.links,L⟩) n00 (k1.up uP.up) (k2.up uP.up) hr,⟨(hok.mono (M := N + 100) (by omega)).flags,(hok.mono (M := N + 100) (by omega)).links,by show L.length ≤ _;have := hok.comps;omega,by show 0 < L.length;have := hok.pos;omega,fun c m => (hall c m).mono (by omega)⟩,(by show f.comps.length ≤ L.length;omega),n0,RepZ.up uP.up hz37,RepZ.up uP.up hz41,ok0.mono (by omega)⟩
  skip
  refine .sr<|.yv (.eql Z Z) Z<|.a Z Z<|.nt<|.cd Z (fun h69 => ?_) (fun h69 => ?_)
  ·skip
   refine .sr<|.a Z Z<|.nt<|.bk<|.pm [5,0,1,2,3,4] [_,_,_,_,_,_] Z Z<|.lp (X := Nat × Hp × Option Addr × Nat × Nat) [(2,_),(3,_),(4,_),(5,_),(6,_),(7,_),(8,_)] ⟨rfl,rfl,rfl,rfl,rfl,rfl,rfl,trivial⟩ [_,_,_,_,_] (fun z => [(10,.int .i64 (z.1 : Nat))]) (fun z => z.2.1) (fun z => [.box b2 [strV f.nm,.slice z.2.2.1 z.2.2.2.1 z.2.2.2.2,.slice p2 f.links.length c2,.slice (some ⟨bE,oE,none⟩) f.comps.length c3] 32]) (fun z => z.1 ≤ m ∧ HUp w H z.2.1 ∧ ∃ L : List Fg,L.length = f.flags.length + z.1 ∧ Rep z.2.1 (.seq 2 (L.map dFg)) [.slice z.2.2.1 z.2.2.2.1 z.2.2.2.2]) (fun z => m - z.1) (0,H,_,_,_) (fun _ s => s) ⟨rfl,trivial⟩ ⟨by simp,.refl,f.flags,by simp,k1⟩ fun z hC => ?_
   obtain ⟨j,H1,pp,pn,pc⟩ := z
   dsimp only at hC ⊢
   obtain ⟨hj0,uP,L,hL,hr⟩ := hC
   have hpn := hr.len.1
   rw [List.length_map] at hpn
   have hrc := hr.cap
   refine .sq<|.sr<|.m Z Z<|.m Z Z<|.yv (.lss Z Z) Z<|.nt<|.cd Z (fun h73 => ?_) (fun h73 => ?_)
   ·try simp only [dt] at h73
    have hj : j < m := by omega
    refine .sk<|.tN<|.sq<|.bk<|.rg<|.blR Z Fx.bsl28_0 Z (z := 2) Z (by decide) fun g76 => .yv (.fieldAddr Z Fx.field32_1) Z<|.yv (.load Z Fx.agg28 (.tail _<|.head _) Z) Z<|.apD0 Fx.row28 Z (fun _ _ => .head) Z hr (by simp [maxLen];omega) (by omega) Z fun xs79 r79 hz79 => .m Z Z<|.yv (.build Z (Fx.bld84_0 _)) Z<|.bl Z (Fx.bsl28_1 _ _) Z fun b82 => .ap (news := [strV (wordR x.nm),.bool false]) Fx.row28 Z (fun _ => (.tail<|.head)) Z (.box (.head _) z0) Z (by simp [Value.oneCell',strV]) (by simp [maxLen];omega) (by omega) Z fun r83 _ => ?_
    refine At.ra (.tail _<|.head _) fun p83 c83 e83 => ?_
    subst e83
    refine .yv (.fieldAddr Z Fx.field32_1) Z<|.st (.tail<|.tail<|.head) Z Z Fx.size28 Z (nb Z) Z<|?_
    refine At.pm [1,0,2,3,4,5,6,7] [_,_,_,_,_,_,_,_] rfl rfl ?_
    refine Sx.freezeSeq (ds := (L ++ [(⟨wordR x.nm,false⟩ : Fg)]).map dFg) (by simp <;> omega) (by rw [List.map_append];exact hz79.snoc (fg_shut (x := ⟨wordR x.nm,false⟩) (Nat.le_trans (word_len _) (by decide))) rfl) fun H2 p2 c2 u2 e2 h2 => ?_
    obtain ⟨rfl,rfl⟩ := sl_inj e2
    exact .nl<|.bN<|.tN<|.rg<|.m Z Z<|.yv (.add Z Z (w6 (by omega))) Z<|.a Z Z<|.nt<|.ag (x := (j,H1,pp,pn,pc)) (j + 1,H2,p83,pn + 1,c83) ⟨rfl,trivial⟩ ⟨rfl,rfl,rfl,rfl,rfl,rfl,rfl,trivial⟩ (fun _ s => (s.pick [1,2,3,4,5,6] _ Z Z)) ⟨by dsimp only;omega,uP.trans u2,L ++ [⟨wordR x.nm,false⟩],by simp;omega,h2⟩ (by dsimp only;omega)
   skip
   exact .ex<|.tE<|.tE<|.bE<|.bN<|.tN<|.me (H1,⟨f.nm,L,f.links,f.comps⟩,_,⟨nm0,vs0,vr0⟩,_,_,_,_) trivial ⟨rfl,rfl,rfl,rfl,rfl,trivial⟩ (fun _ s => s.pick [1,2,3,0,5,4] [_,_,_,_,_,_] Z Z) ⟨uP,ft_shut (x := ⟨f.nm,L,f.links,f.comps⟩) n00 hr (k2.up uP.up) (k3.up uP.up),⟨by show L.length ≤ _;have := hok.flags;omega,(hok.mono (M := N + 100) (by omega)).links,(hok.mono (M := N + 100) (by omega)).comps,hok.pos,(hok.mono (M := N + 100) (by omega)).all⟩,Nat.le_refl _,n0,RepZ.up uP.up hz37,RepZ.up uP.up hz41,ok0.mono (by omega)⟩
  skip
  refine .sr<|.yv (.eql Z Z) Z<|.a Z Z<|.nt<|.cd Z (fun h85 => ?_) (fun h85 => ?_)
  ·skip
   refine .sr<|.a Z Z<|.nt<|.bk<|.pm [5,0,1,2,3,4] [_,_,_,_,_,_] Z Z<|.lp (X := Nat × Hp × Option Addr × Nat × Nat) [(2,_),(3,_),(4,_),(5,_),(6,_),(7,_),(8,_)] ⟨rfl,rfl,rfl,rfl,rfl,rfl,rfl,trivial⟩ [_,_,_,_,_] (fun z => [(11,.int .i64 (z.1 : Nat))]) (fun z => z.2.1) (fun z => [.box b2 [strV f.nm,.slice p1 f.flags.length c1,.slice z.2.2.1 z.2.2.2.1 z.2.2.2.2,.slice (some ⟨bE,oE,none⟩) f.comps.length c3] 32]) (fun z => z.1 ≤ 6 * m ∧ HUp w H z.2.1 ∧ ∃ L : List Lk,L.length = f.links.length + z.1 ∧ Rep z.2.1 (.seq 3 (L.map dLk)) [.slice z.2.2.1 z.2.2.2.1 z.2.2.2.2]) (fun z => 6 * m - z.1) (0,H,_,_,_) (fun _ s => s) ⟨rfl,trivial⟩ ⟨by simp,.refl,f.links,by simp,k2⟩ fun z hC => ?_
   obtain ⟨j,H1,pp,pn,pc⟩ := z
   dsimp only at hC ⊢
   obtain ⟨hj0,uP,L,hL,hr⟩ := hC
   have hpn := hr.len.1
   rw [List.length_map] at hpn
   have hrc := hr.cap
   refine .sq<|.sr<|.m Z Z<|.m Z Z<|.yv (.mul Z Z (c := ((6 * m : Nat) : Int)) ((w6 (by omega)).trans (by omega))) Z<|.yv (.lss Z Z) Z<|.nt<|.cd Z (fun h90 => ?_) (fun h90 => ?_)
   ·try simp only [dt] at h90
    have hj : j < 6 * m := by omega
    refine .sk<|.tN<|.sq<|.bk<|.rg<|.blR Z Fx.bsl29_0 Z (z := 3) Z (by decide) fun g93 => .yv (.fieldAddr Z Fx.field32_2) Z<|.yv (.load Z Fx.agg29 (.tail _<|.head _) Z) Z<|.apD0 Fx.row29 Z (fun _ _ => .head) Z hr (by simp [maxLen];omega) (by omega) Z fun xs96 r96 hz96 => .m Z Z<|.yv (.build Z (Fx.bld86_0_1_2 _ _ _)) Z<|.bl Z (Fx.bsl29_1 _ _ _) Z fun b99 => .ap (news := [strV [97],strV (wordR x.nm),.int .i64 1]) Fx.row29 Z (fun _ => (.tail<|.head)) Z (.box (.head _) z0) Z (by simp [Value.oneCell',strV]) (by simp [maxLen];omega) (by omega) Z fun r100 _ => ?_
    refine At.ra (.tail _<|.head _) fun p100 c100 e100 => ?_
    subst e100
    refine .yv (.fieldAddr Z Fx.field32_2) Z<|.st (.tail<|.tail<|.head) Z Z Fx.size29 Z (nb Z) Z<|?_
    refine At.pm [1,0,2,3,4,5,6,7] [_,_,_,_,_,_,_,_] rfl rfl ?_
    refine Sx.freezeSeq (ds := (L ++ [(⟨[97],wordR x.nm,1⟩ : Lk)]).map dLk) (by simp <;> omega) (by rw [List.map_append];exact hz96.snoc (lk_shut (x := ⟨[97],wordR x.nm,1⟩) (show [(97 : UInt8)].length ≤ 1000000 by decide) (Nat.le_trans (word_len _) (by decide))) rfl) fun H2 p2 c2 u2 e2 h2 => ?_
    obtain ⟨rfl,rfl⟩ := sl_inj e2
    exact .nl<|.bN<|.tN<|.rg<|.m Z Z<|.yv (.add Z Z (w6 (by omega))) Z<|.a Z Z<|.nt<|.ag (x := (j,H1,pp,pn,pc)) (j + 1,H2,p100,pn + 1,c100) ⟨rfl,trivial⟩ ⟨rfl,rfl,rfl,rfl,rfl,rfl,rfl,trivial⟩ (fun _ s => (s.pick [1,2,3,4,5,6] _ Z Z)) ⟨by dsimp only;omega,uP.trans u2,L ++ [⟨[97],wordR x.nm,1⟩],by simp;omega,h2⟩ (by dsimp only;omega)
   skip
   exact .ex<|.tE<|.tE<|.bE<|.bN<|.tN<|.me (H1,⟨f.nm,f.flags,L,f.comps⟩,_,⟨nm0,vs0,vr0⟩,_,_,_,_) trivial ⟨rfl,rfl,rfl,rfl,rfl,trivial⟩ (fun _ s => s.pick [1,2,3,0,5,4] [_,_,_,_,_,_] Z Z) ⟨uP,ft_shut (x := ⟨f.nm,f.flags,L,f.comps⟩) n00 (k1.up uP.up) hr (k3.up uP.up),⟨(hok.mono (M := N + 100) (by omega)).flags,by show L.length ≤ _;have := hok.links;omega,(hok.mono (M := N + 100) (by omega)).comps,hok.pos,(hok.mono (M := N + 100) (by omega)).all⟩,Nat.le_refl _,n0,RepZ.up uP.up hz37,RepZ.up uP.up hz41,ok0.mono (by omega)⟩
  skip
  refine .sr<|.yv (.eql Z Z) Z<|.a Z Z<|.nt<|.cd Z (fun h102 => ?_) (fun h102 => ?_)
  ·skip
   refine .ft (p := .light _ _ (.light _ _ (.light _ _ (.light _ _ (.light _ _ (.alt _ _ _ (.alt _ _ _ (.alt _ _ _ (.done) (.no)) (.alt _ _ _ (.alt _ _ _ (.done) (.no)) (.no))) (.alt _ _ _ (.alt _ _ _ (.alt _ _ _ (.done) (.no)) (.no)) (.no)))))))) 8 (.light 1 (.light 2 (.light 4 (.light 5 (.light 6 (.alt 0 0 (.alt 3 2 (.alt 7 0 (.done) (.no)) (.alt 7 0 (.alt 3 2 (.done) (.no)) (.no))) (.alt 7 0 (.alt 0 0 (.alt 3 2 (.done) (.no)) (.no)) (.no)))))))) (by kernel_rfl) (by kernel_rfl) Z<|.yv (.fieldAddr Z Fx.field32_2) Z<|.yv (.load Z Fx.agg29 (.tail _<|.tail _<|.tail _<|.tail _<|.tail _<|.head _) Z) Z<|.yv (.fieldAddr Z Fx.field55_3) Z<|.yv (.load Z Fx.agg2 (.tail _<|.tail _<|.tail _<|.tail _<|.head _) Z) Z<|.yv (.build Z (Fx.bld86_0_1_2 _ _ _)) Z<|.h ?_ (.h ?_ .nn)
   ·
    refine .blR Z Fx.bsl29_0 Z (z := 3) Z (by decide) fun g104 => .h ?_ (.h ?_ .nn)
    ·
     refine .apD0 Fx.row29 Z (fun _ _ => .head) Z k2 (by simp [maxLen];omega) (by omega) Z (fun _ _ => (.yv (.build Z (Fx.bld86_0_1_2 _ _ _))<|.yv (.load Z Fx.agg2 (.tail _<|.tail _<|.tail _<|.tail _<|.tail _<|.head _) Z)<|.yv (.fieldAddr Z Fx.field55_3)<|.done (by kernel_rfl)<|.done (by kernel_rfl)<|.nl)) fun xs107 p107 c107 hz107 => .h1<|.bl Z (Fx.bsl29_1 _ _ _) Z fun b111 => .fn (tl := [_,_,_]) Z<|.ap (news := [strV [97],strV [97],.int .i64 x.n.toInt]) Fx.row29 Z (fun _ => (.tail<|.head)) Z (.box (.head _) z0) Z (by simp [Value.oneCell',strV]) (by simp [maxLen];omega) (by omega) Z fun r112 _ => ?_
     refine At.ra (.tail _<|.head _) fun p112 c112 e112 => ?_
     subst e112
     refine .yv (.fieldAddr Z Fx.field32_2) Z<|.st (.tail<|.tail<|.tail<|.tail<|.tail<|.tail<|.tail<|.head) Z Z Fx.size29 Z (nb Z) Z<|?_
     refine At.pm [1,0,2,3,4,5,6,7] [_,_,_,_,_,_,_,_] rfl rfl ?_
     refine Sx.freezeSeq (ds := (f.links ++ [(⟨[97],[97],x.n⟩ : Lk)]).map dLk) (by simp <;> omega) (by rw [List.map_append];exact hz107.snoc (lk_shut (x := ⟨[97],[97],x.n⟩) (show [(97 : UInt8)].length ≤ 1000000 by decide) (show [(97 : UInt8)].length ≤ 1000000 by decide)) rfl) fun H2 p2 c2 u2 e2 h2 => ?_
     obtain ⟨rfl,rfl⟩ := sl_inj e2
     exact .nl<|.bN<|.tN<|.me (H2,⟨f.nm,f.flags,f.links ++ [⟨[97],[97],x.n⟩],f.comps⟩,_,⟨nm0,vs0,vr0⟩,_,_,_,_) trivial ⟨rfl,rfl,rfl,rfl,rfl,trivial⟩ (fun _ s => s.pick [1,2,3,6,5,4] [_,_,_,_,_,_] Z Z) ⟨u2,ft_shut (x := ⟨f.nm,f.flags,f.links ++ [⟨[97],[97],x.n⟩],f.comps⟩) n00 (k1.up u2.up) h2 (k3.up u2.up),⟨(hok.mono (M := N + 100) (by omega)).flags,by show (f.links ++ [_]).length ≤ _;have := hok.links;rw [List.length_append,List.length_singleton];omega,(hok.mono (M := N + 100) (by omega)).comps,hok.pos,(hok.mono (M := N + 100) (by omega)).all⟩,Nat.le_refl _,n0,RepZ.up u2.up hz37,RepZ.up u2.up hz41,ok0.mono (by omega)⟩
    refine .bl Z (Fx.bsl29_1 _ _ _) Z fun b111 => .h1<|.apD0 Fx.row29 Z (fun _ _ => (.tail<|.head)) Z k2 (by simp [maxLen];omega) (by omega) Z (fun _ _ => (.yv (.build Z (Fx.bld86_0_1_2 _ _ _))<|.yv (.load Z Fx.agg2 (.tail _<|.tail _<|.tail _<|.tail _<|.tail _<|.tail _<|.head _) Z)<|.yv (.fieldAddr Z Fx.field55_3)<|.done (by kernel_rfl)<|.done (by kernel_rfl)<|.nl)) fun xs107 p107 c107 hz107 => .fn (tl := [_,_,_]) Z<|.ap (news := [strV [97],strV [97],.int .i64 x.n.toInt]) Fx.row29 Z (fun _ => (.tail<|.head)) Z (.box (.head _) z0) Z (by simp [Value.oneCell',strV]) (by simp [maxLen];omega) (by omega) Z fun r112 _ => ?_
    refine At.ra (.tail _<|.head _) fun p112 c112 e112 => ?_
    subst e112
    refine .yv (.fieldAddr Z Fx.field32_2) Z<|.st (.tail<|.tail<|.tail<|.tail<|.tail<|.tail<|.tail<|.head) Z Z Fx.size29 Z (nb Z) Z<|?_
    refine At.pm [1,0,2,3,4,5,6,7] [_,_,_,_,_,_,_,_] rfl rfl ?_
    refine Sx.freezeSeq (ds := (f.links ++ [(⟨[97],[97],x.n⟩ : Lk)]).map dLk) (by simp <;> omega) (by rw [List.map_append];exact hz107.snoc (lk_shut (x := ⟨[97],[97],x.n⟩) (show [(97 : UInt8)].length ≤ 1000000 by decide) (show [(97 : UInt8)].length ≤ 1000000 by decide)) rfl) fun H2 p2 c2 u2 e2 h2 => ?_
    obtain ⟨rfl,rfl⟩ := sl_inj e2
    exact .nl<|.bN<|.tN<|.me (H2,⟨f.nm,f.flags,f.links ++ [⟨[97],[97],x.n⟩],f.comps⟩,_,⟨nm0,vs0,vr0⟩,_,_,_,_) trivial ⟨rfl,rfl,rfl,rfl,rfl,trivial⟩ (fun _ s => s.pick [1,2,3,6,5,4] [_,_,_,_,_,_] Z Z) ⟨u2,ft_shut (x := ⟨f.nm,f.flags,f.links ++ [⟨[97],[97],x.n⟩],f.comps⟩) n00 (k1.up u2.up) h2 (k3.up u2.up),⟨(hok.mono (M := N + 100) (by omega)).flags,by show (f.links ++ [_]).length ≤ _;have := hok.links;rw [List.length_append,List.length_singleton];omega,(hok.mono (M := N + 100) (by omega)).comps,hok.pos,(hok.mono (M := N + 100) (by omega)).all⟩,Nat.le_refl _,n0,RepZ.up u2.up hz37,RepZ.up u2.up hz41,ok0.mono (by omega)⟩
   refine .bl Z (Fx.bsl29_1 _ _ _) Z fun b111 => .h1<|.blR Z Fx.bsl29_0 Z (z := 3) Z (by decide) fun g104 => .h1<|.apD0 Fx.row29 Z (fun _ _ => .head) Z k2 (by simp [maxLen];omega) (by omega) Z (fun _ _ => (.yv (.build Z (Fx.bld86_0_1_2 _ _ _))<|.yv (.load Z Fx.agg2 (.tail _<|.tail _<|.tail _<|.tail _<|.tail _<|.tail _<|.head _) Z)<|.yv (.fieldAddr Z Fx.field55_3)<|.done (by kernel_rfl)<|.done (by kernel_rfl)<|.nl)) fun xs107 p107 c107 hz107 => .fn (tl := [_,_,_]) Z<|.ap (news := [strV [97],strV [97],.int .i64 x.n.toInt]) Fx.row29 Z (fun _ => .head) Z (.box (.tail _<|.head _) z0) Z (by simp [Value.oneCell',strV]) (by simp [maxLen];omega) (by omega) Z fun r112 _ => ?_
   refine At.ra (.head _) fun p112 c112 e112 => ?_
   subst e112
   refine .yv (.fieldAddr Z Fx.field32_2) Z<|.st (.tail<|.tail<|.tail<|.tail<|.tail<|.tail<|.tail<|.head) Z Z Fx.size29 Z (nb Z) Z<|?_
   refine Sx.freezeSeq (ds := (f.links ++ [(⟨[97],[97],x.n⟩ : Lk)]).map dLk) (by simp <;> omega) (by rw [List.map_append];exact hz107.snoc (lk_shut (x := ⟨[97],[97],x.n⟩) (show [(97 : UInt8)].length ≤ 1000000 by decide) (show [(97 : UInt8)].length ≤ 1000000 by decide)) rfl) fun H2 p2 c2 u2 e2 h2 => ?_
   obtain ⟨rfl,rfl⟩ := sl_inj e2
   exact .nl<|.bN<|.tN<|.me (H2,⟨f.nm,f.flags,f.links ++ [⟨[97],[97],x.n⟩],f.comps⟩,_,⟨nm0,vs0,vr0⟩,_,_,_,_) trivial ⟨rfl,rfl,rfl,rfl,rfl,trivial⟩ (fun _ s => s.pick [1,2,3,6,5,4] [_,_,_,_,_,_] Z Z) ⟨u2,ft_shut (x := ⟨f.nm,f.flags,f.links ++ [⟨[97],[97],x.n⟩],f.comps⟩) n00 (k1.up u2.up) h2 (k3.up u2.up),⟨(hok.mono (M := N + 100) (by omega)).flags,by show (f.links ++ [_]).length ≤ _;have := hok.links;rw [List.length_append,List.length_singleton];omega,(hok.mono (M := N + 100) (by omega)).comps,hok.pos,(hok.mono (M := N + 100) (by omega)).all⟩,Nat.le_refl _,n0,RepZ.up u2.up hz37,RepZ.up u2.up hz41,ok0.mono (by omega)⟩
  skip
  refine .sr<|.yv (.eql Z Z) Z<|.a Z Z<|.nt<|.cd Z (fun h114 => ?_) (fun h114 => ?_)
  ·skip
   exact .rg<|.m Z Z<|.yv (.fieldAddr Z Fx.field91_0) Z<|.st (.tail<|.tail<|.head) Z Z Fx.size9 Z (nb Z) Z<|.nl<|.bN<|.tN<|.me (H,f,_,⟨wordR x.nm,vs0,vr0⟩,_,_,_,_) trivial ⟨rfl,rfl,rfl,rfl,rfl,trivial⟩ (fun _ s => s.pick [0,1,2,5,4,3] [_,_,_,_,_,_] Z Z) ⟨.refl,h,hok.mono (by omega),Nat.le_refl _,(Nat.le_trans (word_len _) (by decide)),hz37,hz41,⟨(ok0.mono (M := N + 100) (by omega)).vars,(ok0.mono (M := N + 100) (by omega)).vers,(ok0.mono (M := N + 100) (by omega)).all⟩⟩
  skip
  refine .sr<|.yv (.eql Z Z) Z<|.a Z Z<|.nt<|.cd Z (fun h118 => ?_) (fun h118 => ?_)
  ·skip
   refine .sr<|.a Z Z<|.nt<|.bk<|.pm [0,2,1,3,4,5] [_,_,_,_,_,_] Z Z<|.lp (X := Nat × Value × List Value) [(2,_),(3,_),(4,_),(5,_),(6,_),(7,_),(8,_)] ⟨rfl,rfl,rfl,rfl,rfl,rfl,rfl,trivial⟩ [_,_,_,_] (fun z => [(12,.int .i64 (z.1 : Nat))]) (fun z => H) (fun z => [.row 93 3 z.2.1 (vs0.length + z.1) z.2.2,.box b8 [strV nm0,z.2.1,.slice p41 vr0.length c41] 91]) (fun z => z.1 ≤ m ∧ RepZ H 3 ((vs0 ++ List.replicate z.1 (wvar x.nm)).map (dVr .i64)) z.2.2) (fun z => m - z.1) (0,_,_) (fun _ s => s) ⟨rfl,trivial⟩ ⟨by simp,by simpa using hz37⟩ fun z hC => ?_
   obtain ⟨j,rv,ys⟩ := z
   dsimp only at hC ⊢
   obtain ⟨hj0,hzv⟩ := hC
   refine .sq<|.sr<|.m Z Z<|.m Z Z<|.yv (.lss Z Z) Z<|.nt<|.cd Z (fun h122 => ?_) (fun h122 => ?_)
   ·try simp only [dt] at h122
    have hj : j < m := by omega
    refine .sk<|.tN<|.sq<|.bk<|.rg<|.yv (.fieldAddr Z Fx.field91_1) Z<|.yv (.load Z Fx.agg88 (.tail _<|.head _) Z) Z<|.m Z Z<|.yv (.build Z (Fx.bld93_0_1 _ _)) Z<|.bl Z (Fx.bsl88_1 _ _ _) Z fun b129 => .ap (news := [strV (wordR x.nm),.int .i64 1,.int .i64 0]) Fx.row88 Z (fun _ => (.tail<|.head)) Z (.box (.head _) z0) Z (by simp [Value.oneCell',strV]) (by simp [maxLen];omega) (by omega) Z fun r130 _ => ?_
    refine At.ra (.tail _<|.head _) fun p130 c130 e130 => ?_
    exact .yv (.fieldAddr Z Fx.field91_1) Z<|.st (.tail<|.tail<|.head) Z Z Fx.size88 (by rw [e130];rfl) (nb Z) Z<|.nl<|.bN<|.tN<|.rg<|.m Z Z<|.yv (.add Z Z (w6 (by omega))) Z<|.a Z Z<|.nt<|.ag (x := (j,rv,ys)) (j + 1,r130,ys ++ [strV (wordR x.nm),.int .i64 1,.int .i64 0]) ⟨rfl,trivial⟩ ⟨rfl,rfl,rfl,rfl,rfl,rfl,rfl,trivial⟩ (fun _ s => (s.pick [1,2,3,4,5,6] _ Z Z)) ⟨by dsimp only;omega,by dsimp only;rw [List.replicate_succ',← List.append_assoc,List.map_append];exact hzv.snoc (vr_shut (x := wvar x.nm) (Nat.le_trans (word_len _) (by decide))) Z⟩ (by dsimp only;omega)
   try simp only [df] at h122
   obtain rfl : m = j := by omega
   exact .ex<|.tE<|.tE<|.bE<|.bN<|.tN<|.me (H,f,_,⟨nm0,vs0 ++ List.replicate m (wvar x.nm),vr0⟩,_,_,_,_) trivial ⟨rfl,rfl,rfl,rfl,rfl,trivial⟩ (fun _ s => by rw [show (vs0 ++ List.replicate m (wvar x.nm)).length = vs0.length + m by simp];exact (s.pick [0,2,1,5,4,3] _ Z Z)) ⟨.refl,h,hok.mono (by omega),Nat.le_refl _,n0,hzv,hz41,⟨by show (vs0 ++ _).length ≤ _;have : vs0.length ≤ N := ok0.vars;simp;omega,(ok0.mono (M := N + 100) (by omega)).vers,(ok0.mono (M := N + 100) (by omega)).all⟩⟩
  skip
  refine .sr<|.yv (.eql Z Z) Z<|.a Z Z<|.nt<|.cd Z (fun h132 => ?_) (fun h132 => ?_)
  ·skip
   refine .rg<|.yv (.fieldAddr Z Fx.field91_1) Z<|.yv (.load Z Fx.agg88 (.tail _<|.tail _<|.head _) Z) Z<|.yv (.fieldAddr Z Fx.field55_2) Z<|.yv (.load Z Fx.agg5 (.tail _<|.tail _<|.tail _<|.tail _<|.head _) Z) Z<|.yv (.rem Z Z (by decide) (c := ((x.nm.toNat % 5 : Nat) : Int)) (by rw [Int.tmod_eq_emod_of_nonneg (by omega)];omega)) Z<|.yv (.conv Z Fx.int5 Fx.int3 (c := ((x.nm.toNat % 5 : Nat) : Int)) (w6 (by omega))) Z<|.yv (.fieldAddr Z Fx.field55_3) Z<|.yv (.load Z Fx.agg2 (.tail _<|.tail _<|.tail _<|.tail _<|.head _) Z) Z<|.yv (.build Z (Fx.bld93_0_1_2 _ _ _)) Z<|.bl Z (Fx.bsl88_1 _ _ _) Z fun b143 => .ap (news := [strV [121],.int .i64 (x.nm.toNat % 5 : Nat),.int .i64 x.n.toInt]) Fx.row88 Z (fun _ => (.tail<|.head)) Z (.box (.head _) z0) Z (by simp [Value.oneCell',strV]) (by simp [maxLen];omega) (by omega) Z fun r144 _ => ?_
   refine At.ra (.tail _<|.head _) fun p144 c144 e144 => ?_
   subst e144
   exact .yv (.fieldAddr Z Fx.field91_1) Z<|.st (.tail<|.tail<|.tail<|.head) Z Z Fx.size88 Z (nb Z) Z<|.nl<|.bN<|.tN<|.me (H,f,_,⟨nm0,vs0 ++ [⟨[121],UInt8.ofNat (x.nm.toNat % 5),x.n⟩],vr0⟩,_,_,_,_) trivial ⟨rfl,rfl,rfl,rfl,rfl,trivial⟩ (fun _ s => by rw [show (vs0 ++ [⟨[121],UInt8.ofNat (x.nm.toNat % 5),x.n⟩] : List Vr).length = vs0.length + 1 by simp];exact (s.pick [1,2,3,6,5,4] _ Z Z)) ⟨.refl,h,hok.mono (by omega),Nat.le_refl _,n0,(by rw [List.map_append];exact hz37.snoc (yvar_shut _ _) Z),hz41,⟨by show (vs0 ++ [_]).length ≤ _;have : vs0.length ≤ N := ok0.vars;simp;omega,(ok0.mono (M := N + 100) (by omega)).vers,(ok0.mono (M := N + 100) (by omega)).all⟩⟩
  skip
  refine .sr<|.yv (.eql Z Z) Z<|.a Z Z<|.nt<|.cd Z (fun h146 => ?_) (fun h146 => ?_)
  ·skip
   refine .rg<|.yv (.fieldAddr Z Fx.field91_2) Z<|.st (.tail<|.tail<|.head) Z Z Fx.size89 Z (nb Z) Z<|?_
   refine Sx.row0 97 1 ?_
   exact .nl<|.bN<|.tN<|.me (H,f,_,⟨nm0,vs0,[]⟩,_,_,_,_) trivial ⟨rfl,rfl,rfl,rfl,rfl,trivial⟩ (fun _ s => s.pick [1,0,3,6,5,4] [_,_,_,_,_,_] Z Z) ⟨.refl,h,hok.mono (by omega),Nat.le_refl _,n0,hz37,.nil,⟨(ok0.mono (M := N + 100) (by omega)).vars,by simp,fun _ h => by cases h⟩⟩
  skip
  refine .sr<|.yv (.eql Z Z) Z<|.a Z Z<|.nt<|.cd Z (fun h149 => ?_) (fun h149 => ?_)
  ·skip
   refine .sr<|.a Z Z<|.nt<|.bk<|.pm [1,2,0,3,4,5] [_,_,_,_,_,_] Z Z<|.lp (X := Nat × Value × List Value) [(2,_),(3,_),(4,_),(5,_),(7,_),(8,_)] ⟨rfl,rfl,rfl,rfl,rfl,rfl,trivial⟩ [_,_,_,_] (fun z => [(13,.int .i64 (z.1 : Nat))]) (fun z => H) (fun z => [.row 97 1 z.2.1 (vr0.length + z.1) z.2.2,.box b8 [strV nm0,.slice p37 vs0.length c37,z.2.1] 91]) (fun z => z.1 ≤ m ∧ RepZ H 1 ((vr0 ++ List.replicate z.1 []).map (dVs .i64)) z.2.2) (fun z => m - z.1) (0,_,_) (fun _ s => s) ⟨rfl,trivial⟩ ⟨by simp,by simpa using hz41⟩ fun z hC => ?_
   obtain ⟨j,rv,ys⟩ := z
   dsimp only at hC ⊢
   obtain ⟨hj0,hzv⟩ := hC
   refine .sq<|.sr<|.m Z Z<|.m Z Z<|.yv (.lss Z Z) Z<|.nt<|.cd Z (fun h153 => ?_) (fun h153 => ?_)
   ·try simp only [dt] at h153
    have hj : j < m := by omega
    refine .sk<|.tN<|.sq<|.bk<|.rg<|.yv (.fieldAddr Z Fx.field91_2) Z<|.yv (.load Z Fx.agg89 (.tail _<|.head _) Z) Z<|.bl Z (Fx.bsl89_1 _ _ _) Z fun b158 => .ap (news := [.slice none 0 0]) Fx.row89 Z (fun _ => (.tail<|.head)) Z (.box (.head _) z0) Z (by simp [Value.oneCell',strV]) (by simp [maxLen];omega) (by omega) Z fun r159 _ => ?_
    refine At.ra (.tail _<|.head _) fun p159 c159 e159 => ?_
    exact .yv (.fieldAddr Z Fx.field91_2) Z<|.st (.tail<|.tail<|.head) Z Z Fx.size89 (by rw [e159];rfl) (nb Z) Z<|.nl<|.bN<|.tN<|.rg<|.m Z Z<|.yv (.add Z Z (w6 (by omega))) Z<|.a Z Z<|.nt<|.ag (x := (j,rv,ys)) (j + 1,r159,ys ++ [.slice none 0 0]) ⟨rfl,trivial⟩ ⟨rfl,rfl,rfl,rfl,rfl,rfl,trivial⟩ (fun _ s => (s.pick [1,2,3,4,5,6] _ Z Z)) ⟨by dsimp only;omega,by dsimp only;rw [List.replicate_succ',← List.append_assoc,List.map_append];exact hzv.snoc (Rep.empty (by decide)) Z⟩ (by dsimp only;omega)
   try simp only [df] at h153
   obtain rfl : m = j := by omega
   exact .ex<|.tE<|.tE<|.bE<|.bN<|.tN<|.me (H,f,_,⟨nm0,vs0,vr0 ++ List.replicate m []⟩,_,_,_,_) trivial ⟨rfl,rfl,rfl,rfl,rfl,trivial⟩ (fun _ s => by rw [show (vr0 ++ List.replicate m ([] : List Hd)).length = vr0.length + m by simp];exact (s.pick [2,0,1,5,4,3] _ Z Z)) ⟨.refl,h,hok.mono (by omega),Nat.le_refl _,n0,hz37,hzv,⟨(ok0.mono (M := N + 100) (by omega)).vars,by show (vr0 ++ _).length ≤ _;have : vr0.length ≤ N := ok0.vers;simp;omega,fun v hv => (List.mem_append.1 hv).elim ((ok0.mono (M := N + 100) (by omega)).all v) (fun hv => by rw [List.eq_of_mem_replicate hv];exact .nil)⟩⟩
  skip
  exact .sk<|.bN<|.tN<|.me (H,f,_,⟨nm0,vs0,vr0⟩,_,_,_,_) trivial ⟨rfl,rfl,rfl,rfl,rfl,trivial⟩ (fun _ s => s.pick [0,1,2,5,4,3] [_,_,_,_,_,_] Z Z) ⟨.refl,h,hok.mono (by omega),Nat.le_refl _,n0,hz37,hz41,ok0.mono (by omega)⟩
 obtain ⟨H1,f1,cs1,c1,rv,xv,rs,xs⟩ := z
 dsimp only at hC ⊢
 obtain ⟨u1,hf1,okf,hle,nc,hzv,hzs,okc⟩ := hC
 obtain ⟨p11,c11,p12,c12,p13,c13,rfl,nf1,kf1,kf2,kf3⟩ := ft_open hf1
 have hi1 : i < f1.comps.length := by omega
 refine At.ra (.head _) fun p177 c177 e177 => ?_
 subst e177
 refine At.ra (.tail _ (.head _)) fun p178 c178 e178 => ?_
 subst e178
 have hvl1 : c1.vers.length ≤ N + 100 := okc.vers
 have hcl1 := okf.comps
 refine .cu (X := Hp × Cp × List Value) [(2,_),(3,_),(4,_),(7,_),(8,_)] ⟨rfl,rfl,rfl,rfl,rfl,trivial⟩ (fun z => []) (fun z => z.1) (fun z => [.box b8 z.2.2 91,.box b2 [strV f1.nm,.slice p11 f1.flags.length c11,.slice p12 f1.links.length c12,.slice p13 f1.comps.length c13] 32,.box b3 [.int .u8 x.wh.toNat,.int .u8 x.i.toNat,.int .u8 x.nm.toNat,.int .i64 x.n.toInt,.slice pN x.nodes.length cN] 55,.box b4 [.string ⟨#[]⟩,.slice none 0 0,.slice none 0 0,.slice none 0 0] 32]) (fun z => HUp w H1 z.1 ∧ Rep z.1 (dCp .i64 z.2.1) z.2.2 ∧ okCp (2 * (N + 100) + 100) z.2.1) ?_ fun z hC => ?_
 ·
  refine .sr<|.yv (.fieldAddr Z Fx.field55_0) Z<|.yv (.load Z Fx.agg5 (.tail _<|.tail _<|.tail _<|.tail _<|.head _) Z) Z<|.yv (.rem Z Z (by decide) (c := ((x.wh.toNat % 26 : Nat) : Int)) (by rw [Int.tmod_eq_emod_of_nonneg (by omega)];omega)) Z<|.yv (.gtr Z Z) Z<|.m Z Z<|.b2 (fun h165 => ?_) (fun h165 => ?_)
  ·skip
   refine .gd Z Z<|.yv (.fieldAddr Z Fx.field91_2) Z<|.gd Z Z<|.yv (.load Z Fx.agg89 (.tail _<|.tail _<|.head _) Z) Z<|.gd Z Z<|.yv (.lenSl Fx.sl89 Z) Z<|.gd Z Z<|.yv (.gtr Z Z) Z<|.yv (.pickT Z Z) Z<|.m Z Z<|.b2 (fun h171 => ?_) (fun h171 => ?_)
   ·try simp only [dt] at h171
    have hv0 : 0 < c1.vers.length := by omega
    refine At.rs (.tail _ (.head _)) hv0 fun gS cS eS => ?_
    obtain ⟨rfl,rfl⟩ := sl_inj eS
    obtain ⟨cV,rV,lV,mV⟩ := hzs.at (i := 0) (map_at (f := dVs .i64) hv0)
    have okv := okc.all _ (List.getElem_mem hv0)
    generalize hl0 : c1.vers[0] = l0 at rV okv
    obtain ⟨pz,cz,rfl,rz⟩ := vs_open rV
    have hmz : xs[0]? = some (.slice pz l0.length cz) := mV 0 _ rfl
    refine .gd Z Z<|.yv (.fieldAddr Z Fx.field91_2) Z<|.gd Z Z<|.yv (.load Z Fx.agg89 (.tail _<|.tail _<|.head _) Z) Z<|.gd Z Z<|.yv (.indexSl Fx.sl89 Z Z (i := 0) Z hv0 (q := 0) Z) Z<|.gd Z Z<|.yv (.loadSrc Z Fx.agg97 (.row (.tail _<|.head _) (one_at hmz))) Z<|.gd Z Z<|.yv (.lenSl Fx.sl97 Z) Z<|.gd Z Z<|.yv (.gtr Z Z) Z<|.yv (.pickT Z Z) Z<|.nt<|.cd Z (fun h178 => ?_) (fun h178 => ?_)
    ·try simp only [dt] at h178
     have hl0p : 0 < l0.length := by omega
     refine At.pm [1,0,2,3,4,5] [_,_,_,_,_,_] rfl rfl ?_
     refine At.rc hv0 fun moreS hcS1 hcS2 => ?_
     refine .fl (trip := [(_,_,_),(_,_,_),(_,_,_),(_,_,_),(_,_,_),(_,_,_),(_,_,_),(_,_,_)]) 8 [(0,0),(1,0),(2,0),(3,0),(4,0),(5,0),(6,0),(7,1)] (by kernel_rfl) (by kernel_rfl) Z<|.yv (.fieldAddr Z Fx.field91_2) Z<|.yv (.load Z Fx.agg89 (.tail _<|.tail _<|.head _) Z) Z<|.yv (.fieldAddr Z Fx.field91_2) Z<|.yv (.load Z Fx.agg89 (.tail _<|.tail _<|.head _) Z) Z<|.yv (.indexSl Fx.sl89 Z Z (i := 0) Z hv0 (q := 0) Z) Z<|.yv (.load (v := .slice pz l0.length cz) Z Fx.agg97 (.head _) (get_app hmz)) Z<|.yv (.loadW Z Fx.agg55 (.tail _<|.tail _<|.tail _<|.tail _<|.head _) Z) Z<|.ct (X := Value) Fx.call54 Z (fun W s => handlersOf_any H1 l0 x _ _ (N + 100) (by omega) W rz (hX.up u1.up) hl0p okv s.agr) Z fun v186 H186 hc186 u186 => ?_
     obtain ⟨l2,hl2,okl2⟩ := hc186
     obtain ⟨pl2,cl2,el2,_⟩ := hl2.sl
     simp only [List.cons.injEq,and_true,List.length_map] at el2
     subst el2
     refine .fn (tl := [_,_]) Z<|.yv (.indexSl Fx.sl89 Z Z (i := 0) Z hv0 (q := 0) Z) Z<|.st (l' := ((xs ++ moreS).set 0 (.slice pl2 l2.length cl2))) .head Z Z Fx.size97 Z (by rw [List.length_append,hzs.len,List.length_map];omega) Z<|?_
     refine Sx.freezeBox fun HS uS mS0 => ?_
     have mS1 : MemAt HS gS 0 (setsL xs (0 * 1) [.slice pl2 l2.length cl2] ++ moreS) := by rw [← setsL_app [.slice pl2 l2.length cl2] xs moreS (0 * 1) (by rw [hzs.len,List.length_map];simp;omega)];exact mS0
     have hSx0 : Rep HS (.seq 1 ((c1.vers.set 0 l2).map (dVs .i64))) [.slice (some ⟨gS,0,none⟩) c1.vers.length c178] := Rep.mk mS1.pre (by rw [List.map_set];exact RepZ.put (i := 0) (hl2.up uS.up) rfl (hzs.up (u186.trans uS).up) (by simpa using hv0)) (by simp) hcS1 hcS2
     refine Sx.freezeSeq (ds := c1.vars.map (dVr .i64)) (by simp) (hzv.up (u186.trans uS).up) fun HV pV cV uV eV hV => ?_
     obtain ⟨rfl,rfl⟩ := sl_inj eV
     have uu := u186.trans (uS.trans uV)
     have hSx := hSx0.up uV.up
     exact .nt<|.me (HV,⟨c1.nm,c1.vars,c1.vers.set 0 l2⟩,_) trivial ⟨rfl,rfl,rfl,rfl,rfl,trivial⟩ (fun _ s => s) ⟨uu,cp_shut (x := ⟨c1.nm,c1.vars,c1.vers.set 0 l2⟩) nc hV hSx,okC_set okc okl2⟩
    skip
    refine .sk<|.tN<|?_
    refine At.pm [1,0,2,3,4,5] [_,_,_,_,_,_] rfl rfl ?_
    refine Sx.freezeSeq (ds := c1.vers.map (dVs .i64)) (by simp) hzs fun HS pS cS uS eS hS0 => ?_
    obtain ⟨rfl,rfl⟩ := sl_inj eS
    refine Sx.freezeSeq (ds := c1.vars.map (dVr .i64)) (by simp) (hzv.up uS.up) fun HV pV cV uV eV hV => ?_
    obtain ⟨rfl,rfl⟩ := sl_inj eV
    have uu := uS.trans uV
    have hS := hS0.up uV.up
    exact .me (HV,c1,_) trivial ⟨rfl,rfl,rfl,rfl,rfl,trivial⟩ (fun _ s => s) ⟨uu,cp_shut nc hV hS,okc.mono (by omega)⟩
   skip
   refine .gF Z Z Z Z<|.gF Z Z Z Z<|.gF Z Z Z Z<|.gF Z Z Z Z<|.gF Z Z Z Z<|.gF Z Z Z Z<|.yv (.pickF Z Z) Z<|.nt<|.cF Z<|.sk<|.tN<|?_
   refine At.pm [1,0,2,3,4,5] [_,_,_,_,_,_] rfl rfl ?_
   refine Sx.freezeSeq (ds := c1.vers.map (dVs .i64)) (by simp) hzs fun HS pS cS uS eS hS0 => ?_
   obtain ⟨rfl,rfl⟩ := sl_inj eS
   refine Sx.freezeSeq (ds := c1.vars.map (dVr .i64)) (by simp) (hzv.up uS.up) fun HV pV cV uV eV hV => ?_
   obtain ⟨rfl,rfl⟩ := sl_inj eV
   have uu := uS.trans uV
   have hS := hS0.up uV.up
   exact .me (HV,c1,_) trivial ⟨rfl,rfl,rfl,rfl,rfl,trivial⟩ (fun _ s => s) ⟨uu,cp_shut nc hV hS,okc.mono (by omega)⟩
  skip
  refine .gF Z Z Z Z<|.gF Z Z Z Z<|.gF Z Z Z Z<|.gF Z Z Z Z<|.yv (.pickF Z Z) Z<|.m Z Z<|.gF Z Z Z Z<|.gF Z Z Z Z<|.gF Z Z Z Z<|.gF Z Z Z Z<|.gF Z Z Z Z<|.gF Z Z Z Z<|.yv (.pickF Z Z) Z<|.nt<|.cF Z<|.sk<|.tN<|?_
  refine At.pm [1,0,2,3,4,5] [_,_,_,_,_,_] rfl rfl ?_
  refine Sx.freezeSeq (ds := c1.vers.map (dVs .i64)) (by simp) hzs fun HS pS cS uS eS hS0 => ?_
  obtain ⟨rfl,rfl⟩ := sl_inj eS
  refine Sx.freezeSeq (ds := c1.vars.map (dVr .i64)) (by simp) (hzv.up uS.up) fun HV pV cV uV eV hV => ?_
  obtain ⟨rfl,rfl⟩ := sl_inj eV
  have uu := uS.trans uV
  have hS := hS0.up uV.up
  exact .me (HV,c1,_) trivial ⟨rfl,rfl,rfl,rfl,rfl,trivial⟩ (fun _ s => s) ⟨uu,cp_shut nc hV hS,okc.mono (by omega)⟩
 obtain ⟨H2,c2,cs2⟩ := z
 dsimp only at hC ⊢
 obtain ⟨u2,hc2,okc2⟩ := hC
 refine .sq<|.sr<|.yv (.fieldAddr Z Fx.field55_0) Z<|.yv (.load Z Fx.agg5 (.tail _<|.tail _<|.head _) Z) Z<|.yv (.rem Z Z (by decide) (c := ((x.wh.toNat % 26 : Nat) : Int)) (by rw [Int.tmod_eq_emod_of_nonneg (by omega)];omega)) Z<|.yv (.gtr Z Z) Z<|.nt<|.cd Z (fun h191 => ?_) (fun h191 => ?_)
 ·skip
  refine .sr<|.blR Z Fx.bsl30_0 Z (z := 3) Z (by decide) fun g192 => .yv (.fieldAddr Z Fx.field32_3) Z<|.yv (.load Z Fx.agg30 (.tail _<|.tail _<|.head _) Z) Z<|.apD0 Fx.row30 Z (fun _ _ => .head) Z (kf3.up u2.up) (by simp [maxLen];omega) (by omega) Z fun xs195 r195 hz195 => ?_
  refine At.ra (.head _) fun p195 c195 e195 => ?_
  refine .yv (.fieldAddr Z Fx.field32_3) Z<|.st (.tail<|.tail<|.head) Z Z Fx.size30 (by rw [e195];rfl) (nb Z) Z<|?_
  refine At.rb (by omega) fun gB capB moreB eB hcB1 hcB2 => ?_
  subst eB
  refine .nt<|.rg<|.yv (.fieldAddr Z Fx.field32_3) Z<|.yv (.load Z Fx.agg30 (.tail _<|.tail _<|.head _) Z) Z<|.m Z Z<|.yv (.loadW Z Fx.agg91 (.tail _<|.head _) (cp_len hc2)) Z<|.yv (.indexSl Fx.sl30 Z Z (i := i) Z (by omega) (q := i * 3) (by omega)) Z<|.sE (vs := cs2) .head Z Z (by rw [cp_len hc2];exact Fx.size91) hc2.one (by rw [cp_len hc2,List.length_append,hz195.len,List.length_map];omega)<|?_
  refine Sx.freezeBox fun HB uB mB0 => ?_
  rw [setsL_app _ _ _ _ (by rw [cp_len hc2,hz195.len,List.length_map];omega)] at mB0
  have hB : Rep HB (.seq 3 ((f1.comps.set i c2).map (dCp .i64))) [.slice (some ⟨gB,0,none⟩) f1.comps.length capB] := Rep.mk mB0.pre (by rw [List.map_set];exact RepZ.put (hc2.up uB.up) (cp_len hc2) (hz195.up uB.up) (by simpa using hi1)) (by simp) hcB1 hcB2
  refine .ns<|.yv (.loadW Z Fx.agg32 (.tail _<|.head _) Z) Z<|.sW (.tail<|.tail<|.tail<|.head) Z Z Fx.size32 (by show ∀ u ∈ [_,_,_,_],Value.oneCell' u = true;simp [Value.oneCell',strV]) Z<|.nt<|.rt<|?_
  exact Sx.ret1 (.inl rfl) rfl (.cell rfl Fx.agg32 (.tail _<|.tail _<|.tail _<|.head _) rfl) fun W t => ⟨_,HB,⟨⟨f1.nm,f1.flags,f1.links,f1.comps.set i c2⟩,ft_shut (x := ⟨f1.nm,f1.flags,f1.links,f1.comps.set i c2⟩) nf1 (kf1.up (u2.trans uB).up) (kf2.up (u2.trans uB).up) hB,okF_set okf okc2⟩,rfl,(u1.trans (u2.trans uB)).grow t⟩
 skip
 refine .sk<|.tN<|.sr<|.yv (.loadW Z Fx.agg32 (.tail _<|.head _) Z) Z<|.sW (.tail<|.tail<|.tail<|.head) Z Z Fx.size32 (by show ∀ u ∈ [_,_,_,_],Value.oneCell' u = true;simp [Value.oneCell',strV]) Z<|.nt<|.rt<|?_
 exact Sx.ret1 (.inl rfl) rfl (.cell rfl Fx.agg32 (.tail _<|.tail _<|.tail _<|.head _) rfl) fun W t => ⟨_,H2,⟨f1,hf1.up u2.up,okf.mono (by omega)⟩,rfl,(u1.trans u2).grow t⟩
end Go.Proofs.YtmbiojpcidccjaaGreatDoor
namespace Go.Proofs.YtmbiojpcidccjaaGreatDoor
def okD (D : Nat) (e : Ex) : Prop := e.depth ≤ D ∧ Ex.all narrow e = true
theorem okD.mono {D D' : Nat} {e : Ex} (h : okD D e) (k : D ≤ D') : okD D' e := ⟨Nat.le_trans h.1 k,h.2⟩
theorem okD0 {D : Nat} {op : UInt8} {nm : Str} {n : Int64} : okD (D + 1) (.mk op nm n []) := ⟨by rw [depth_mk];simp [Ex.deeps],by rw [all_mk,narrow_mk];rfl⟩
theorem okD1 {D : Nat} {op : UInt8} {nm : Str} {n : Int64} {a : Ex} (h : okD D a) : okD (D + 1) (.mk op nm n [a]) := by
 refine ⟨?_,?_⟩
 ·rw [depth_mk];simp only [Ex.deeps];have := h.1;omega
 ·rw [all_mk,narrow_mk];simp [Ex.alls,h.2]
theorem okD2 {D : Nat} {op : UInt8} {nm : Str} {n : Int64} {a b : Ex} (h : okD D a) (k : okD D b) : okD (D + 1) (.mk op nm n [a,b]) := by
 refine ⟨?_,?_⟩
 ·rw [depth_mk];simp only [Ex.deeps];have := h.1;have := k.1;omega
 ·rw [all_mk,narrow_mk];simp [Ex.alls,h.2,k.2]
theorem numT_ok {M : Mk} {d D k : Nat} {rec : Bs → Ex × Bs} (h : ∀ b,okD D (rec b).1) (b : Bs) : okD (D + 1) (numT M d rec k b).1 := by
 unfold numT
 split
 ·exact okD0
 split
 ·exact okD0
 split
 ·exact okD0
 split
 ·exact okD0
 split
 ·exact okD1 (h _)
 split
 ·exact okD0
 split
 ·exact okD1 (h _)
 ·exact okD2 (h _) (h _)
theorem numE_ok (M : Mk) : ∀ f b,okD (f + 2) (numE M f b).1
 | 0,b => numT_ok (fun _ => okD0) _
 | f + 1,b => numT_ok (numE_ok M f) _
theorem numL_ok (M : Mk) : ∀ n b,(numL M n b).1.length = n ∧ ∀ e ∈ (numL M n b).1,okD 4 e
 | 0,b => ⟨rfl,fun _ h => by cases h⟩
 | n + 1,b => by
  obtain ⟨h1,h2⟩ := numL_ok M n (numE M 2 b).2
  refine ⟨by simp [numL,h1],fun e he => ?_⟩
  rcases List.mem_cons.1 he with rfl | he
  ·exact numE_ok M 2 b
  ·exact h2 e he
theorem truT_ok {M : Mk} {d D k : Nat} {rec : Bs → Ex × Bs} (hD : 4 ≤ D) (h : ∀ b,okD D (rec b).1) (b : Bs) : okD (D + 1) (truT M d rec k b).1 := by
 have hn : ∀ b,okD D (numE M 2 b).1 := fun b => (numE_ok M 2 b).mono hD
 unfold truT
 split
 ·exact okD0
 split
 ·exact okD0
 split
 ·exact okD0
 split
 ·exact okD1 (hn _)
 split
 ·exact okD1 (h _)
 split
 ·exact okD2 (h _) (h _)
 ·exact okD2 (hn _) (hn _)
theorem truE_ok (M : Mk) : ∀ f b,okD (f + 6) (truE M f b).1
 | 0,b => truT_ok (D := 5) (by omega) (fun _ => okD0 (D := 4)) _
 | f + 1,b => truT_ok (by omega) (truE_ok M f) _
mutual
theorem sdepth_le : ∀ s : Sm,Sm.depth s ≤ Sm.count s
 | .mk kd nm hd ex th el => by
  rw [sdepth_mk,scount_mk]
  have := sdeeps_le th
  have := sdeeps_le el
  omega
theorem sdeeps_le : ∀ l : List Sm,Sm.deeps l ≤ Sm.counts l
 | [] => by simp [Sm.deeps]
 | s :: r => by
  simp only [Sm.deeps,Sm.counts]
  have := sdepth_le s
  have := sdeeps_le r
  omega
end
structure Made (lf : Nat) (l : List Sm) (lf' : Nat) : Prop where
 cnt : Sm.counts l + lf' ≤ lf
 all : Sm.alls (okS2 10) l = true
theorem made_one {lf lf' : Nat} {kd : UInt8} {nm hd : Str} {ex : List Ex} {th el : List Sm} (h1 : Sm.counts th + Sm.counts el + lf' ≤ lf) (h2 : ex.length ≤ 10) (h3 : ∀ e ∈ ex,okD 40 e) (h4 : Sm.alls (okS2 10) th = true) (h5 : Sm.alls (okS2 10) el = true) :
 Made (lf + 1) [.mk kd nm hd ex th el] lf' := by
 refine ⟨by simp only [Sm.counts,scount_mk];omega,?_⟩
 simp only [Sm.alls,sall_mk,okS2,Bool.and_eq_true,decide_eq_true_eq,List.all_eq_true]
 refine ⟨⟨⟨⟨h2,fun e he => ?_⟩,h4⟩,h5⟩,trivial⟩
 simp only [okE,Bool.and_eq_true,decide_eq_true_eq]
 have := h3 e he
 exact ⟨by have := this.1;omega,this.2⟩
theorem leaf_one {e : Ex} (h : okD 40 e) : ∀ x ∈ [e],okD 40 x := fun x hx => by rw [List.mem_singleton.1 hx];exact h
theorem leaf_two {e e2 : Ex} (h : okD 40 e) (k : okD 40 e2) : ∀ x ∈ [e,e2],okD 40 x := fun x hx => by
 rcases List.mem_cons.1 hx with rfl | hx
 ·exact h
 ·rw [List.mem_singleton.1 hx];exact k
theorem leaf_num {M : Mk} {n : Nat} {b : Bs} : ∀ x ∈ (numL M n b).1,okD 40 x := fun x hx => ((numL_ok M n b).2 x hx).mono (by omega)
theorem leaf_more {e : Ex} (h : okD 40 e) {M : Mk} {n : Nat} {b : Bs} : ∀ x ∈ e :: (numL M n b).1,okD 40 x := fun x hx => by
 rcases List.mem_cons.1 hx with rfl | hx
 ·exact h
 ·exact leaf_num x hx
theorem stmT_made {M : Mk} (hM : ∀ c h,arN M c h ≤ 2) (k d : Nat) {bd : Bs × Nat → List Sm × (Bs × Nat)} (hb : ∀ x,Made x.2 (bd x).1 (bd x).2.2) (b : Bs) (lf : Nat) : Made (lf + 1) [(stmT M k d bd b lf).1] (stmT M k d bd b lf).2.2 := by
 have hn : ∀ f b,f ≤ 30 → okD 40 (numE M f b).1 := fun f b hf => (numE_ok M f b).mono (by omega)
 have ht : ∀ b,okD 40 (truE M 2 b).1 := fun b => (truE_ok M 2 b).mono (by omega)
 have z : Sm.counts [] = 0 := rfl
 unfold stmT
 split
 ·exact made_one (lf' := lf) (by simp only [z];omega) (by simp) (leaf_one (ht _)) rfl rfl
 split
 ·exact made_one (lf' := lf) (by simp only [z];omega) (by simp) (leaf_two (hn _ _ (by omega)) (hn _ _ (by omega))) rfl rfl
 split
 ·exact made_one (lf' := lf) (by simp only [z];omega) (by simp) (leaf_one (hn _ _ (by omega))) rfl rfl
 split
 ·have h1 := hb ((truE M 2 b).2,lf)
  have h2 := hb (bd ((truE M 2 b).2,lf)).2
  exact made_one (by have := h1.cnt;have := h2.cnt;simp only at *;omega) (by simp) (leaf_one (ht _)) h1.all h2.all
 split
 ·have h1 := hb ((truE M 2 b).2,lf)
  exact made_one (by have := h1.cnt;simp only at *;omega) (by simp) (leaf_one (ht _)) h1.all rfl
 split
 ·exact made_one (lf' := lf) (by simp only [z];omega) (by rw [(numL_ok _ _ _).1];have := hM (nextB b M.ars.length).1 (nextB (nextB b M.ars.length).2 (arL M (nextB b M.ars.length).1)).1;omega) leaf_num rfl rfl
 split
 ·exact made_one (lf' := lf) (by simp only [z];omega) (by rw [List.length_cons,(numL_ok _ _ _).1];have := hM M.own (nextB b (arL M M.own)).1;omega) (leaf_more (hn _ _ (by omega))) rfl rfl
 split
 ·split
  ·have h1 := hb ((numL M 2 (nextB b 2).2).2,lf)
   exact made_one (by have := h1.cnt;simp only at *;omega) (by rw [(numL_ok _ _ _).1];omega) leaf_num rfl h1.all
  ·have h1 := hb ((numE M 3 (nextB (nextB b 2).2 M.ints).2).2,lf)
   exact made_one (lf' := (bd ((numE M 3 (nextB (nextB b 2).2 M.ints).2).2,lf)).2.2) (by have := h1.cnt;simp only at *;omega) (by simp) (leaf_one (hn _ _ (by omega))) rfl h1.all
 split
 ·exact made_one (lf' := lf) (by simp only [z];omega) (by simp) (fun _ h => by cases h) rfl rfl
 ·exact made_one (lf' := lf) (by simp only [z];omega) (by simp) (leaf_one (hn _ _ (by omega))) rfl rfl
theorem bodL_made {st : Nat → Bs → Nat → Sm × (Bs × Nat)} (hs : ∀ k b lf,Made (lf + 1) [(st k b lf).1] (st k b lf).2.2) : ∀ f x,Made x.2 (bodL st f x).1 (bodL st f x).2.2
 | 0,x => ⟨by simp [bodL,Sm.counts],rfl⟩
 | f + 1,(b,lf) => by
  unfold bodL
  split
  ·exact ⟨by simp [Sm.counts],rfl⟩
  ·rename_i hne
   split
   ·exact ⟨by simp [Sm.counts],rfl⟩
   ·have h1 := hs (nextB b 14).1 (nextB b 14).2 (lf - 1)
    have h2 := bodL_made hs f (st (nextB b 14).1 (nextB b 14).2 (lf - 1)).2
    have hl : lf ≠ 0 := fun e => hne (.inr e)
    refine ⟨?_,?_⟩
    ·have a1 := h1.cnt
     have a2 := h2.cnt
     simp only [Sm.counts] at a1 ⊢
     omega
    ·have a1 := h1.all
     simp only [Sm.alls,Bool.and_eq_true] at a1 ⊢
     exact ⟨a1.1,h2.all⟩
theorem bodE_made {M : Mk} (hM : ∀ c h,arN M c h ≤ 2) : ∀ f x,Made x.2 (bodE M f x).1 (bodE M f x).2.2
 | 0,x => bodL_made (fun k b lf => stmT_made hM k 3 (fun x => ⟨by simp [Sm.counts],rfl⟩) b lf) 13 x
 | f + 1,x => bodL_made (fun k b lf => stmT_made hM k (2 - f) (bodE_made hM f) b lf) 13 x
theorem hdS_ok {M : Mk} (hM : ∀ c h,arN M c h ≤ 2) (k : Nat) (c : Cd) : okHd 100 (hdS M k c) := by
 have h := bodE_made (M := M.at k) hM 3 (c.bytes.take 40,12)
 have hc := h.cnt
 simp only at hc
 refine ⟨by simp only [hdS,namesB_len];have := hM M.own k;omega,?_,?_,?_⟩
 ·simp only [hdS];omega
 ·simp only [hdS];have := sdeeps_le (bodE (M.at k) 3 (c.bytes.take 40,12)).1;omega
 ·exact salls_imp (okS2_mono (by omega)) _ h.all
theorem hdsP_ok {M : Mk} (hM : ∀ c h,arN M c h ≤ 2) : ∀ (l : List Cd) (k : Nat),∀ h ∈ hdsP M k l,okHd 100 h
 | [],k,h,hh => by cases hh
 | c :: r,k,h,hh => by
  rcases List.mem_cons.1 hh with rfl | hh
  ·exact hdS_ok hM k c
  ·exact hdsP_ok hM r (k + 1) h hh
theorem arN_le {p : Pln} {nf i : Nat} {x : Prt} (c h : Nat) : arN (mkP (arsP p) nf i x) c h ≤ 2 := by
 show ((arsP p).getD c []).getD h 0 ≤ 2
 by_cases hc : c < (arsP p).length
 ·rw [getD_at hc]
  have hm := List.getElem_mem hc
  generalize (arsP p)[c] = l at hm
  obtain ⟨y,_,rfl⟩ := List.mem_map.1 hm
  by_cases hh : h < (arP y).length
  ·rw [getD_at hh];exact arP_mem (List.getElem_mem hh)
  ·have e : (arP y)[h]? = none := List.getElem?_eq_none_iff.2 (by omega)
   rw [List.getD_eq_getElem?_getD,e];simp
 ·have e : (arsP p)[c]? = none := List.getElem?_eq_none_iff.2 (by omega)
  rw [List.getD_eq_getElem?_getD,List.getD_eq_getElem?_getD,e];simp
theorem fstP_len (x : Prt) : (fstP x).length ≤ 3 := by
 unfold fstP
 split
 ·simp
 ·rw [List.length_take];omega
theorem buildF_ok (p : Pln) : okFt 100 (buildF p) := by
 have hp := prtsP_len p
 refine ⟨?_,?_,?_,?_,?_⟩
 ·simp only [buildF,flgsP_len];omega
 ·have := lnksP_len (prtsP p).length p.links (min p.links.length ((prtsP p).length * (prtsP p).length))
  have h9 : (prtsP p).length * (prtsP p).length ≤ 9 := Nat.mul_le_mul hp.2 hp.2
  simp only [buildF]
  have : min p.links.length ((prtsP p).length * (prtsP p).length) ≤ (prtsP p).length * (prtsP p).length := Nat.min_le_right _ _
  omega
 ·simp only [buildF,cmpsP_len];omega
 ·simp only [buildF,cmpsP_len];omega
 ·intro c hc
  simp only [buildF,cmpsP] at hc
  obtain ⟨i,hi,rfl⟩ := List.mem_mapIdx.1 hc
  generalize (prtsP p)[i] = x
  refine ⟨?_,?_,?_⟩
  ·simp only [cmpP,varsP,List.length_append,vrsI_len,vrsT_len,List.length_singleton,intsP,tabsP];omega
  ·simp only [cmpP,vssP];split <;> simp
  ·intro v hv
   simp only [cmpP,vssP] at hv
   rcases List.mem_cons.1 hv with rfl | hv
   ·exact ⟨by rw [hdsP_len];have := fstP_len x;omega,hdsP_ok arN_le _ _⟩
   ·split at hv
    ·rw [List.mem_singleton.1 hv]
     exact ⟨by rw [hdsP_len,List.length_take];omega,hdsP_ok arN_le _ _⟩
    ·cases hv
end Go.Proofs.YtmbiojpcidccjaaGreatDoor
namespace Go.Proofs.YtmbiojpcidccjaaGreatDoor
open Go.RowKit Go.Par Go.Sx
theorem Fx.agg25 : aggN Tryz.prog 25 = Option.some (Option.some 3) := by kernel_rfl
theorem Fx.call14 : callN Tryz.prog 14 = Bool.true := by kernel_rfl
theorem Fx.call23 : callN Tryz.prog 23 = Bool.true := by kernel_rfl
theorem Fx.size55 : sizeN Tryz.prog 55 = Option.some 5 := by kernel_rfl
theorem Fx.sl26 : slN Tryz.prog 26 = Option.some 5 := by kernel_rfl
theorem Fx.zero55 : zeroN Tryz.prog 55 = Option.some
 [Go.Value.int Go.IntKind.u8 (Int.ofNat 0),Go.Value.int Go.IntKind.u8 (Int.ofNat 0),
  Go.Value.int Go.IntKind.u8 (Int.ofNat 0),Go.Value.int Go.IntKind.i64 (Int.ofNat 0),Go.Value.slice Option.none 0 0] := by kernel_rfl
def bndF : Nat → Nat
 | 0 => 100
 | 1 => 500
 | 2 => 1300
 | _ => 2900
theorem bndF_le {k : Nat} (_ : k ≤ 3) : bndF k ≤ 50000 := by
 match k with
 | 0 => decide
 | 1 => decide
 | 2 => decide
 | k + 3 => show 2900 ≤ 50000;decide
theorem bndF_step {k : Nat} (h : k < 3) : 2 * (bndF k + 100) + 100 = bndF (k + 1) := by match k,h with | 0,_ | 1,_ | 2,_ => rfl
theorem ft_len {H : Hp} {k : IntKind} {x : Ft} {cs : List Value} (h : Rep H (dFt k x) cs) : cs.length = 4 := by
 obtain ⟨_,_,_,_,_,_,rfl,_⟩ := ft_open h;rfl
set_option maxRecDepth 100000 in
theorem spoilt_any (H : Hp) (p : Pln) (l : List Sp) (cs : List Value) (v : Value) (w : World) (h : Rep H (dPln p) cs) (hl0 : Rep H (.seq 5 (l.map dSp)) [v]) (hA : Agr H w) :
 Calls Tryz.prog 8 #[.agg cs.toArray,v] w fun r w' => ∃ (y : List Value) (H' : Hp),(∃ f,Rep H' (dFt .i64 f) y ∧ okFt 50000 f) ∧ r = .returned (.agg y.toArray) ∧ Grow H w H' w' := by
 obtain ⟨pl,cl,el,_⟩ := hl0.sl
 simp only [List.cons.injEq,and_true,List.length_map] at el
 subst el
 have hl := hl0
 have hcap := hl.cap
 obtain ⟨p1,c1,p2,c2,rfl,h1,h2⟩ := pln_open h
 refine Sx.enter (H := H) Tryz.func8 rfl Tryz.ntmps8 rfl hA ?_
 refine .sr<|.bx Z Z Z fun b2 => .al Fx.zero32 Z fun b4 => .ns<|.yv (.loadW Z Fx.agg25 (.tail _<|.head _) Z) Z<|.ct (X := List Value) Fx.call14 Z (fun W s => build_plan H p _ W h s.agr) Z fun y1 H1 hf1 u1 => .al Fx.zero32 Z fun b5 => .sV .head Z Z Fx.size32 (ft_len hf1) hf1.one Z<|.nt<|.sq<|.sr<|.m Z Z<|.m Z Z<|.yv (.lenSl Fx.sl26 Z) Z<|.yv (.min2 Z Z (c := ((min l.length 3 : Nat) : Int)) (by omega)) Z<|.yv (.cutHi2 Fx.sl26 Z Z (h := min l.length 3) Z (by have := hl.len.2.1;omega)) Z<|.yv (.lenSl Fx.sl26 Z) Z<|.m Z Z<|?_
 have hl3 := rep_take2 (hl.up u1.up) (hi := min l.length 3) (by omega)
 rw [← List.map_take,take_min] at hl3
 have hlt : (l.take 3).length = min l.length 3 := by rw [List.length_take,Nat.min_comm]
 have hcap3 := hl3.cap
 generalize (if cl = 0 then pl else pl.map fun q => q.add 0) = pq at hl3 ⊢
 refine .nt<|.bk<|.lp (X := Nat × Hp × List Value) [(4,_),(5,_),(14,_),(15,_)] ⟨rfl,rfl,rfl,rfl,trivial⟩ [_,_] (fun z => [(16,.int .i64 (z.1 : Nat))]) (fun z => z.2.1) (fun z => [.box b5 z.2.2 32]) (fun z => z.1 ≤ min l.length 3 ∧ HUp w H1 z.2.1 ∧ ∃ f : Ft,Rep z.2.1 (dFt .i64 f) z.2.2 ∧ okFt (bndF z.1) f) (fun z => 3 - z.1) (0,H1,_) (fun _ s => s) ⟨rfl,trivial⟩ ⟨by simp,.refl,buildF p,hf1,buildF_ok p⟩ fun z hC => ?_
 obtain ⟨k,H2,cs5⟩ := z
 dsimp only at hC ⊢
 obtain ⟨hk0,u2,f,hf,hok⟩ := hC
 refine .sr<|.yv (.lss Z Z) Z<|.nt<|.sq<|.cd Z (fun h17 => ?_) (fun h17 => ?_)
 ·try simp only [dt] at h17
  have hk : k < (l.take 3).length := by omega
  have hkb : bndF k ≤ 50000 := bndF_le (by omega)
  obtain ⟨bE,oE,cE,hpE,rE,lE,mE⟩ := (hl3.up u2.up).elem (map_at (f := dSp) hk)
  cases hpE
  refine .sk<|.tN<|.sq<|.bk<|.sr<|.yv (.indexSl Fx.sl26 Z Z (i := k) Z (by omega) (q := oE + k * 5) Z) Z<|.yv (.loadMW Z Fx.agg55 mE lE) Z<|.al Fx.zero55 Z fun b7 => .sV .head Z Z Fx.size55 lE rE.one Z<|.nt<|.rg<|.yv (.loadW Z Fx.agg32 (.tail _<|.head _) (ft_len hf)) Z<|.yv (.loadW Z Fx.agg55 (.head _) lE) Z<|.ct (X := List Value) Fx.call23 Z (fun W s => apply_any H2 f _ cs5 cE (bndF k) hkb W hf rE hok s.agr) Z fun y22 H3 hc22 u22 => ?_
  obtain ⟨f2,hf2,okf2⟩ := hc22
  exact .sV (.tail<|.head) Z Z Fx.size32 (ft_len hf2) hf2.one (ft_len hf)<|.nl<|.bN<|.tN<|.rg<|.yv (.add Z Z (w6 (by omega))) Z<|.m Z Z<|.nt<|.ag (x := (k,H2,cs5)) (k + 1,H3,y22) ⟨rfl,trivial⟩ ⟨rfl,rfl,rfl,rfl,trivial⟩ (fun _ s => (s.pick [1,2,3] _ Z Z)) ⟨by dsimp only;omega,u2.trans u22,f2,hf2,(by rw [← bndF_step (show k < 3 by omega)];exact okf2)⟩ (by dsimp only;omega)
 skip
 refine .ex<|.tE<|.tE<|.bE<|.tN<|.sr<|.yv (.loadW Z Fx.agg32 (.head _) (ft_len hf)) Z<|.sV (.tail<|.head) Z Z Fx.size32 (ft_len hf) hf.one Z<|.nt<|.rt<|?_
 exact Sx.ret1 (.inl rfl) rfl (.cell rfl Fx.agg32 (.tail _<|.head _) (ft_len hf)) fun W t => ⟨cs5,H2,⟨f,hf,hok.mono (bndF_le (by omega))⟩,rfl,(u1.trans u2).grow t⟩
theorem Fx.call27 : callN Tryz.prog 27 = Bool.true := by kernel_rfl
theorem Fx.int67 : intN Tryz.prog 67 = Option.some Go.IntKind.u8 := by kernel_rfl
theorem Fx.row69 : rowN Tryz.prog 69 = Option.some (71,6,112) := by kernel_rfl
theorem Fx.bld71_0_1_2_4_5 (x0 : Int) (x1 : ByteArray) (x2 : ByteArray) (x4p : Option Addr) (x4n x4c : Nat) (x5p : Option Addr) (x5n x5c : Nat) : buildN Tryz.prog 71 [(0,.int .u8 x0),(1,.string x1),(2,.string x2),(4,.slice x4p x4n x4c),(5,.slice x5p x5n x5c)] = some [.int .u8 x0,.string x1,.string x2,.slice none 0 0,.slice x4p x4n x4c,.slice x5p x5n x5c] := by kernel_rfl
theorem Fx.agg84 : aggN Tryz.prog 84 = Option.some (Option.some 2) := by kernel_rfl
theorem Fx.agg86 : aggN Tryz.prog 86 = Option.some (Option.some 3) := by kernel_rfl
theorem Fx.agg93 : aggN Tryz.prog 93 = Option.some (Option.some 3) := by kernel_rfl
theorem Fx.field84_0 : fieldN Tryz.prog 84 0 = Option.some 0 := by kernel_rfl
theorem Fx.field84_1 : fieldN Tryz.prog 84 1 = Option.some 1 := by kernel_rfl
theorem Fx.field86_0 : fieldN Tryz.prog 86 0 = Option.some 0 := by kernel_rfl
theorem Fx.field86_1 : fieldN Tryz.prog 86 1 = Option.some 1 := by kernel_rfl
theorem Fx.field86_2 : fieldN Tryz.prog 86 2 = Option.some 2 := by kernel_rfl
theorem Fx.field93_0 : fieldN Tryz.prog 93 0 = Option.some 0 := by kernel_rfl
theorem Fx.field93_1 : fieldN Tryz.prog 93 1 = Option.some 1 := by kernel_rfl
theorem Fx.field93_2 : fieldN Tryz.prog 93 2 = Option.some 2 := by kernel_rfl
theorem Fx.int94 : intN Tryz.prog 94 = Option.some Go.IntKind.u8 := by kernel_rfl
theorem Fx.row36 : rowN Tryz.prog 36 = Option.some (65,2,24) := by kernel_rfl
theorem Fx.row37 : rowN Tryz.prog 37 = Option.some (87,3,40) := by kernel_rfl
theorem Fx.row38 : rowN Tryz.prog 38 = Option.some (80,3,64) := by kernel_rfl
theorem Fx.row74 : rowN Tryz.prog 74 = Option.some (73,3,64) := by kernel_rfl
theorem Fx.row77 : rowN Tryz.prog 77 = Option.some (76,1,24) := by kernel_rfl
theorem Fx.row78 : rowN Tryz.prog 78 = Option.some (96,3,32) := by kernel_rfl
theorem Fx.size36 : sizeN Tryz.prog 36 = Option.some 1 := by kernel_rfl
theorem Fx.size37 : sizeN Tryz.prog 37 = Option.some 1 := by kernel_rfl
theorem Fx.size38 : sizeN Tryz.prog 38 = Option.some 1 := by kernel_rfl
theorem Fx.size74 : sizeN Tryz.prog 74 = Option.some 1 := by kernel_rfl
theorem Fx.size77 : sizeN Tryz.prog 77 = Option.some 1 := by kernel_rfl
theorem Fx.size78 : sizeN Tryz.prog 78 = Option.some 1 := by kernel_rfl
theorem Fx.size84 : sizeN Tryz.prog 84 = Option.some 2 := by kernel_rfl
theorem Fx.size86 : sizeN Tryz.prog 86 = Option.some 3 := by kernel_rfl
theorem Fx.size93 : sizeN Tryz.prog 93 = Option.some 3 := by kernel_rfl
theorem Fx.sl29 : slN Tryz.prog 29 = Option.some 3 := by kernel_rfl
theorem Fx.sl88 : slN Tryz.prog 88 = Option.some 3 := by kernel_rfl
theorem Fx.zero84 : zeroN Tryz.prog 84 = Option.some [Go.Value.string { data := { toList := [] } },Go.Value.bool Bool.false] := by kernel_rfl
theorem Fx.zero86 : zeroN Tryz.prog 86 = Option.some
 [Go.Value.string { data := { toList := [] } },Go.Value.string { data := { toList := [] } },
  Go.Value.int Go.IntKind.i64 (Int.ofNat 0)] := by kernel_rfl
theorem Fx.zero93 : zeroN Tryz.prog 93 = Option.some
 [Go.Value.string { data := { toList := [] } },Go.Value.int Go.IntKind.i64 (Int.ofNat 0),
  Go.Value.int Go.IntKind.i64 (Int.ofNat 0)] := by kernel_rfl
theorem Fx.bld40_0 (x0 : ByteArray) : buildN Tryz.prog 40 [(0,.string x0)] = some [.string x0,.slice none 0 0,.slice none 0 0,.slice none 0 0] := by kernel_rfl
theorem Fx.bld80_0 (x0 : ByteArray) : buildN Tryz.prog 80 [(0,.string x0)] = some [.string x0,.slice none 0 0,.slice none 0 0] := by kernel_rfl
theorem Fx.bld87_0_1_2 (x0 : ByteArray) (x1 : ByteArray) (x2 : Int) : buildN Tryz.prog 87 [(0,.string x0),(1,.string x1),(2,.int .i64 x2)] = some [.string x0,.string x1,.int .i64 x2] := by kernel_rfl
theorem Fx.bld96_0_1_2 (x0 : ByteArray) (x1 : Int) (x2 : Int) : buildN Tryz.prog 96 [(0,.string x0),(1,.int .u8 x1),(2,.int .i64 x2)] = some [.string x0,.int .u8 x1,.int .i64 x2] := by kernel_rfl
theorem Fx.bsl37_1 (x00 x01 x02 : Value) : bslN Tryz.prog 37 1 [(0,.agg [x00,x01,x02].toArray)] = some (87,[x00,x01,x02]) := by kernel_rfl
theorem Fx.bsl78_1 (x00 x01 x02 : Value) : bslN Tryz.prog 78 1 [(0,.agg [x00,x01,x02].toArray)] = some (96,[x00,x01,x02]) := by kernel_rfl
theorem Fx.call67 : callN Tryz.prog 67 = Bool.true := by kernel_rfl
theorem dT {Q : Prop} [Decidable Q] (h : Q) : true = decide Q := (decide_eq_true h).symm
theorem dF {Q : Prop} [Decidable Q] (h : ¬ Q) : false = decide Q := (decide_eq_false h).symm
theorem dD {P Q : Prop} [Decidable P] [Decidable Q] (h : P ↔ Q) : decide P = decide Q := decide_eq_decide.2 h
theorem retE {a b : Bool} (h : a = b) : Ending.returned (.bool a) = .returned (.bool b) := by rw [h]
theorem byte_k {Q : UInt8 → Prop} (h : ∀ i ∈ List.range 256,Q (UInt8.ofNat i)) (c : UInt8) : Q c := by
 have := h c.toNat (List.mem_range.2 c.toNat_lt)
 rwa [UInt8.ofNat_toNat] at this
set_option maxHeartbeats 2000000 in
set_option maxRecDepth 100000 in
theorem deep_any (N : Nat) (hN : N ≤ 1000000) (H : Hp) : ∀ (l : List Sm),okL N l → ∀ (v : Value) (w : World),Rep H (.seq 6 (l.map (dSm .i64))) [v] → Agr H w →
 Calls Tryz.prog 67 #[v] w fun r w' => r = .returned (.bool (!Sm.alls smaS l)) ∧ Ext w w' := by
 refine Sm.lists fun l ih => ?_
 intro hok v w hs hA
 obtain ⟨p,c,e,_⟩ := hs.sl
 simp only [List.cons.injEq,and_true,List.length_map] at e
 subst e
 have hcap := hs.cap
 have hll := hok.len
 refine Sx.enter (H := H) Tryz.func67 rfl Tryz.ntmps67 rfl hA ?_
 refine .sr<|.a Z Z<|.nt<|.sq<|.sr<|.m Z Z<|.yv (.lenSl Fx.sl98 Z) Z<|.m Z Z<|.nt<|.bk<|.lp (X := Nat) [(7,_),(8,_)] ⟨rfl,rfl,trivial⟩ [] (fun k => [(9,.int .i64 (k : Nat))]) (fun k => H) (fun k => []) (fun k => k ≤ l.length ∧ Sm.alls smaS (l.take k) = true) (fun k => l.length - k) 0 (fun _ s => s) ⟨rfl,trivial⟩ ⟨by omega,rfl⟩ fun k hC => ?_
 obtain ⟨hk0,hal⟩ := hC
 refine .sr<|.yv (.lss Z Z) Z<|.nt<|.sq<|.cd Z (fun h10 => ?_) (fun h10 => ?_)
 ·try simp only [dt] at h10
  have hk : k < l.length := by omega
  obtain ⟨bE,oE,cE,hpE,rE,lE,mE⟩ := hs.elem (map_at (f := dSm .i64) hk)
  cases hpE
  have hi := ih _ (List.getElem_mem hk)
  have hka := hok.at hk
  have hsucc := salls_succ (q := smaS) hk
  have hbad := fun h => salls_bad (q := smaS) hk h
  generalize hx : l[k] = x at rE hi hka hsucc hbad
  obtain ⟨kd,nm,hd,ex,th,el⟩ := x
  obtain ⟨p1,c1,p2,c2,p3,c3,rfl,hs1,hs2,hs3,hn1,hn2⟩ := sm_open rE
  simp only [Sm.th,Sm.el] at hi
  obtain ⟨a1,a2,a3,a4,a5,a6,a7⟩ := okL_one.1 hka
  have hit := hi.1 ⟨by omega,by omega,a6⟩
  have hie := hi.2 ⟨by omega,by omega,a7⟩
  have hcap1 := hs1.cap
  rw [sall_mk] at hsucc hbad
  refine .sk<|.tN<|.sq<|.bk<|.sr<|.yv (.indexSl Fx.sl98 Z Z Z (by omega) (q := oE + k * 6) Z) Z<|.yv (.loadMW Z Fx.agg150 mE Z) Z<|.al Fx.zero150 Z fun b4 => .sW .head Z Z Fx.size150 (by simp [Value.oneCell',strV]) Z<|.nt<|.sq<|.sr<|.yv (.fieldAddr Z Fx.field150_3) Z<|.yv (.load Z Fx.agg49 (.head _) Z) Z<|.yv (.lenSl Fx.sl49 Z) Z<|.m Z Z<|.nt<|.bk<|.lp (X := Nat) [(4,_),(7,_),(8,_),(9,_),(14,_),(15,_)] ⟨rfl,rfl,rfl,rfl,rfl,rfl,trivial⟩ [_] (fun j => [(16,.int .i64 (j : Nat))]) (fun j => H) (fun j => []) (fun j => j ≤ ex.length ∧ (ex.take j).all (fun x => decide (x.depth ≤ 8)) = true) (fun j => ex.length - j) 0 (fun _ s => s) ⟨rfl,trivial⟩ ⟨by omega,rfl⟩ fun j hC => ?_
  obtain ⟨hj0,hae⟩ := hC
  refine .sr<|.yv (.lss Z Z) Z<|.nt<|.sq<|.cd Z (fun h17 => ?_) (fun h17 => ?_)
  ·try simp only [dt] at h17
   have hj : j < ex.length := by omega
   obtain ⟨bF,oF,cF,hpF,rF,lF,mF⟩ := hs1.elem (map_at (f := dEx .i64) hj)
   cases hpF
   have hje := List.all_eq_true.1 a5 _ (List.getElem_mem hj)
   simp only [okE,Bool.and_eq_true,decide_eq_true_eq] at hje
   refine .sk<|.tN<|.sq<|.bk<|.sr<|.yv (.indexSl Fx.sl49 Z Z Z (by omega) (q := oF + j * 4) Z) Z<|.yv (.loadMW Z Fx.agg51 mF lF) Z<|.al Fx.zero51 Z fun b6 => .sV .head Z Z Fx.size51 lF rF.one Z<|.ns<|.yv (.loadW Z Fx.agg51 (.head _) lF) Z<|.yv (.call Fx.call101 Z (fun W s => rexprDepth_any _ H cF W rF (by omega) s.agr)) Z<|.yv (.gtr Z Z) Z<|.nt<|.cd Z (fun h22 => ?_) (fun h22 => ?_)
   ·try simp only [dt] at h22
    have hb : (ex.all fun x => decide (x.depth ≤ 8)) = false := lall_bad (q := fun x => decide (x.depth ≤ 8)) hj (by simp only [decide_eq_false_iff_not];omega)
    have hz := hbad (by rw [show smaS (.mk kd nm hd ex th el) = false from hb];rfl)
    refine .sr<|.a Z Z<|.nt<|.rt<|.bR<|.tR<|.tR<|.bR<|.tR<|.bR<|.tR<|.tR<|.bR<|.tR<|?_
    refine Sx.ret1 (.inl rfl) rfl (.tmp rfl) fun W s => ⟨retB ?_,s.ext⟩
    first
     | (rw [hz];rfl)
     | (rw [hal];rfl)
   try simp only [df] at h22
   have h22 : ex[j].depth ≤ 8 := by omega
   exact .sk<|.bN<|.tN<|.rg<|.yv (.add Z Z (w6 (by omega))) Z<|.m Z Z<|.nt<|.ag (j + 1) ⟨rfl,trivial⟩ ⟨rfl,rfl,rfl,rfl,rfl,rfl,trivial⟩ (fun _ s => s.pick [1] [_] Z Z) ⟨by omega,by rw [lall_succ hj,hae];simpa using h22⟩ (by omega)
  try simp only [df] at h17
  obtain rfl : j = ex.length := by omega
  rw [List.take_length] at hae
  refine .ex<|.tE<|.tE<|.bE<|.tN<|.cu (X := Bool) [(7,_),(8,_),(9,_)] ⟨rfl,rfl,rfl,trivial⟩ (fun z => [(31,.bool z)]) (fun z => H) (fun z => [.box b4 [.int .i64 kd.toNat,strV nm,strV hd,.slice p1 ex.length c1,.slice p2 th.length c2,.slice p3 el.length c3] 150]) (fun z => z = (!(Sm.alls smaS th && Sm.alls smaS el))) ?_ fun z hC => ?_
  ·
   refine .rg<|.yv (.fieldAddr Z Fx.field150_4) Z<|.yv (.load Z Fx.agg98 (.head _) Z) Z<|.yv (.call Fx.call67 Z (fun W s => hit _ W hs2 s.agr)) Z<|.m Z Z<|.b2 (fun h27 => ?_) (fun h27 => ?_)
   ·try simp only [dt] at h27
    exact .gF Z Z Z Z<|.gF Z Z Z Z<|.gF Z Z Z Z<|.yv (.pickT Z Z) Z<|.nt<|.me _ ⟨rfl,trivial⟩ ⟨rfl,rfl,rfl,trivial⟩ (fun _ s => s) (by simp_all)
   try simp only [df] at h27
   exact .gd Z Z<|.yv (.fieldAddr Z Fx.field150_5) Z<|.gd Z Z<|.yv (.load Z Fx.agg98 (.head _) Z) Z<|.gd Z Z<|.yv (.call Fx.call67 Z (fun W s => hie _ W hs3 s.agr)) Z<|.yv (.pickF Z Z) Z<|.nt<|.me _ ⟨rfl,trivial⟩ ⟨rfl,rfl,rfl,trivial⟩ (fun _ s => s) (by simp_all)
  have e31 := hC
  refine .cd Z (fun h31 => ?_) (fun h31 => ?_)
  ·try simp only [dt] at h31
   rw [h31] at e31
   have hz := hbad (by rw [show smaS (.mk kd nm hd ex th el) = true from hae,Bool.true_and];have := e31.symm;rwa [Bool.not_eq_true'] at this)
   refine .sr<|.a Z Z<|.nt<|.rt<|.bR<|.tR<|.tR<|.bR<|.tR<|?_
   refine Sx.ret1 (.inl rfl) rfl (.tmp rfl) fun W s => ⟨retB ?_,s.ext⟩
   first
    | (rw [hz];rfl)
    | (rw [hal];rfl)
  try simp only [df] at h31
  rw [h31] at e31
  have q31 : (Sm.alls smaS th && Sm.alls smaS el) = true := by simpa using e31.symm
  exact .sk<|.bN<|.tN<|.rg<|.yv (.add Z Z (w6 (by omega))) Z<|.m Z Z<|.nt<|.ag (k + 1) ⟨rfl,trivial⟩ ⟨rfl,rfl,trivial⟩ (fun _ s => s.pick [] [] Z Z) ⟨by omega,by rw [hsucc,hal,Bool.true_and];rw [show smaS (.mk kd nm hd ex th el) = true from hae];simp only [Bool.true_and];simpa using q31⟩ (by omega)
 try simp only [df] at h10
 obtain rfl : k = l.length := by omega
 rw [List.take_length] at hal
 refine .ex<|.tE<|.tE<|.bE<|.tN<|.sr<|.a Z Z<|.nt<|.rt<|?_
 refine Sx.ret1 (.inl rfl) rfl (.tmp rfl) fun W s => ⟨retB ?_,s.ext⟩
 first
  | (rw [hz];rfl)
  | (rw [hal];rfl)
theorem named_eq : (∀ kd : UInt8,(formOf kd).nm = decide (kd.toNat = 1 ∨ kd.toNat = 2 ∨ kd.toNat = 3 ∨ kd.toNat = 6 ∨ kd.toNat = 9) ∧ (formOf kd).hd = decide (kd.toNat = 6 ∨ kd.toNat = 7)) := fun kd => byte_k (Q := fun kd => (formOf kd).nm = decide (kd.toNat = 1 ∨ kd.toNat = 2 ∨ kd.toNat = 3 ∨ kd.toNat = 6 ∨ kd.toNat = 9) ∧ (formOf kd).hd = decide (kd.toNat = 6 ∨ kd.toNat = 7)) (by decide +kernel) kd
theorem tup2 {a b c d : Bool} (h1 : a = c) (h2 : b = d) : Ending.returned (.tuple #[.bool a,.bool b]) = .returned (.tuple #[.bool c,.bool d]) := by rw [h1,h2]
set_option maxRecDepth 100000 in
theorem namedK_any (H : Hp) (kd : UInt8) (w : World) (hA : Agr H w) : Calls Tryz.prog 103 #[.int .i64 kd.toNat] w fun r w' => r = .returned (.tuple #[.bool (formOf kd).nm,.bool (formOf kd).hd]) ∧ Ext w w' := by
 refine Sx.enter (H := H) Tryz.func103 rfl Tryz.ntmps103 rfl hA ?_
 refine .sr<|.a Z Z<|.a Z Z<|.ns<|.m Z Z<|.yv (.eql Z Z) Z<|.m Z Z<|.b2 (fun h6 => ?_) (fun h6 => ?_)
 ·try simp only [dt] at h6
  refine .gF Z Z Z Z<|.gF Z Z Z Z<|.yv (.pickT Z Z) Z<|.m Z Z<|.gF Z Z Z Z<|.gF Z Z Z Z<|.yv (.pickT Z Z) Z<|.m Z Z<|.gF Z Z Z Z<|.gF Z Z Z Z<|.yv (.pickT Z Z) Z<|.m Z Z<|.gF Z Z Z Z<|.gF Z Z Z Z<|.yv (.pickT Z Z) Z<|.m Z Z<|.yv (.eql Z Z) Z<|.m Z Z<|.b2 (fun h24 => ?_) (fun h24 => ?_)
  ·try simp only [dt] at h24
   refine .gF Z Z Z Z<|.gF Z Z Z Z<|.yv (.pickT Z Z) Z<|.a Z Z<|.a Z Z<|.nt<|.rt<|?_
   refine Sx.retN (.inl rfl) rfl (.cons (.tmp rfl) (.cons (.tmp rfl) .nil)) rfl fun W s => ⟨?_,s.ext⟩
   obtain ⟨n1,n2⟩ := named_eq kd
   rw [n1,n2]
   clear n1 n2
   refine tup2 ?_ ?_ <;> first | exact dT (by omega) | exact dF (by omega) | exact dD (by omega)
  try simp only [df] at h24
  refine .gd Z Z<|.yv (.move Z) Z<|.gd Z Z<|.yv (.eql Z Z) Z<|.yv (.pickF Z Z) Z<|.a Z Z<|.a Z Z<|.nt<|.rt<|?_
  refine Sx.retN (.inl rfl) rfl (.cons (.tmp rfl) (.cons (.tmp rfl) .nil)) rfl fun W s => ⟨?_,s.ext⟩
  obtain ⟨n1,n2⟩ := named_eq kd
  rw [n1,n2]
  clear n1 n2
  refine tup2 ?_ ?_ <;> first | exact dT (by omega) | exact dF (by omega) | exact dD (by omega)
 try simp only [df] at h6
 refine .gd Z Z<|.yv (.move Z) Z<|.gd Z Z<|.yv (.eql Z Z) Z<|.yv (.pickF Z Z) Z<|.m Z Z<|.b2 (fun h10 => ?_) (fun h10 => ?_)
 ·try simp only [dt] at h10
  refine .gF Z Z Z Z<|.gF Z Z Z Z<|.yv (.pickT Z Z) Z<|.m Z Z<|.gF Z Z Z Z<|.gF Z Z Z Z<|.yv (.pickT Z Z) Z<|.m Z Z<|.gF Z Z Z Z<|.gF Z Z Z Z<|.yv (.pickT Z Z) Z<|.m Z Z<|.yv (.eql Z Z) Z<|.m Z Z<|.b2 (fun h24 => ?_) (fun h24 => ?_)
  ·try simp only [dt] at h24
   refine .gF Z Z Z Z<|.gF Z Z Z Z<|.yv (.pickT Z Z) Z<|.a Z Z<|.a Z Z<|.nt<|.rt<|?_
   refine Sx.retN (.inl rfl) rfl (.cons (.tmp rfl) (.cons (.tmp rfl) .nil)) rfl fun W s => ⟨?_,s.ext⟩
   obtain ⟨n1,n2⟩ := named_eq kd
   rw [n1,n2]
   clear n1 n2
   refine tup2 ?_ ?_ <;> first | exact dT (by omega) | exact dF (by omega) | exact dD (by omega)
  try simp only [df] at h24
  refine .gd Z Z<|.yv (.move Z) Z<|.gd Z Z<|.yv (.eql Z Z) Z<|.yv (.pickF Z Z) Z<|.a Z Z<|.a Z Z<|.nt<|.rt<|?_
  refine Sx.retN (.inl rfl) rfl (.cons (.tmp rfl) (.cons (.tmp rfl) .nil)) rfl fun W s => ⟨?_,s.ext⟩
  obtain ⟨n1,n2⟩ := named_eq kd
  rw [n1,n2]
  clear n1 n2
  refine tup2 ?_ ?_ <;> first | exact dT (by omega) | exact dF (by omega) | exact dD (by omega)
 try simp only [df] at h10
 refine .gd Z Z<|.yv (.move Z) Z<|.gd Z Z<|.yv (.eql Z Z) Z<|.yv (.pickF Z Z) Z<|.m Z Z<|.b2 (fun h14 => ?_) (fun h14 => ?_)
 ·try simp only [dt] at h14
  refine .gF Z Z Z Z<|.gF Z Z Z Z<|.yv (.pickT Z Z) Z<|.m Z Z<|.gF Z Z Z Z<|.gF Z Z Z Z<|.yv (.pickT Z Z) Z<|.m Z Z<|.yv (.eql Z Z) Z<|.m Z Z<|.b2 (fun h24 => ?_) (fun h24 => ?_)
  ·try simp only [dt] at h24
   refine .gF Z Z Z Z<|.gF Z Z Z Z<|.yv (.pickT Z Z) Z<|.a Z Z<|.a Z Z<|.nt<|.rt<|?_
   refine Sx.retN (.inl rfl) rfl (.cons (.tmp rfl) (.cons (.tmp rfl) .nil)) rfl fun W s => ⟨?_,s.ext⟩
   obtain ⟨n1,n2⟩ := named_eq kd
   rw [n1,n2]
   clear n1 n2
   refine tup2 ?_ ?_ <;> first | exact dT (by omega) | exact dF (by omega) | exact dD (by omega)
  try simp only [df] at h24
  refine .gd Z Z<|.yv (.move Z) Z<|.gd Z Z<|.yv (.eql Z Z) Z<|.yv (.pickF Z Z) Z<|.a Z Z<|.a Z Z<|.nt<|.rt<|?_
  refine Sx.retN (.inl rfl) rfl (.cons (.tmp rfl) (.cons (.tmp rfl) .nil)) rfl fun W s => ⟨?_,s.ext⟩
  obtain ⟨n1,n2⟩ := named_eq kd
  rw [n1,n2]
  clear n1 n2
  refine tup2 ?_ ?_ <;> first | exact dT (by omega) | exact dF (by omega) | exact dD (by omega)
 try simp only [df] at h14
 refine .gd Z Z<|.yv (.move Z) Z<|.gd Z Z<|.yv (.eql Z Z) Z<|.yv (.pickF Z Z) Z<|.m Z Z<|.b2 (fun h18 => ?_) (fun h18 => ?_)
 ·try simp only [dt] at h18
  refine .gF Z Z Z Z<|.gF Z Z Z Z<|.yv (.pickT Z Z) Z<|.m Z Z<|.yv (.eql Z Z) Z<|.m Z Z<|.b2 (fun h24 => ?_) (fun h24 => ?_)
  ·try simp only [dt] at h24
   refine .gF Z Z Z Z<|.gF Z Z Z Z<|.yv (.pickT Z Z) Z<|.a Z Z<|.a Z Z<|.nt<|.rt<|?_
   refine Sx.retN (.inl rfl) rfl (.cons (.tmp rfl) (.cons (.tmp rfl) .nil)) rfl fun W s => ⟨?_,s.ext⟩
   obtain ⟨n1,n2⟩ := named_eq kd
   rw [n1,n2]
   clear n1 n2
   refine tup2 ?_ ?_ <;> first | exact dT (by omega) | exact dF (by omega) | exact dD (by omega)
  try simp only [df] at h24
  refine .gd Z Z<|.yv (.move Z) Z<|.gd Z Z<|.yv (.eql Z Z) Z<|.yv (.pickF Z Z) Z<|.a Z Z<|.a Z Z<|.nt<|.rt<|?_
  refine Sx.retN (.inl rfl) rfl (.cons (.tmp rfl) (.cons (.tmp rfl) .nil)) rfl fun W s => ⟨?_,s.ext⟩
  obtain ⟨n1,n2⟩ := named_eq kd
  rw [n1,n2]
  clear n1 n2
  refine tup2 ?_ ?_ <;> first | exact dT (by omega) | exact dF (by omega) | exact dD (by omega)
 try simp only [df] at h18
 refine .gd Z Z<|.yv (.move Z) Z<|.gd Z Z<|.yv (.eql Z Z) Z<|.yv (.pickF Z Z) Z<|.m Z Z<|.yv (.eql Z Z) Z<|.m Z Z<|.b2 (fun h24 => ?_) (fun h24 => ?_)
 ·try simp only [dt] at h24
  refine .gF Z Z Z Z<|.gF Z Z Z Z<|.yv (.pickT Z Z) Z<|.a Z Z<|.a Z Z<|.nt<|.rt<|?_
  refine Sx.retN (.inl rfl) rfl (.cons (.tmp rfl) (.cons (.tmp rfl) .nil)) rfl fun W s => ⟨?_,s.ext⟩
  obtain ⟨n1,n2⟩ := named_eq kd
  rw [n1,n2]
  clear n1 n2
  refine tup2 ?_ ?_ <;> first | exact dT (by omega) | exact dF (by omega) | exact dD (by omega)
 try simp only [df] at h24
 refine .gd Z Z<|.yv (.move Z) Z<|.gd Z Z<|.yv (.eql Z Z) Z<|.yv (.pickF Z Z) Z<|.a Z Z<|.a Z Z<|.nt<|.rt<|?_
 refine Sx.retN (.inl rfl) rfl (.cons (.tmp rfl) (.cons (.tmp rfl) .nil)) rfl fun W s => ⟨?_,s.ext⟩
 obtain ⟨n1,n2⟩ := named_eq kd
 rw [n1,n2]
 clear n1 n2
 refine tup2 ?_ ?_ <;> first | exact dT (by omega) | exact dF (by omega) | exact dD (by omega)
theorem Fx.call69 : callN Tryz.prog 69 = Bool.true := by kernel_rfl
theorem Fx.call70 : callN Tryz.prog 70 = Bool.true := by kernel_rfl
theorem Fx.call103 : callN Tryz.prog 103 = Bool.true := by kernel_rfl
theorem Fx.call105 : callN Tryz.prog 105 = Bool.true := by kernel_rfl
end Go.Proofs.YtmbiojpcidccjaaGreatDoor
