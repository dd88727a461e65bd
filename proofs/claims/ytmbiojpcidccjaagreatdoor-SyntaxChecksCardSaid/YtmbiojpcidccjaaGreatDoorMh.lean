/- Texts of the proof, one behind the other. -/
import Derived.Test.YtmbiojpcidccjaaGreatDoorMg
namespace Go.Proofs.YtmbiojpcidccjaaGreatDoor
open Go.RowKit Go.Par Go.Sx
theorem shape_nm (op : UInt8) : (shapeOf op).nm = (decide (5 ≤ op.toNat) && decide (op.toNat ≤ 8)) := by
  have key : ∀ i ∈ List.range 256, (shapeOf (UInt8.ofNat i)).nm = (decide (5 ≤ i) && decide (i ≤ 8)) := by decide +kernel
  have h := key op.toNat (List.mem_range.2 op.toNat_lt)
  rwa [UInt8.ofNat_toNat] at h
theorem nam_iff (op : UInt8) (nm : Str) (n : Int64) (args : List Ex) : namE (.mk op nm n args) = true ↔ ¬ ((5 ≤ (op.toNat : Int) ∧ (op.toNat : Int) ≤ 8) ∧ nameB nm = false) := by
  rw [namE, shape_nm]
  cases nameB nm with
  | true => simp
  | false => simp only [Bool.or_false, Bool.not_eq_true', Bool.and_eq_false_iff, decide_eq_false_iff_not, and_true]; omega
set_option maxRecDepth 100000 in
theorem exprNames_any (H : Hp) (e : Ex) : ∀ (cs : List Value) (w : World), Rep H (dEx .i64 e) cs → Agr H w →
    Calls Tryz.prog 104 #[.agg cs.toArray] w fun r w' => r = .returned (.bool (e.all namE)) ∧ Ext w w' := by
  induction e using Ex.ind with | _ op nm nn args ih
  intro cs w h hA
  obtain ⟨p, c, rfl, hs, hnm⟩ := ex_open h
  have hcap := hs.cap
  skip
  refine Sx.enter (H := H) Tryz.func104 rfl Tryz.ntmps104 rfl hA ?_
  refine .sr <| .bx rfl rfl rfl fun b1 => .a rfl rfl <| .nt <| .sq <| .sr <| .yv (.fieldAddr rfl Fx.field51_0) rfl <| .yv (.load rfl Fx.agg3 (.head _) rfl) rfl <| .yv (.geq rfl rfl) rfl <| .m rfl rfl <| .b2 (fun h8 => ?_) (fun h8 => ?_)
  ·try simp only [dt] at h8
   refine .gd rfl rfl <| .yv (.fieldAddr rfl Fx.field51_0) rfl <| .gd rfl rfl <| .yv (.load rfl Fx.agg3 (.head _) rfl) rfl <| .gd rfl rfl <| .yv (.leq rfl rfl) rfl <| .yv (.pickT rfl rfl) rfl <| .m rfl rfl <| .b2 (fun h13 => ?_) (fun h13 => ?_)
   ·try simp only [dt] at h13
    refine .gd rfl rfl <| .yv (.fieldAddr rfl Fx.field51_1) rfl <| .gd rfl rfl <| .yv (.load rfl Fx.agg9 (.head _) rfl) rfl <| .gd rfl rfl <| .yv (.call Fx.call68 rfl (fun W s => isNameR_any H nm hnm W s.agr)) rfl <| .gd rfl rfl <| .yv (.not rfl) rfl <| .yv (.pickT rfl rfl) rfl <| .nt <| .cd rfl (fun h18 => ?_) (fun h18 => ?_)
    ·skip
     refine .sr <| .a rfl rfl <| .nt <| .rt <| .tR <| ?_
     refine Sx.ret1 (.inl rfl) rfl (.tmp rfl) fun W s => ⟨retB ?_, s.ext⟩
     first
       | (rw [all_mk, show namE (.mk op nm nn args) = false from Bool.eq_false_iff.2 fun e => (nam_iff op nm nn args).1 e ⟨⟨by omega, by omega⟩, by simpa using h18⟩]; simp)
       | (rw [all_mk, alls_bad hk (by simpa using h28)]; simp)
       | (rw [all_mk, hal, Bool.and_true, show namE (.mk op nm nn args) = true from (nam_iff op nm nn args).2 (by rintro ⟨⟨a, b⟩, d⟩; first | omega | (simp [d] at h18))])
    skip
    refine .sk <| .tN <| .sq <| .sr <| .yv (.fieldAddr rfl Fx.field51_3) rfl <| .yv (.load rfl Fx.agg49 (.head _) rfl) rfl <| .yv (.lenSl Fx.sl49 rfl) rfl <| .m rfl rfl <| .nt <| .bk <| .lp (X := Nat) [(20, _), (21, _)] ⟨rfl, rfl, trivial⟩ [_] (fun k => [(22, .int .i64 (k : Nat))]) (fun k => H) (fun k => []) (fun k => k ≤ args.length ∧ Ex.alls namE (args.take k) = true) (fun k => args.length - k) 0 (fun _ s => s) ⟨rfl, trivial⟩ ⟨by omega, rfl⟩ fun k hC => ?_
    obtain ⟨hk0, hal⟩ := hC
    refine .sr <| .yv (.lss rfl rfl) rfl <| .nt <| .sq <| .cd rfl (fun h23 => ?_) (fun h23 => ?_)
    ·try simp only [dt] at h23
     have hk : k < args.length := by omega
     obtain ⟨bE, oE, cE, hpE, rE, lE, mE⟩ := hs.elem (map_at hk)
     cases hpE
     refine .sk <| .tN <| .sq <| .bk <| .sr <| .yv (.indexSl Fx.sl49 rfl rfl rfl (by omega) (q := oE + k * 4) rfl) rfl <| .yv (.loadMW rfl Fx.agg51 mE lE) rfl <| .al Fx.zero51 rfl fun b4 => .sV .head rfl rfl Fx.size51 lE rE.one rfl <| .ns <| .yv (.loadW rfl Fx.agg51 (.head _) lE) rfl <| .yv (.call Fx.call104 rfl (fun W s => ih _ (List.getElem_mem hk) cE W rE s.agr)) rfl <| .yv (.not rfl) rfl <| .nt <| .cd rfl (fun h28 => ?_) (fun h28 => ?_)
     ·skip
      refine .sr <| .a rfl rfl <| .nt <| .rt <| .bR <| .tR <| .tR <| .bR <| .tR <| ?_
      refine Sx.ret1 (.inl rfl) rfl (.tmp rfl) fun W s => ⟨retB ?_, s.ext⟩
      first
        | (rw [all_mk, show namE (.mk op nm nn args) = false from Bool.eq_false_iff.2 fun e => (nam_iff op nm nn args).1 e ⟨⟨by omega, by omega⟩, by simpa using h18⟩]; simp)
        | (rw [all_mk, alls_bad hk (by simpa using h28)]; simp)
        | (rw [all_mk, hal, Bool.and_true, show namE (.mk op nm nn args) = true from (nam_iff op nm nn args).2 (by rintro ⟨⟨a, b⟩, d⟩; first | omega | (simp [d] at h18))])
     skip
     exact .sk <| .bN <| .tN <| .rg <| .yv (.add rfl rfl (w6 (by omega))) rfl <| .m rfl rfl <| .nt <| .ag (k + 1) ⟨rfl, trivial⟩ ⟨rfl, rfl, trivial⟩ (fun _ s => s.pick [1] [_] rfl rfl) ⟨by omega, by rw [alls_succ hk, hal]; simpa using h28⟩ (by omega)
    try simp only [df] at h23
    obtain rfl : k = args.length := by omega
    rw [List.take_length] at hal
    refine .ex <| .tE <| .tE <| .bE <| .tN <| .sr <| .a rfl rfl <| .nt <| .rt <| ?_
    refine Sx.ret1 (.inl rfl) rfl (.tmp rfl) fun W s => ⟨retB ?_, s.ext⟩
    first
      | (rw [all_mk, show namE (.mk op nm nn args) = false from Bool.eq_false_iff.2 fun e => (nam_iff op nm nn args).1 e ⟨⟨by omega, by omega⟩, by simpa using h18⟩]; simp)
      | (rw [all_mk, alls_bad hk (by simpa using h28)]; simp)
      | (rw [all_mk, hal, Bool.and_true, show namE (.mk op nm nn args) = true from (nam_iff op nm nn args).2 (by rintro ⟨⟨a, b⟩, d⟩; first | omega | (simp [d] at h18))])
   try simp only [df] at h13
   refine .gF rfl rfl rfl rfl <| .gF rfl rfl rfl rfl <| .gF rfl rfl rfl rfl <| .gF rfl rfl rfl rfl <| .yv (.pickF rfl rfl) rfl <| .nt <| .cF rfl <| .sk <| .tN <| .sq <| .sr <| .yv (.fieldAddr rfl Fx.field51_3) rfl <| .yv (.load rfl Fx.agg49 (.head _) rfl) rfl <| .yv (.lenSl Fx.sl49 rfl) rfl <| .m rfl rfl <| .nt <| .bk <| .lp (X := Nat) [(20, _), (21, _)] ⟨rfl, rfl, trivial⟩ [_] (fun k => [(22, .int .i64 (k : Nat))]) (fun k => H) (fun k => []) (fun k => k ≤ args.length ∧ Ex.alls namE (args.take k) = true) (fun k => args.length - k) 0 (fun _ s => s) ⟨rfl, trivial⟩ ⟨by omega, rfl⟩ fun k hC => ?_
   obtain ⟨hk0, hal⟩ := hC
   refine .sr <| .yv (.lss rfl rfl) rfl <| .nt <| .sq <| .cd rfl (fun h23 => ?_) (fun h23 => ?_)
   ·try simp only [dt] at h23
    have hk : k < args.length := by omega
    obtain ⟨bE, oE, cE, hpE, rE, lE, mE⟩ := hs.elem (map_at hk)
    cases hpE
    refine .sk <| .tN <| .sq <| .bk <| .sr <| .yv (.indexSl Fx.sl49 rfl rfl rfl (by omega) (q := oE + k * 4) rfl) rfl <| .yv (.loadMW rfl Fx.agg51 mE lE) rfl <| .al Fx.zero51 rfl fun b4 => .sV .head rfl rfl Fx.size51 lE rE.one rfl <| .ns <| .yv (.loadW rfl Fx.agg51 (.head _) lE) rfl <| .yv (.call Fx.call104 rfl (fun W s => ih _ (List.getElem_mem hk) cE W rE s.agr)) rfl <| .yv (.not rfl) rfl <| .nt <| .cd rfl (fun h28 => ?_) (fun h28 => ?_)
    ·skip
     refine .sr <| .a rfl rfl <| .nt <| .rt <| .bR <| .tR <| .tR <| .bR <| .tR <| ?_
     refine Sx.ret1 (.inl rfl) rfl (.tmp rfl) fun W s => ⟨retB ?_, s.ext⟩
     first
       | (rw [all_mk, show namE (.mk op nm nn args) = false from Bool.eq_false_iff.2 fun e => (nam_iff op nm nn args).1 e ⟨⟨by omega, by omega⟩, by simpa using h18⟩]; simp)
       | (rw [all_mk, alls_bad hk (by simpa using h28)]; simp)
       | (rw [all_mk, hal, Bool.and_true, show namE (.mk op nm nn args) = true from (nam_iff op nm nn args).2 (by rintro ⟨⟨a, b⟩, d⟩; first | omega | (simp [d] at h18))])
    skip
    exact .sk <| .bN <| .tN <| .rg <| .yv (.add rfl rfl (w6 (by omega))) rfl <| .m rfl rfl <| .nt <| .ag (k + 1) ⟨rfl, trivial⟩ ⟨rfl, rfl, trivial⟩ (fun _ s => s.pick [1] [_] rfl rfl) ⟨by omega, by rw [alls_succ hk, hal]; simpa using h28⟩ (by omega)
   try simp only [df] at h23
   obtain rfl : k = args.length := by omega
   rw [List.take_length] at hal
   refine .ex <| .tE <| .tE <| .bE <| .tN <| .sr <| .a rfl rfl <| .nt <| .rt <| ?_
   refine Sx.ret1 (.inl rfl) rfl (.tmp rfl) fun W s => ⟨retB ?_, s.ext⟩
   first
     | (rw [all_mk, show namE (.mk op nm nn args) = false from Bool.eq_false_iff.2 fun e => (nam_iff op nm nn args).1 e ⟨⟨by omega, by omega⟩, by simpa using h18⟩]; simp)
     | (rw [all_mk, alls_bad hk (by simpa using h28)]; simp)
     | (rw [all_mk, hal, Bool.and_true, show namE (.mk op nm nn args) = true from (nam_iff op nm nn args).2 (by rintro ⟨⟨a, b⟩, d⟩; first | omega | (simp [d] at h18))])
  try simp only [df] at h8
  refine .gF rfl rfl rfl rfl <| .gF rfl rfl rfl rfl <| .gF rfl rfl rfl rfl <| .yv (.pickF rfl rfl) rfl <| .m rfl rfl <| .gF rfl rfl rfl rfl <| .gF rfl rfl rfl rfl <| .gF rfl rfl rfl rfl <| .gF rfl rfl rfl rfl <| .yv (.pickF rfl rfl) rfl <| .nt <| .cF rfl <| .sk <| .tN <| .sq <| .sr <| .yv (.fieldAddr rfl Fx.field51_3) rfl <| .yv (.load rfl Fx.agg49 (.head _) rfl) rfl <| .yv (.lenSl Fx.sl49 rfl) rfl <| .m rfl rfl <| .nt <| .bk <| .lp (X := Nat) [(20, _), (21, _)] ⟨rfl, rfl, trivial⟩ [_] (fun k => [(22, .int .i64 (k : Nat))]) (fun k => H) (fun k => []) (fun k => k ≤ args.length ∧ Ex.alls namE (args.take k) = true) (fun k => args.length - k) 0 (fun _ s => s) ⟨rfl, trivial⟩ ⟨by omega, rfl⟩ fun k hC => ?_
  obtain ⟨hk0, hal⟩ := hC
  refine .sr <| .yv (.lss rfl rfl) rfl <| .nt <| .sq <| .cd rfl (fun h23 => ?_) (fun h23 => ?_)
  ·try simp only [dt] at h23
   have hk : k < args.length := by omega
   obtain ⟨bE, oE, cE, hpE, rE, lE, mE⟩ := hs.elem (map_at hk)
   cases hpE
   refine .sk <| .tN <| .sq <| .bk <| .sr <| .yv (.indexSl Fx.sl49 rfl rfl rfl (by omega) (q := oE + k * 4) rfl) rfl <| .yv (.loadMW rfl Fx.agg51 mE lE) rfl <| .al Fx.zero51 rfl fun b4 => .sV .head rfl rfl Fx.size51 lE rE.one rfl <| .ns <| .yv (.loadW rfl Fx.agg51 (.head _) lE) rfl <| .yv (.call Fx.call104 rfl (fun W s => ih _ (List.getElem_mem hk) cE W rE s.agr)) rfl <| .yv (.not rfl) rfl <| .nt <| .cd rfl (fun h28 => ?_) (fun h28 => ?_)
   ·skip
    refine .sr <| .a rfl rfl <| .nt <| .rt <| .bR <| .tR <| .tR <| .bR <| .tR <| ?_
    refine Sx.ret1 (.inl rfl) rfl (.tmp rfl) fun W s => ⟨retB ?_, s.ext⟩
    first
      | (rw [all_mk, show namE (.mk op nm nn args) = false from Bool.eq_false_iff.2 fun e => (nam_iff op nm nn args).1 e ⟨⟨by omega, by omega⟩, by simpa using h18⟩]; simp)
      | (rw [all_mk, alls_bad hk (by simpa using h28)]; simp)
      | (rw [all_mk, hal, Bool.and_true, show namE (.mk op nm nn args) = true from (nam_iff op nm nn args).2 (by rintro ⟨⟨a, b⟩, d⟩; first | omega | (simp [d] at h18))])
   skip
   exact .sk <| .bN <| .tN <| .rg <| .yv (.add rfl rfl (w6 (by omega))) rfl <| .m rfl rfl <| .nt <| .ag (k + 1) ⟨rfl, trivial⟩ ⟨rfl, rfl, trivial⟩ (fun _ s => s.pick [1] [_] rfl rfl) ⟨by omega, by rw [alls_succ hk, hal]; simpa using h28⟩ (by omega)
  try simp only [df] at h23
  obtain rfl : k = args.length := by omega
  rw [List.take_length] at hal
  refine .ex <| .tE <| .tE <| .bE <| .tN <| .sr <| .a rfl rfl <| .nt <| .rt <| ?_
  refine Sx.ret1 (.inl rfl) rfl (.tmp rfl) fun W s => ⟨retB ?_, s.ext⟩
  first
    | (rw [all_mk, show namE (.mk op nm nn args) = false from Bool.eq_false_iff.2 fun e => (nam_iff op nm nn args).1 e ⟨⟨by omega, by omega⟩, by simpa using h18⟩]; simp)
    | (rw [all_mk, alls_bad hk (by simpa using h28)]; simp)
    | (rw [all_mk, hal, Bool.and_true, show namE (.mk op nm nn args) = true from (nam_iff op nm nn args).2 (by rintro ⟨⟨a, b⟩, d⟩; first | omega | (simp [d] at h18))])
theorem frm_iff (op : UInt8) (nm : Str) (n : Int64) (args : List Ex) : frmE (.mk op nm n args) = true ↔ ¬ (¬ arR op.toNat = (args.length : Int)) ∧ ¬ (¬ ((op.toNat : Int) = 1) ∧ ¬ n.toInt = 0) ∧ ¬ n.toInt < 0 ∧ ¬ (((op.toNat : Int) < 5 ∨ 8 < (op.toNat : Int)) ∧ ¬ nm = []) := by
  rw [arR_ok, frmE, shape_nm]
  simp only [Bool.and_eq_true, Bool.or_eq_true, decide_eq_true_eq]
  have h1 : op = 1 ↔ (op.toNat : Int) = 1 := ⟨fun e => by rw [e]; rfl, fun e => UInt8.toNat_inj.1 (by show op.toNat = 1; omega)⟩
  cases ho : okOp op with
  | false =>
    simp only [Bool.false_eq_true, if_false, false_and, false_iff]
    intro h; omega
  | true =>
    simp only [if_true, true_and]
    by_cases e1 : op = 1
    · simp only [if_pos e1, decide_eq_true_eq]
      have := h1.1 e1
      constructor
      · rintro ⟨⟨a, b⟩, c⟩
        refine ⟨by omega, by omega, by omega, ?_⟩
        rintro ⟨d1, d2⟩
        rcases b with b | b
        · omega
        · exact d2 b
      · rintro ⟨a, b, c, d⟩
        refine ⟨⟨by omega, ?_⟩, by omega⟩
        by_cases hn : nm = []
        · exact .inr hn
        · exact absurd ⟨.inl (by omega), hn⟩ d
    · simp only [if_neg e1, decide_eq_true_eq]
      have : ¬ (op.toNat : Int) = 1 := fun e => e1 (h1.2 e)
      constructor
      · rintro ⟨⟨a, b⟩, c⟩
        refine ⟨by omega, by omega, by omega, ?_⟩
        rintro ⟨d1, d2⟩
        rcases b with b | b
        · omega
        · exact d2 b
      · rintro ⟨a, b, c, d⟩
        refine ⟨⟨by omega, ?_⟩, by omega⟩
        by_cases hn : nm = []
        · exact .inr hn
        · by_cases h5 : (op.toNat : Int) < 5 ∨ 8 < (op.toNat : Int)
          · exact absurd ⟨h5, hn⟩ d
          · exact .inl (by omega)
set_option maxRecDepth 100000 in
theorem exprForm_any (H : Hp) (e : Ex) : ∀ (cs : List Value) (w : World), Rep H (dEx .i64 e) cs → Agr H w →
    Calls Tryz.prog 106 #[.agg cs.toArray] w fun r w' => r = .returned (.bool (e.all frmE)) ∧ Ext w w' := by
  induction e using Ex.ind with | _ op nm nn args ih
  intro cs w h hA
  obtain ⟨p, c, rfl, hs, hnm⟩ := ex_open h
  have hcap := hs.cap
  skip
  refine Sx.enter (H := H) Tryz.func106 rfl Tryz.ntmps106 rfl hA ?_
  refine .sr <| .bx rfl rfl rfl fun b1 => .a rfl rfl <| .nt <| .sq <| .sq <| .fl (trip := [(_, _, _), (_, _, _), (_, _, _), (_, _, _), (_, _, _), (_, _, _), (_, _, _), (_, _, _), (_, _, _), (_, _, _), (_, _, _), (_, _, _), (_, _, _), (_, _, _), (_, _, _), (_, _, _), (_, _, _), (_, _, _), (_, _, _), (_, _, _), (_, _, _), (_, _, _), (_, _, _), (_, _, _), (_, _, _), (_, _, _), (_, _, _), (_, _, _), (_, _, _), (_, _, _), (_, _, _), (_, _, _), (_, _, _), (_, _, _), (_, _, _), (_, _, _)]) 36 [(0, 0), (1, 0), (2, 0), (3, 0), (4, 0), (5, 0), (6, 0), (7, 0), (8, 0), (9, 0), (10, 0), (11, 0), (12, 0), (13, 0), (14, 0), (15, 0), (16, 0), (17, 0), (18, 0), (19, 0), (20, 0), (21, 0), (22, 0), (23, 0), (24, 0), (25, 0), (26, 0), (27, 0), (28, 0), (29, 0), (30, 0), (31, 0), (32, 0), (33, 0), (34, 0), (35, 0)] (by kernel_rfl) (by kernel_rfl) rfl <| .yv (.fieldAddr rfl Fx.field51_0) rfl <| .yv (.load rfl Fx.agg3 (.head _) rfl) rfl <| .yv (.call Fx.call86 rfl (fun W s => arity_any H op.toNat W s.agr)) rfl <| .yv (.fieldAddr rfl Fx.field51_3) rfl <| .yv (.load rfl Fx.agg49 (.head _) rfl) rfl <| .yv (.lenSl Fx.sl49 rfl) rfl <| .yv (.neq rfl rfl) rfl <| .m rfl rfl <| .b2 (fun h12 => ?_) (fun h12 => ?_)
  ·try simp only [dt] at h12
   refine .gF rfl rfl rfl rfl <| .gF rfl rfl rfl rfl <| .gF rfl rfl rfl rfl <| .gF rfl rfl rfl rfl <| .gU rfl rfl rfl <| .gU rfl rfl rfl <| .gU rfl rfl rfl <| .gF rfl rfl rfl rfl <| .yv (.pickT rfl rfl) rfl <| .m rfl rfl <| .gF rfl rfl rfl rfl <| .gF rfl rfl rfl rfl <| .gF rfl rfl rfl rfl <| .yv (.pickT rfl rfl) rfl <| .m rfl rfl <| .gF rfl rfl rfl rfl <| .gF rfl rfl rfl rfl <| .gF rfl rfl rfl rfl <| .gF rfl rfl rfl rfl <| .gU rfl rfl rfl <| .gU rfl rfl rfl <| .gU rfl rfl rfl <| .gF rfl rfl rfl rfl <| .gF rfl rfl rfl rfl <| .gU rfl rfl rfl <| .gU rfl rfl rfl <| .gU rfl rfl rfl <| .gF rfl rfl rfl rfl <| .fn (tl := [_]) rfl <| .yv (.pickT rfl rfl) rfl <| .nt <| .cT rfl <| .sr <| .a rfl rfl <| .nt <| .rt <| .tR <| ?_
   refine Sx.ret1 (.inl rfl) rfl (.tmp rfl) fun W s => ⟨retB ?_, s.ext⟩
   first
     | (rw [all_mk, show frmE (.mk op nm nn args) = false from Bool.eq_false_iff.2 fun e => by rw [frm_iff] at e; first | (exact e.1 (by assumption)) | (exact e.2.1 ⟨by assumption, by assumption⟩) | (exact e.2.2.1 (by assumption)) | (exact e.2.2.2 ⟨by omega, by assumption⟩)]; simp)
     | (rw [all_mk, alls_bad hk (by simpa using h51)]; simp)
     | (rw [all_mk, hal, Bool.and_true, show frmE (.mk op nm nn args) = true by rw [frm_iff]; exact ⟨by assumption, by omega, by omega, by first | (rintro ⟨_, _⟩; omega) | (rintro ⟨_, _⟩; contradiction)⟩])
  try simp only [df] at h12
  refine .yg rfl rfl (.fieldAddr rfl Fx.field51_0) rfl <| .yg rfl rfl (.load rfl Fx.agg3 (.head _) rfl) rfl <| .yg rfl rfl (.neq rfl rfl) rfl <| .yg rfl rfl (.move rfl) rfl <| .b2 (fun h16 => ?_) (fun h16 => ?_)
  ·try simp only [dt] at h16
   refine .yg rfl rfl (.fieldAddr rfl Fx.field51_2) rfl <| .yg rfl rfl (.load rfl Fx.agg2 (.head _) rfl) rfl <| .yg rfl rfl (.neq rfl rfl) rfl <| .yg rfl rfl (.pickT rfl rfl) rfl <| .yv (.pickF rfl rfl) rfl <| .m rfl rfl <| .b2 (fun h22 => ?_) (fun h22 => ?_)
   ·try simp only [dt] at h22
    refine .gF rfl rfl rfl rfl <| .gF rfl rfl rfl rfl <| .gF rfl rfl rfl rfl <| .yv (.pickT rfl rfl) rfl <| .m rfl rfl <| .gF rfl rfl rfl rfl <| .gF rfl rfl rfl rfl <| .gF rfl rfl rfl rfl <| .gF rfl rfl rfl rfl <| .gU rfl rfl rfl <| .gU rfl rfl rfl <| .gU rfl rfl rfl <| .gF rfl rfl rfl rfl <| .gF rfl rfl rfl rfl <| .gU rfl rfl rfl <| .gU rfl rfl rfl <| .gU rfl rfl rfl <| .gF rfl rfl rfl rfl <| .fn (tl := [_]) rfl <| .yv (.pickT rfl rfl) rfl <| .nt <| .cT rfl <| .sr <| .a rfl rfl <| .nt <| .rt <| .tR <| ?_
    refine Sx.ret1 (.inl rfl) rfl (.tmp rfl) fun W s => ⟨retB ?_, s.ext⟩
    first
      | (rw [all_mk, show frmE (.mk op nm nn args) = false from Bool.eq_false_iff.2 fun e => by rw [frm_iff] at e; first | (exact e.1 (by assumption)) | (exact e.2.1 ⟨by assumption, by assumption⟩) | (exact e.2.2.1 (by assumption)) | (exact e.2.2.2 ⟨by omega, by assumption⟩)]; simp)
      | (rw [all_mk, alls_bad hk (by simpa using h51)]; simp)
      | (rw [all_mk, hal, Bool.and_true, show frmE (.mk op nm nn args) = true by rw [frm_iff]; exact ⟨by assumption, by omega, by omega, by first | (rintro ⟨_, _⟩; omega) | (rintro ⟨_, _⟩; contradiction)⟩])
   try simp only [df] at h22
   refine .yg rfl rfl (.fieldAddr rfl Fx.field51_2) rfl <| .yg rfl rfl (.load rfl Fx.agg2 (.head _) rfl) rfl <| .yg rfl rfl (.lss rfl rfl) rfl <| .yv (.pickF rfl rfl) rfl <| .m rfl rfl <| .b2 (fun h27 => ?_) (fun h27 => ?_)
   ·try simp only [dt] at h27
    refine .gF rfl rfl rfl rfl <| .gF rfl rfl rfl rfl <| .gF rfl rfl rfl rfl <| .gF rfl rfl rfl rfl <| .gU rfl rfl rfl <| .gU rfl rfl rfl <| .gU rfl rfl rfl <| .gF rfl rfl rfl rfl <| .gF rfl rfl rfl rfl <| .gU rfl rfl rfl <| .gU rfl rfl rfl <| .gU rfl rfl rfl <| .gF rfl rfl rfl rfl <| .fn (tl := [_]) rfl <| .yv (.pickT rfl rfl) rfl <| .nt <| .cT rfl <| .sr <| .a rfl rfl <| .nt <| .rt <| .tR <| ?_
    refine Sx.ret1 (.inl rfl) rfl (.tmp rfl) fun W s => ⟨retB ?_, s.ext⟩
    first
      | (rw [all_mk, show frmE (.mk op nm nn args) = false from Bool.eq_false_iff.2 fun e => by rw [frm_iff] at e; first | (exact e.1 (by assumption)) | (exact e.2.1 ⟨by assumption, by assumption⟩) | (exact e.2.2.1 (by assumption)) | (exact e.2.2.2 ⟨by omega, by assumption⟩)]; simp)
      | (rw [all_mk, alls_bad hk (by simpa using h51)]; simp)
      | (rw [all_mk, hal, Bool.and_true, show frmE (.mk op nm nn args) = true by rw [frm_iff]; exact ⟨by assumption, by omega, by omega, by first | (rintro ⟨_, _⟩; omega) | (rintro ⟨_, _⟩; contradiction)⟩])
   try simp only [df] at h27
   refine .yg rfl rfl (.fieldAddr rfl Fx.field51_0) rfl <| .yg rfl rfl (.load rfl Fx.agg3 (.head _) rfl) rfl <| .yg rfl rfl (.lss rfl rfl) rfl <| .yg rfl rfl (.move rfl) rfl <| .b2 (fun h31 => ?_) (fun h31 => ?_)
   ·try simp only [dt] at h31
    refine .gF rfl rfl rfl rfl <| .gF rfl rfl rfl rfl <| .gF rfl rfl rfl rfl <| .yg rfl rfl (.pickT rfl rfl) rfl <| .yg rfl rfl (.move rfl) rfl <| .yg rfl rfl (.fieldAddr rfl Fx.field51_1) rfl <| .yg rfl rfl (.load rfl Fx.agg9 (.head _) rfl) rfl <| .yg rfl rfl (.neS rfl rfl) rfl <| .yg rfl rfl (.pickT rfl rfl) rfl <| .fn (tl := [_]) rfl <| .yv (.pickF rfl rfl) rfl <| .nt <| .cd rfl (fun h41 => ?_) (fun h41 => ?_)
    ·try simp only [dt] at h41
     skip
     refine .sr <| .a rfl rfl <| .nt <| .rt <| .tR <| ?_
     refine Sx.ret1 (.inl rfl) rfl (.tmp rfl) fun W s => ⟨retB ?_, s.ext⟩
     first
       | (rw [all_mk, show frmE (.mk op nm nn args) = false from Bool.eq_false_iff.2 fun e => by rw [frm_iff] at e; first | (exact e.1 (by assumption)) | (exact e.2.1 ⟨by assumption, by assumption⟩) | (exact e.2.2.1 (by assumption)) | (exact e.2.2.2 ⟨by omega, by assumption⟩)]; simp)
       | (rw [all_mk, alls_bad hk (by simpa using h51)]; simp)
       | (rw [all_mk, hal, Bool.and_true, show frmE (.mk op nm nn args) = true by rw [frm_iff]; exact ⟨by assumption, by omega, by omega, by first | (rintro ⟨_, _⟩; omega) | (rintro ⟨_, _⟩; contradiction)⟩])
    try simp only [df] at h41
    skip
    refine .sk <| .tN <| .sq <| .sr <| .yv (.fieldAddr rfl Fx.field51_3) rfl <| .yv (.load rfl Fx.agg49 (.head _) rfl) rfl <| .yv (.lenSl Fx.sl49 rfl) rfl <| .m rfl rfl <| .nt <| .bk <| .lp (X := Nat) [(43, _), (44, _)] ⟨rfl, rfl, trivial⟩ [_] (fun k => [(45, .int .i64 (k : Nat))]) (fun k => H) (fun k => []) (fun k => k ≤ args.length ∧ Ex.alls frmE (args.take k) = true) (fun k => args.length - k) 0 (fun _ s => s) ⟨rfl, trivial⟩ ⟨by omega, rfl⟩ fun k hC => ?_
    obtain ⟨hk0, hal⟩ := hC
    refine .sr <| .yv (.lss rfl rfl) rfl <| .nt <| .sq <| .cd rfl (fun h46 => ?_) (fun h46 => ?_)
    ·try simp only [dt] at h46
     have hk : k < args.length := by omega
     obtain ⟨bE, oE, cE, hpE, rE, lE, mE⟩ := hs.elem (map_at hk)
     cases hpE
     refine .sk <| .tN <| .sq <| .bk <| .sr <| .yv (.indexSl Fx.sl49 rfl rfl rfl (by omega) (q := oE + k * 4) rfl) rfl <| .yv (.loadMW rfl Fx.agg51 mE lE) rfl <| .al Fx.zero51 rfl fun b4 => .sV .head rfl rfl Fx.size51 lE rE.one rfl <| .ns <| .yv (.loadW rfl Fx.agg51 (.head _) lE) rfl <| .yv (.call Fx.call106 rfl (fun W s => ih _ (List.getElem_mem hk) cE W rE s.agr)) rfl <| .yv (.not rfl) rfl <| .nt <| .cd rfl (fun h51 => ?_) (fun h51 => ?_)
     ·skip
      refine .sr <| .a rfl rfl <| .nt <| .rt <| .bR <| .tR <| .tR <| .bR <| .tR <| ?_
      refine Sx.ret1 (.inl rfl) rfl (.tmp rfl) fun W s => ⟨retB ?_, s.ext⟩
      first
        | (rw [all_mk, show frmE (.mk op nm nn args) = false from Bool.eq_false_iff.2 fun e => by rw [frm_iff] at e; first | (exact e.1 (by assumption)) | (exact e.2.1 ⟨by assumption, by assumption⟩) | (exact e.2.2.1 (by assumption)) | (exact e.2.2.2 ⟨by omega, by assumption⟩)]; simp)
        | (rw [all_mk, alls_bad hk (by simpa using h51)]; simp)
        | (rw [all_mk, hal, Bool.and_true, show frmE (.mk op nm nn args) = true by rw [frm_iff]; exact ⟨by assumption, by omega, by omega, by first | (rintro ⟨_, _⟩; omega) | (rintro ⟨_, _⟩; contradiction)⟩])
     skip
     exact .sk <| .bN <| .tN <| .rg <| .yv (.add rfl rfl (w6 (by omega))) rfl <| .m rfl rfl <| .nt <| .ag (k + 1) ⟨rfl, trivial⟩ ⟨rfl, rfl, trivial⟩ (fun _ s => s.pick [1] [_] rfl rfl) ⟨by omega, by rw [alls_succ hk, hal]; simpa using h51⟩ (by omega)
    try simp only [df] at h46
    obtain rfl : k = args.length := by omega
    rw [List.take_length] at hal
    refine .ex <| .tE <| .tE <| .bE <| .tN <| .sr <| .a rfl rfl <| .nt <| .rt <| ?_
    refine Sx.ret1 (.inl rfl) rfl (.tmp rfl) fun W s => ⟨retB ?_, s.ext⟩
    first
      | (rw [all_mk, show frmE (.mk op nm nn args) = false from Bool.eq_false_iff.2 fun e => by rw [frm_iff] at e; first | (exact e.1 (by assumption)) | (exact e.2.1 ⟨by assumption, by assumption⟩) | (exact e.2.2.1 (by assumption)) | (exact e.2.2.2 ⟨by omega, by assumption⟩)]; simp)
      | (rw [all_mk, alls_bad hk (by simpa using h51)]; simp)
      | (rw [all_mk, hal, Bool.and_true, show frmE (.mk op nm nn args) = true by rw [frm_iff]; exact ⟨by assumption, by omega, by omega, by first | (rintro ⟨_, _⟩; omega) | (rintro ⟨_, _⟩; contradiction)⟩])
   try simp only [df] at h31
   refine .yg rfl rfl (.fieldAddr rfl Fx.field51_0) rfl <| .yg rfl rfl (.load rfl Fx.agg3 (.head _) rfl) rfl <| .yg rfl rfl (.gtr rfl rfl) rfl <| .yg rfl rfl (.pickF rfl rfl) rfl <| .yg rfl rfl (.move rfl) rfl <| .b2 (fun h36 => ?_) (fun h36 => ?_)
   ·try simp only [dt] at h36
    refine .yg rfl rfl (.fieldAddr rfl Fx.field51_1) rfl <| .yg rfl rfl (.load rfl Fx.agg9 (.head _) rfl) rfl <| .yg rfl rfl (.neS rfl rfl) rfl <| .yg rfl rfl (.pickT rfl rfl) rfl <| .fn (tl := [_]) rfl <| .yv (.pickF rfl rfl) rfl <| .nt <| .cd rfl (fun h41 => ?_) (fun h41 => ?_)
    ·try simp only [dt] at h41
     skip
     refine .sr <| .a rfl rfl <| .nt <| .rt <| .tR <| ?_
     refine Sx.ret1 (.inl rfl) rfl (.tmp rfl) fun W s => ⟨retB ?_, s.ext⟩
     first
       | (rw [all_mk, show frmE (.mk op nm nn args) = false from Bool.eq_false_iff.2 fun e => by rw [frm_iff] at e; first | (exact e.1 (by assumption)) | (exact e.2.1 ⟨by assumption, by assumption⟩) | (exact e.2.2.1 (by assumption)) | (exact e.2.2.2 ⟨by omega, by assumption⟩)]; simp)
       | (rw [all_mk, alls_bad hk (by simpa using h51)]; simp)
       | (rw [all_mk, hal, Bool.and_true, show frmE (.mk op nm nn args) = true by rw [frm_iff]; exact ⟨by assumption, by omega, by omega, by first | (rintro ⟨_, _⟩; omega) | (rintro ⟨_, _⟩; contradiction)⟩])
    try simp only [df] at h41
    skip
    refine .sk <| .tN <| .sq <| .sr <| .yv (.fieldAddr rfl Fx.field51_3) rfl <| .yv (.load rfl Fx.agg49 (.head _) rfl) rfl <| .yv (.lenSl Fx.sl49 rfl) rfl <| .m rfl rfl <| .nt <| .bk <| .lp (X := Nat) [(43, _), (44, _)] ⟨rfl, rfl, trivial⟩ [_] (fun k => [(45, .int .i64 (k : Nat))]) (fun k => H) (fun k => []) (fun k => k ≤ args.length ∧ Ex.alls frmE (args.take k) = true) (fun k => args.length - k) 0 (fun _ s => s) ⟨rfl, trivial⟩ ⟨by omega, rfl⟩ fun k hC => ?_
    obtain ⟨hk0, hal⟩ := hC
    refine .sr <| .yv (.lss rfl rfl) rfl <| .nt <| .sq <| .cd rfl (fun h46 => ?_) (fun h46 => ?_)
    ·try simp only [dt] at h46
     have hk : k < args.length := by omega
     obtain ⟨bE, oE, cE, hpE, rE, lE, mE⟩ := hs.elem (map_at hk)
     cases hpE
     refine .sk <| .tN <| .sq <| .bk <| .sr <| .yv (.indexSl Fx.sl49 rfl rfl rfl (by omega) (q := oE + k * 4) rfl) rfl <| .yv (.loadMW rfl Fx.agg51 mE lE) rfl <| .al Fx.zero51 rfl fun b4 => .sV .head rfl rfl Fx.size51 lE rE.one rfl <| .ns <| .yv (.loadW rfl Fx.agg51 (.head _) lE) rfl <| .yv (.call Fx.call106 rfl (fun W s => ih _ (List.getElem_mem hk) cE W rE s.agr)) rfl <| .yv (.not rfl) rfl <| .nt <| .cd rfl (fun h51 => ?_) (fun h51 => ?_)
     ·skip
      refine .sr <| .a rfl rfl <| .nt <| .rt <| .bR <| .tR <| .tR <| .bR <| .tR <| ?_
      refine Sx.ret1 (.inl rfl) rfl (.tmp rfl) fun W s => ⟨retB ?_, s.ext⟩
      first
        | (rw [all_mk, show frmE (.mk op nm nn args) = false from Bool.eq_false_iff.2 fun e => by rw [frm_iff] at e; first | (exact e.1 (by assumption)) | (exact e.2.1 ⟨by assumption, by assumption⟩) | (exact e.2.2.1 (by assumption)) | (exact e.2.2.2 ⟨by omega, by assumption⟩)]; simp)
        | (rw [all_mk, alls_bad hk (by simpa using h51)]; simp)
        | (rw [all_mk, hal, Bool.and_true, show frmE (.mk op nm nn args) = true by rw [frm_iff]; exact ⟨by assumption, by omega, by omega, by first | (rintro ⟨_, _⟩; omega) | (rintro ⟨_, _⟩; contradiction)⟩])
     skip
     exact .sk <| .bN <| .tN <| .rg <| .yv (.add rfl rfl (w6 (by omega))) rfl <| .m rfl rfl <| .nt <| .ag (k + 1) ⟨rfl, trivial⟩ ⟨rfl, rfl, trivial⟩ (fun _ s => s.pick [1] [_] rfl rfl) ⟨by omega, by rw [alls_succ hk, hal]; simpa using h51⟩ (by omega)
    try simp only [df] at h46
    obtain rfl : k = args.length := by omega
    rw [List.take_length] at hal
    refine .ex <| .tE <| .tE <| .bE <| .tN <| .sr <| .a rfl rfl <| .nt <| .rt <| ?_
    refine Sx.ret1 (.inl rfl) rfl (.tmp rfl) fun W s => ⟨retB ?_, s.ext⟩
    first
      | (rw [all_mk, show frmE (.mk op nm nn args) = false from Bool.eq_false_iff.2 fun e => by rw [frm_iff] at e; first | (exact e.1 (by assumption)) | (exact e.2.1 ⟨by assumption, by assumption⟩) | (exact e.2.2.1 (by assumption)) | (exact e.2.2.2 ⟨by omega, by assumption⟩)]; simp)
      | (rw [all_mk, alls_bad hk (by simpa using h51)]; simp)
      | (rw [all_mk, hal, Bool.and_true, show frmE (.mk op nm nn args) = true by rw [frm_iff]; exact ⟨by assumption, by omega, by omega, by first | (rintro ⟨_, _⟩; omega) | (rintro ⟨_, _⟩; contradiction)⟩])
   try simp only [df] at h36
   refine .gF rfl rfl rfl rfl <| .gF rfl rfl rfl rfl <| .gF rfl rfl rfl rfl <| .yg rfl rfl (.pickF rfl rfl) rfl <| .fn (tl := [_]) rfl <| .yv (.pickF rfl rfl) rfl <| .nt <| .cF rfl <| .sk <| .tN <| .sq <| .sr <| .yv (.fieldAddr rfl Fx.field51_3) rfl <| .yv (.load rfl Fx.agg49 (.head _) rfl) rfl <| .yv (.lenSl Fx.sl49 rfl) rfl <| .m rfl rfl <| .nt <| .bk <| .lp (X := Nat) [(43, _), (44, _)] ⟨rfl, rfl, trivial⟩ [_] (fun k => [(45, .int .i64 (k : Nat))]) (fun k => H) (fun k => []) (fun k => k ≤ args.length ∧ Ex.alls frmE (args.take k) = true) (fun k => args.length - k) 0 (fun _ s => s) ⟨rfl, trivial⟩ ⟨by omega, rfl⟩ fun k hC => ?_
   obtain ⟨hk0, hal⟩ := hC
   refine .sr <| .yv (.lss rfl rfl) rfl <| .nt <| .sq <| .cd rfl (fun h46 => ?_) (fun h46 => ?_)
   ·try simp only [dt] at h46
    have hk : k < args.length := by omega
    obtain ⟨bE, oE, cE, hpE, rE, lE, mE⟩ := hs.elem (map_at hk)
    cases hpE
    refine .sk <| .tN <| .sq <| .bk <| .sr <| .yv (.indexSl Fx.sl49 rfl rfl rfl (by omega) (q := oE + k * 4) rfl) rfl <| .yv (.loadMW rfl Fx.agg51 mE lE) rfl <| .al Fx.zero51 rfl fun b4 => .sV .head rfl rfl Fx.size51 lE rE.one rfl <| .ns <| .yv (.loadW rfl Fx.agg51 (.head _) lE) rfl <| .yv (.call Fx.call106 rfl (fun W s => ih _ (List.getElem_mem hk) cE W rE s.agr)) rfl <| .yv (.not rfl) rfl <| .nt <| .cd rfl (fun h51 => ?_) (fun h51 => ?_)
    ·skip
     refine .sr <| .a rfl rfl <| .nt <| .rt <| .bR <| .tR <| .tR <| .bR <| .tR <| ?_
     refine Sx.ret1 (.inl rfl) rfl (.tmp rfl) fun W s => ⟨retB ?_, s.ext⟩
     first
       | (rw [all_mk, show frmE (.mk op nm nn args) = false from Bool.eq_false_iff.2 fun e => by rw [frm_iff] at e; first | (exact e.1 (by assumption)) | (exact e.2.1 ⟨by assumption, by assumption⟩) | (exact e.2.2.1 (by assumption)) | (exact e.2.2.2 ⟨by omega, by assumption⟩)]; simp)
       | (rw [all_mk, alls_bad hk (by simpa using h51)]; simp)
       | (rw [all_mk, hal, Bool.and_true, show frmE (.mk op nm nn args) = true by rw [frm_iff]; exact ⟨by assumption, by omega, by omega, by first | (rintro ⟨_, _⟩; omega) | (rintro ⟨_, _⟩; contradiction)⟩])
    skip
    exact .sk <| .bN <| .tN <| .rg <| .yv (.add rfl rfl (w6 (by omega))) rfl <| .m rfl rfl <| .nt <| .ag (k + 1) ⟨rfl, trivial⟩ ⟨rfl, rfl, trivial⟩ (fun _ s => s.pick [1] [_] rfl rfl) ⟨by omega, by rw [alls_succ hk, hal]; simpa using h51⟩ (by omega)
   try simp only [df] at h46
   obtain rfl : k = args.length := by omega
   rw [List.take_length] at hal
   refine .ex <| .tE <| .tE <| .bE <| .tN <| .sr <| .a rfl rfl <| .nt <| .rt <| ?_
   refine Sx.ret1 (.inl rfl) rfl (.tmp rfl) fun W s => ⟨retB ?_, s.ext⟩
   first
     | (rw [all_mk, show frmE (.mk op nm nn args) = false from Bool.eq_false_iff.2 fun e => by rw [frm_iff] at e; first | (exact e.1 (by assumption)) | (exact e.2.1 ⟨by assumption, by assumption⟩) | (exact e.2.2.1 (by assumption)) | (exact e.2.2.2 ⟨by omega, by assumption⟩)]; simp)
     | (rw [all_mk, alls_bad hk (by simpa using h51)]; simp)
     | (rw [all_mk, hal, Bool.and_true, show frmE (.mk op nm nn args) = true by rw [frm_iff]; exact ⟨by assumption, by omega, by omega, by first | (rintro ⟨_, _⟩; omega) | (rintro ⟨_, _⟩; contradiction)⟩])
  try simp only [df] at h16
  refine .gF rfl rfl rfl rfl <| .gF rfl rfl rfl rfl <| .gF rfl rfl rfl rfl <| .yg rfl rfl (.pickF rfl rfl) rfl <| .yv (.pickF rfl rfl) rfl <| .m rfl rfl <| .yg rfl rfl (.fieldAddr rfl Fx.field51_2) rfl <| .yg rfl rfl (.load rfl Fx.agg2 (.head _) rfl) rfl <| .yg rfl rfl (.lss rfl rfl) rfl <| .yv (.pickF rfl rfl) rfl <| .m rfl rfl <| .b2 (fun h27 => ?_) (fun h27 => ?_)
  ·try simp only [dt] at h27
   refine .gF rfl rfl rfl rfl <| .gF rfl rfl rfl rfl <| .gF rfl rfl rfl rfl <| .gF rfl rfl rfl rfl <| .gU rfl rfl rfl <| .gU rfl rfl rfl <| .gU rfl rfl rfl <| .gF rfl rfl rfl rfl <| .gF rfl rfl rfl rfl <| .gU rfl rfl rfl <| .gU rfl rfl rfl <| .gU rfl rfl rfl <| .gF rfl rfl rfl rfl <| .fn (tl := [_]) rfl <| .yv (.pickT rfl rfl) rfl <| .nt <| .cT rfl <| .sr <| .a rfl rfl <| .nt <| .rt <| .tR <| ?_
   refine Sx.ret1 (.inl rfl) rfl (.tmp rfl) fun W s => ⟨retB ?_, s.ext⟩
   first
     | (rw [all_mk, show frmE (.mk op nm nn args) = false from Bool.eq_false_iff.2 fun e => by rw [frm_iff] at e; first | (exact e.1 (by assumption)) | (exact e.2.1 ⟨by assumption, by assumption⟩) | (exact e.2.2.1 (by assumption)) | (exact e.2.2.2 ⟨by omega, by assumption⟩)]; simp)
     | (rw [all_mk, alls_bad hk (by simpa using h51)]; simp)
     | (rw [all_mk, hal, Bool.and_true, show frmE (.mk op nm nn args) = true by rw [frm_iff]; exact ⟨by assumption, by omega, by omega, by first | (rintro ⟨_, _⟩; omega) | (rintro ⟨_, _⟩; contradiction)⟩])
  try simp only [df] at h27
  refine .yg rfl rfl (.fieldAddr rfl Fx.field51_0) rfl <| .yg rfl rfl (.load rfl Fx.agg3 (.head _) rfl) rfl <| .yg rfl rfl (.lss rfl rfl) rfl <| .yg rfl rfl (.move rfl) rfl <| .b2 (fun h31 => ?_) (fun h31 => ?_)
  ·try simp only [dt] at h31
   refine .gF rfl rfl rfl rfl <| .gF rfl rfl rfl rfl <| .gF rfl rfl rfl rfl <| .yg rfl rfl (.pickT rfl rfl) rfl <| .yg rfl rfl (.move rfl) rfl <| .yg rfl rfl (.fieldAddr rfl Fx.field51_1) rfl <| .yg rfl rfl (.load rfl Fx.agg9 (.head _) rfl) rfl <| .yg rfl rfl (.neS rfl rfl) rfl <| .yg rfl rfl (.pickT rfl rfl) rfl <| .fn (tl := [_]) rfl <| .yv (.pickF rfl rfl) rfl <| .nt <| .cd rfl (fun h41 => ?_) (fun h41 => ?_)
   ·try simp only [dt] at h41
    skip
    refine .sr <| .a rfl rfl <| .nt <| .rt <| .tR <| ?_
    refine Sx.ret1 (.inl rfl) rfl (.tmp rfl) fun W s => ⟨retB ?_, s.ext⟩
    first
      | (rw [all_mk, show frmE (.mk op nm nn args) = false from Bool.eq_false_iff.2 fun e => by rw [frm_iff] at e; first | (exact e.1 (by assumption)) | (exact e.2.1 ⟨by assumption, by assumption⟩) | (exact e.2.2.1 (by assumption)) | (exact e.2.2.2 ⟨by omega, by assumption⟩)]; simp)
      | (rw [all_mk, alls_bad hk (by simpa using h51)]; simp)
      | (rw [all_mk, hal, Bool.and_true, show frmE (.mk op nm nn args) = true by rw [frm_iff]; exact ⟨by assumption, by omega, by omega, by first | (rintro ⟨_, _⟩; omega) | (rintro ⟨_, _⟩; contradiction)⟩])
   try simp only [df] at h41
   skip
   refine .sk <| .tN <| .sq <| .sr <| .yv (.fieldAddr rfl Fx.field51_3) rfl <| .yv (.load rfl Fx.agg49 (.head _) rfl) rfl <| .yv (.lenSl Fx.sl49 rfl) rfl <| .m rfl rfl <| .nt <| .bk <| .lp (X := Nat) [(43, _), (44, _)] ⟨rfl, rfl, trivial⟩ [_] (fun k => [(45, .int .i64 (k : Nat))]) (fun k => H) (fun k => []) (fun k => k ≤ args.length ∧ Ex.alls frmE (args.take k) = true) (fun k => args.length - k) 0 (fun _ s => s) ⟨rfl, trivial⟩ ⟨by omega, rfl⟩ fun k hC => ?_
   obtain ⟨hk0, hal⟩ := hC
   refine .sr <| .yv (.lss rfl rfl) rfl <| .nt <| .sq <| .cd rfl (fun h46 => ?_) (fun h46 => ?_)
   ·try simp only [dt] at h46
    have hk : k < args.length := by omega
    obtain ⟨bE, oE, cE, hpE, rE, lE, mE⟩ := hs.elem (map_at hk)
    cases hpE
    refine .sk <| .tN <| .sq <| .bk <| .sr <| .yv (.indexSl Fx.sl49 rfl rfl rfl (by omega) (q := oE + k * 4) rfl) rfl <| .yv (.loadMW rfl Fx.agg51 mE lE) rfl <| .al Fx.zero51 rfl fun b4 => .sV .head rfl rfl Fx.size51 lE rE.one rfl <| .ns <| .yv (.loadW rfl Fx.agg51 (.head _) lE) rfl <| .yv (.call Fx.call106 rfl (fun W s => ih _ (List.getElem_mem hk) cE W rE s.agr)) rfl <| .yv (.not rfl) rfl <| .nt <| .cd rfl (fun h51 => ?_) (fun h51 => ?_)
    ·skip
     refine .sr <| .a rfl rfl <| .nt <| .rt <| .bR <| .tR <| .tR <| .bR <| .tR <| ?_
     refine Sx.ret1 (.inl rfl) rfl (.tmp rfl) fun W s => ⟨retB ?_, s.ext⟩
     first
       | (rw [all_mk, show frmE (.mk op nm nn args) = false from Bool.eq_false_iff.2 fun e => by rw [frm_iff] at e; first | (exact e.1 (by assumption)) | (exact e.2.1 ⟨by assumption, by assumption⟩) | (exact e.2.2.1 (by assumption)) | (exact e.2.2.2 ⟨by omega, by assumption⟩)]; simp)
       | (rw [all_mk, alls_bad hk (by simpa using h51)]; simp)
       | (rw [all_mk, hal, Bool.and_true, show frmE (.mk op nm nn args) = true by rw [frm_iff]; exact ⟨by assumption, by omega, by omega, by first | (rintro ⟨_, _⟩; omega) | (rintro ⟨_, _⟩; contradiction)⟩])
    skip
    exact .sk <| .bN <| .tN <| .rg <| .yv (.add rfl rfl (w6 (by omega))) rfl <| .m rfl rfl <| .nt <| .ag (k + 1) ⟨rfl, trivial⟩ ⟨rfl, rfl, trivial⟩ (fun _ s => s.pick [1] [_] rfl rfl) ⟨by omega, by rw [alls_succ hk, hal]; simpa using h51⟩ (by omega)
   try simp only [df] at h46
   obtain rfl : k = args.length := by omega
   rw [List.take_length] at hal
   refine .ex <| .tE <| .tE <| .bE <| .tN <| .sr <| .a rfl rfl <| .nt <| .rt <| ?_
   refine Sx.ret1 (.inl rfl) rfl (.tmp rfl) fun W s => ⟨retB ?_, s.ext⟩
   first
     | (rw [all_mk, show frmE (.mk op nm nn args) = false from Bool.eq_false_iff.2 fun e => by rw [frm_iff] at e; first | (exact e.1 (by assumption)) | (exact e.2.1 ⟨by assumption, by assumption⟩) | (exact e.2.2.1 (by assumption)) | (exact e.2.2.2 ⟨by omega, by assumption⟩)]; simp)
     | (rw [all_mk, alls_bad hk (by simpa using h51)]; simp)
     | (rw [all_mk, hal, Bool.and_true, show frmE (.mk op nm nn args) = true by rw [frm_iff]; exact ⟨by assumption, by omega, by omega, by first | (rintro ⟨_, _⟩; omega) | (rintro ⟨_, _⟩; contradiction)⟩])
  try simp only [df] at h31
  refine .yg rfl rfl (.fieldAddr rfl Fx.field51_0) rfl <| .yg rfl rfl (.load rfl Fx.agg3 (.head _) rfl) rfl <| .yg rfl rfl (.gtr rfl rfl) rfl <| .yg rfl rfl (.pickF rfl rfl) rfl <| .yg rfl rfl (.move rfl) rfl <| .b2 (fun h36 => ?_) (fun h36 => ?_)
  ·try simp only [dt] at h36
   refine .yg rfl rfl (.fieldAddr rfl Fx.field51_1) rfl <| .yg rfl rfl (.load rfl Fx.agg9 (.head _) rfl) rfl <| .yg rfl rfl (.neS rfl rfl) rfl <| .yg rfl rfl (.pickT rfl rfl) rfl <| .fn (tl := [_]) rfl <| .yv (.pickF rfl rfl) rfl <| .nt <| .cd rfl (fun h41 => ?_) (fun h41 => ?_)
   ·try simp only [dt] at h41
    skip
    refine .sr <| .a rfl rfl <| .nt <| .rt <| .tR <| ?_
    refine Sx.ret1 (.inl rfl) rfl (.tmp rfl) fun W s => ⟨retB ?_, s.ext⟩
    first
      | (rw [all_mk, show frmE (.mk op nm nn args) = false from Bool.eq_false_iff.2 fun e => by rw [frm_iff] at e; first | (exact e.1 (by assumption)) | (exact e.2.1 ⟨by assumption, by assumption⟩) | (exact e.2.2.1 (by assumption)) | (exact e.2.2.2 ⟨by omega, by assumption⟩)]; simp)
      | (rw [all_mk, alls_bad hk (by simpa using h51)]; simp)
      | (rw [all_mk, hal, Bool.and_true, show frmE (.mk op nm nn args) = true by rw [frm_iff]; exact ⟨by assumption, by omega, by omega, by first | (rintro ⟨_, _⟩; omega) | (rintro ⟨_, _⟩; contradiction)⟩])
   try simp only [df] at h41
   skip
   refine .sk <| .tN <| .sq <| .sr <| .yv (.fieldAddr rfl Fx.field51_3) rfl <| .yv (.load rfl Fx.agg49 (.head _) rfl) rfl <| .yv (.lenSl Fx.sl49 rfl) rfl <| .m rfl rfl <| .nt <| .bk <| .lp (X := Nat) [(43, _), (44, _)] ⟨rfl, rfl, trivial⟩ [_] (fun k => [(45, .int .i64 (k : Nat))]) (fun k => H) (fun k => []) (fun k => k ≤ args.length ∧ Ex.alls frmE (args.take k) = true) (fun k => args.length - k) 0 (fun _ s => s) ⟨rfl, trivial⟩ ⟨by omega, rfl⟩ fun k hC => ?_
   obtain ⟨hk0, hal⟩ := hC
   refine .sr <| .yv (.lss rfl rfl) rfl <| .nt <| .sq <| .cd rfl (fun h46 => ?_) (fun h46 => ?_)
   ·try simp only [dt] at h46
    have hk : k < args.length := by omega
    obtain ⟨bE, oE, cE, hpE, rE, lE, mE⟩ := hs.elem (map_at hk)
    cases hpE
    refine .sk <| .tN <| .sq <| .bk <| .sr <| .yv (.indexSl Fx.sl49 rfl rfl rfl (by omega) (q := oE + k * 4) rfl) rfl <| .yv (.loadMW rfl Fx.agg51 mE lE) rfl <| .al Fx.zero51 rfl fun b4 => .sV .head rfl rfl Fx.size51 lE rE.one rfl <| .ns <| .yv (.loadW rfl Fx.agg51 (.head _) lE) rfl <| .yv (.call Fx.call106 rfl (fun W s => ih _ (List.getElem_mem hk) cE W rE s.agr)) rfl <| .yv (.not rfl) rfl <| .nt <| .cd rfl (fun h51 => ?_) (fun h51 => ?_)
    ·skip
     refine .sr <| .a rfl rfl <| .nt <| .rt <| .bR <| .tR <| .tR <| .bR <| .tR <| ?_
     refine Sx.ret1 (.inl rfl) rfl (.tmp rfl) fun W s => ⟨retB ?_, s.ext⟩
     first
       | (rw [all_mk, show frmE (.mk op nm nn args) = false from Bool.eq_false_iff.2 fun e => by rw [frm_iff] at e; first | (exact e.1 (by assumption)) | (exact e.2.1 ⟨by assumption, by assumption⟩) | (exact e.2.2.1 (by assumption)) | (exact e.2.2.2 ⟨by omega, by assumption⟩)]; simp)
       | (rw [all_mk, alls_bad hk (by simpa using h51)]; simp)
       | (rw [all_mk, hal, Bool.and_true, show frmE (.mk op nm nn args) = true by rw [frm_iff]; exact ⟨by assumption, by omega, by omega, by first | (rintro ⟨_, _⟩; omega) | (rintro ⟨_, _⟩; contradiction)⟩])
    skip
    exact .sk <| .bN <| .tN <| .rg <| .yv (.add rfl rfl (w6 (by omega))) rfl <| .m rfl rfl <| .nt <| .ag (k + 1) ⟨rfl, trivial⟩ ⟨rfl, rfl, trivial⟩ (fun _ s => s.pick [1] [_] rfl rfl) ⟨by omega, by rw [alls_succ hk, hal]; simpa using h51⟩ (by omega)
   try simp only [df] at h46
   obtain rfl : k = args.length := by omega
   rw [List.take_length] at hal
   refine .ex <| .tE <| .tE <| .bE <| .tN <| .sr <| .a rfl rfl <| .nt <| .rt <| ?_
   refine Sx.ret1 (.inl rfl) rfl (.tmp rfl) fun W s => ⟨retB ?_, s.ext⟩
   first
     | (rw [all_mk, show frmE (.mk op nm nn args) = false from Bool.eq_false_iff.2 fun e => by rw [frm_iff] at e; first | (exact e.1 (by assumption)) | (exact e.2.1 ⟨by assumption, by assumption⟩) | (exact e.2.2.1 (by assumption)) | (exact e.2.2.2 ⟨by omega, by assumption⟩)]; simp)
     | (rw [all_mk, alls_bad hk (by simpa using h51)]; simp)
     | (rw [all_mk, hal, Bool.and_true, show frmE (.mk op nm nn args) = true by rw [frm_iff]; exact ⟨by assumption, by omega, by omega, by first | (rintro ⟨_, _⟩; omega) | (rintro ⟨_, _⟩; contradiction)⟩])
  try simp only [df] at h36
  refine .gF rfl rfl rfl rfl <| .gF rfl rfl rfl rfl <| .gF rfl rfl rfl rfl <| .yg rfl rfl (.pickF rfl rfl) rfl <| .fn (tl := [_]) rfl <| .yv (.pickF rfl rfl) rfl <| .nt <| .cF rfl <| .sk <| .tN <| .sq <| .sr <| .yv (.fieldAddr rfl Fx.field51_3) rfl <| .yv (.load rfl Fx.agg49 (.head _) rfl) rfl <| .yv (.lenSl Fx.sl49 rfl) rfl <| .m rfl rfl <| .nt <| .bk <| .lp (X := Nat) [(43, _), (44, _)] ⟨rfl, rfl, trivial⟩ [_] (fun k => [(45, .int .i64 (k : Nat))]) (fun k => H) (fun k => []) (fun k => k ≤ args.length ∧ Ex.alls frmE (args.take k) = true) (fun k => args.length - k) 0 (fun _ s => s) ⟨rfl, trivial⟩ ⟨by omega, rfl⟩ fun k hC => ?_
  obtain ⟨hk0, hal⟩ := hC
  refine .sr <| .yv (.lss rfl rfl) rfl <| .nt <| .sq <| .cd rfl (fun h46 => ?_) (fun h46 => ?_)
  ·try simp only [dt] at h46
   have hk : k < args.length := by omega
   obtain ⟨bE, oE, cE, hpE, rE, lE, mE⟩ := hs.elem (map_at hk)
   cases hpE
   refine .sk <| .tN <| .sq <| .bk <| .sr <| .yv (.indexSl Fx.sl49 rfl rfl rfl (by omega) (q := oE + k * 4) rfl) rfl <| .yv (.loadMW rfl Fx.agg51 mE lE) rfl <| .al Fx.zero51 rfl fun b4 => .sV .head rfl rfl Fx.size51 lE rE.one rfl <| .ns <| .yv (.loadW rfl Fx.agg51 (.head _) lE) rfl <| .yv (.call Fx.call106 rfl (fun W s => ih _ (List.getElem_mem hk) cE W rE s.agr)) rfl <| .yv (.not rfl) rfl <| .nt <| .cd rfl (fun h51 => ?_) (fun h51 => ?_)
   ·skip
    refine .sr <| .a rfl rfl <| .nt <| .rt <| .bR <| .tR <| .tR <| .bR <| .tR <| ?_
    refine Sx.ret1 (.inl rfl) rfl (.tmp rfl) fun W s => ⟨retB ?_, s.ext⟩
    first
      | (rw [all_mk, show frmE (.mk op nm nn args) = false from Bool.eq_false_iff.2 fun e => by rw [frm_iff] at e; first | (exact e.1 (by assumption)) | (exact e.2.1 ⟨by assumption, by assumption⟩) | (exact e.2.2.1 (by assumption)) | (exact e.2.2.2 ⟨by omega, by assumption⟩)]; simp)
      | (rw [all_mk, alls_bad hk (by simpa using h51)]; simp)
      | (rw [all_mk, hal, Bool.and_true, show frmE (.mk op nm nn args) = true by rw [frm_iff]; exact ⟨by assumption, by omega, by omega, by first | (rintro ⟨_, _⟩; omega) | (rintro ⟨_, _⟩; contradiction)⟩])
   skip
   exact .sk <| .bN <| .tN <| .rg <| .yv (.add rfl rfl (w6 (by omega))) rfl <| .m rfl rfl <| .nt <| .ag (k + 1) ⟨rfl, trivial⟩ ⟨rfl, rfl, trivial⟩ (fun _ s => s.pick [1] [_] rfl rfl) ⟨by omega, by rw [alls_succ hk, hal]; simpa using h51⟩ (by omega)
  try simp only [df] at h46
  obtain rfl : k = args.length := by omega
  rw [List.take_length] at hal
  refine .ex <| .tE <| .tE <| .bE <| .tN <| .sr <| .a rfl rfl <| .nt <| .rt <| ?_
  refine Sx.ret1 (.inl rfl) rfl (.tmp rfl) fun W s => ⟨retB ?_, s.ext⟩
  first
    | (rw [all_mk, show frmE (.mk op nm nn args) = false from Bool.eq_false_iff.2 fun e => by rw [frm_iff] at e; first | (exact e.1 (by assumption)) | (exact e.2.1 ⟨by assumption, by assumption⟩) | (exact e.2.2.1 (by assumption)) | (exact e.2.2.2 ⟨by omega, by assumption⟩)]; simp)
    | (rw [all_mk, alls_bad hk (by simpa using h51)]; simp)
    | (rw [all_mk, hal, Bool.and_true, show frmE (.mk op nm nn args) = true by rw [frm_iff]; exact ⟨by assumption, by omega, by omega, by first | (rintro ⟨_, _⟩; omega) | (rintro ⟨_, _⟩; contradiction)⟩])
theorem dec_big {n : Nat} (h : ¬ n < 10) : Lib.decDigits n = Lib.decDigits (n / 10) ++ Lib.decDigits (n % 10) := by
  rw [Lib.decDigits_one (Nat.mod_lt n (by omega))]
  conv => lhs; rw [Lib.decDigits, dif_neg h]
def digsT : Str := [48, 49, 50, 51, 52, 53, 54, 55, 56, 57]
theorem digs_one {n : Nat} (h : n < 10) : (digsT.take (n + 1)).drop n = Lib.decDigits n := by
  rw [Lib.decDigits_one h]
  have key : ∀ i ∈ List.range 10, (digsT.take (i + 1)).drop i = [UInt8.ofNat (48 + i)] := by decide
  exact key n (List.mem_range.2 h)
theorem dec_len {n : Nat} (h : n ≤ 9223372036854775807) : (Lib.decDigits n).length ≤ 21 := by
  have := Lib.itoa_length_le (n : Int) (by omega) (by omega)
  rwa [Lib.itoa, if_neg (by omega), Int.toNat_natCast] at this
set_option maxRecDepth 100000 in
theorem numberN_any (H : Hp) (n : Nat) : n ≤ 9223372036854775807 → ∀ (w : World), Agr H w → Calls Tryz.prog 33 #[.int .i64 (n : Nat)] w fun r w' => r = .returned (strV (Lib.decDigits n)) ∧ Ext w w' := by
  induction n using Nat.strongRecOn with | _ n ih
  intro hn w hA
  refine Sx.enter (H := H) Tryz.func33 rfl Tryz.ntmps33 rfl hA ?_
  refine .sr <| .a rfl rfl <| .nt <| .sq <| .sr <| .m rfl rfl <| .yv (.lss rfl rfl) rfl <| .nt <| .cd rfl (fun h4 => ?_) (fun h4 => ?_)
  ·try simp only [dt] at h4
   exact absurd (by omega : False) id
  try simp only [df] at h4
  refine .sk <| .tN <| .sq <| .sr <| .m rfl rfl <| .yv (.lss rfl rfl) rfl <| .nt <| .cd rfl (fun h10 => ?_) (fun h10 => ?_)
  ·try simp only [dt] at h10
   refine .sr <| .m rfl rfl <| .m rfl rfl <| .yv (.add rfl rfl (c := ((n + 1 : Nat) : Int)) ((w6 (by omega)).trans (by omega))) rfl <| .yv (.cast (.midS (l := digsT) Fx.str9 rfl rfl rfl (lo := n) (hi := n + 1) rfl rfl (by omega) (by show n + 1 ≤ 10; omega)) (by rw [digs_one (by omega)])) rfl <| .a rfl rfl <| .nt <| .rt <| .tR <| ?_
   refine Sx.ret1 (.inl rfl) rfl (.tmp rfl) fun W s => ⟨?_, s.ext⟩
   first
     | (rfl)
     | (rw [dec_big (n := n) (by omega)]; rfl)
     | (rw [digs_one (by omega)])
  try simp only [df] at h10
  refine .sk <| .tN <| .sr <| .m rfl rfl <| .yv (.quo rfl rfl (by decide) (c := ((n / 10 : Nat) : Int)) (by rw [Int.tdiv_eq_ediv_of_nonneg (by omega)]; exact (w6 (by omega)).trans (by omega))) rfl <| .yv (.call Fx.call33 rfl (fun W s => ih (n / 10) (by omega) (by omega) W s.agr)) rfl <| .m rfl rfl <| .yv (.rem rfl rfl (by decide) (c := ((n % 10 : Nat) : Int)) (by rw [Int.tmod_eq_emod_of_nonneg (by omega)]; omega)) rfl <| .yv (.call Fx.call33 rfl (fun W s => ih (n % 10) (by omega) (by omega) W s.agr)) rfl <| .yv (.app rfl rfl (by have := dec_len (n := n / 10) (by omega); have := dec_len (n := n % 10) (by omega); omega)) rfl <| .a rfl rfl <| .nt <| .rt <| ?_
  refine Sx.ret1 (.inl rfl) rfl (.tmp rfl) fun W s => ⟨?_, s.ext⟩
  first
    | (rfl)
    | (rw [dec_big (n := n) (by omega)]; rfl)
    | (rw [digs_one (by omega)])
theorem _root_.Go.Sx.Yl.neg64 {P : Program} {L : Sl} {H : Hp} {w0 : World} {bs : List Res} {d : Option Tmp} {ty : TypeId} {pos : String} {aft : Array Edge} {g : Option (Nat × Bool)} {x : Operand} {T : TypeId} {i c : Int} (hx : ev L x = some (.int .i64 i)) (hc : c = -i) (h1 : -9223372036854775808 ≤ c) (h2 : c ≤ 9223372036854775807) : Yl P L H w0 bs ⟨d, .unOp .neg T x, ty, pos, aft, g⟩ (.int .i64 c) := .of_run fun a W f _ => by
  subst hc
  have hw : IntKind.i64.wrap (-i) = -i := w64 h1 h2
  unfold execOp
  simp [f x _ hx, Op.unary, Op.intArith, hw, Result.andThen]
set_option maxRecDepth 100000 in
theorem number_any (H : Hp) (n : Int) (h1 : -9223372036854775808 < n) (h2 : n ≤ 9223372036854775807) (w : World) (hA : Agr H w) : Calls Tryz.prog 33 #[.int .i64 n] w fun r w' => r = .returned (strV (Lib.itoa n)) ∧ Ext w w' := by
  by_cases h0 : 0 ≤ n
  · have h := numberN_any H n.toNat (by omega) w hA
    rw [show ((n.toNat : Nat) : Int) = n by omega] at h
    rw [Lib.itoa, if_neg (by omega)]
    exact h
  refine Sx.enter (H := H) Tryz.func33 rfl Tryz.ntmps33 rfl hA ?_
  refine .sr <| .a rfl rfl <| .nt <| .sq <| .sr <| .m rfl rfl <| .yv (.lss rfl rfl) rfl <| .nt <| .cd rfl (fun h4 => ?_) (fun h4 => ?_)
  ·try simp only [dt] at h4
   refine .sr <| .m rfl rfl <| .yv (.neg64 rfl (c := ((n.natAbs : Nat) : Int)) (by omega) (by omega) (by omega)) rfl <| .yv (.call Fx.call33 rfl (fun W s => numberN_any H n.natAbs (by omega) W s.agr)) rfl <| .yv (.app rfl rfl (by have := dec_len (n := n.natAbs) (by omega); simp only [List.length_cons, List.length_nil]; omega)) rfl <| .a rfl rfl <| .nt <| .rt <| .tR <| ?_
   refine Sx.ret1 (.inl rfl) rfl (.tmp rfl) fun W s => ⟨?_, s.ext⟩
   first
     | (rw [Lib.itoa, if_pos (by omega)]; rfl)
  try simp only [df] at h4
  exact absurd (by omega : False) id
theorem eqIt {P : Program} {L : Sl} {H : Hp} {w0 : World} {bs : List Res} {d : Option Tmp} {ty : TypeId} {pos : String} {aft : Array Edge} {g : Option (Nat × Bool)} {x y : Operand} {T T' : TypeId} {k : IntKind} {a : Int} (hx : ev L x = some (.int k a)) (hy : ev L y = some (.int k a)) : Yl P L H w0 bs ⟨d, .binOp .eql T x y T', ty, pos, aft, g⟩ (.bool true) :=
  (Yl.eql hx hy).cast (by rw [decide_eq_true rfl])
def BuiltC (x : List Value) (H' : Hp) : Prop := ∃ e : Ex, Rep H' (dEx .i64 e) x ∧ goodE 1 e
set_option maxRecDepth 100000 in
theorem buildR_any (H : Hp) (l : List Nd) (v : Value) (h0 : Rep H (.seq 5 (l.map dNd)) [v]) (w : World) (hA : Agr H w) :
    Calls Tryz.prog 17 #[v] w fun r w' => ∃ (x : List Value) (H' : Hp), BuiltC x H' ∧ r = .returned (.agg x.toArray) ∧ Grow H w H' w' := by
  obtain ⟨p, c, e, _⟩ := h0.sl
  simp only [List.cons.injEq, and_true, List.length_map] at e
  subst e
  have h := h0
  have hcap := h.cap
  refine Sx.enter (H := H) Tryz.func17 rfl Tryz.ntmps17 rfl hA ?_
  refine .sr <| .al Fx.zero51 rfl fun b2 => .ns <| .m rfl rfl <| .m rfl rfl <| .yv (.lenSl Fx.sl53 rfl) rfl <| .yv (.min2 rfl rfl (c := ((min l.length 60 : Nat) : Int)) (by omega)) rfl <| .yv (.cutHi2 Fx.sl53 rfl rfl (h := min l.length 60) rfl (by have := h.len.2.1; omega)) rfl <| .ct (X := List Value × Value) Fx.call49 rfl (fun W s => build_any 30 1 rfl H (l.take (min l.length 60)) _ W (by rw [List.map_take]; exact rep_take2 h (by omega)) s.agr) rfl fun y H1 hc u1 => ?_
  obtain ⟨x, y⟩ := y
  obtain ⟨e, rest, hx, hg, _⟩ := hc
  dsimp only at hx
  refine .m rfl rfl <| .yv (.extract rfl rfl) rfl <| .yv (.extract rfl rfl) rfl <| .al Fx.zero51 rfl fun b3 => .sV .head rfl rfl Fx.size51 (ex_len hx) hx.one rfl <| .a rfl rfl <| .ns <| .yv (.loadW rfl Fx.agg51 (.head _) (ex_len hx)) rfl <| .sV (.tail <| .head) rfl rfl Fx.size51 (ex_len hx) hx.one rfl <| .nt <| .rt <| ?_
  exact Sx.ret1 (.inl rfl) rfl (.cell rfl Fx.agg51 (.tail _ <| .head _) (ex_len hx)) fun W t => ⟨x, H1, ⟨e, hx, hg⟩, rfl, u1.grow t⟩
theorem Fx.agg53 : aggN Tryz.prog 53 = Option.some Option.none := by kernel_rfl
theorem Fx.call17 : callN Tryz.prog 17 = Bool.true := by kernel_rfl
theorem Fx.call93 : callN Tryz.prog 93 = Bool.true := by kernel_rfl
theorem Fx.field55_0 : fieldN Tryz.prog 55 0 = Option.some 0 := by kernel_rfl
theorem Fx.field55_2 : fieldN Tryz.prog 55 2 = Option.some 2 := by kernel_rfl
theorem Fx.field55_3 : fieldN Tryz.prog 55 3 = Option.some 3 := by kernel_rfl
theorem Fx.field55_4 : fieldN Tryz.prog 55 4 = Option.some 4 := by kernel_rfl
theorem Fx.field150_0 : fieldN Tryz.prog 150 0 = Option.some 0 := by kernel_rfl
theorem Fx.field150_1 : fieldN Tryz.prog 150 1 = Option.some 1 := by kernel_rfl
theorem Fx.field150_2 : fieldN Tryz.prog 150 2 = Option.some 2 := by kernel_rfl
theorem Fx.field150_3 : fieldN Tryz.prog 150 3 = Option.some 3 := by kernel_rfl
theorem Fx.int2 : intN Tryz.prog 2 = Option.some Go.IntKind.i64 := by kernel_rfl
theorem Fx.int139 : intN Tryz.prog 139 = Option.some Go.IntKind.u64 := by kernel_rfl
theorem Fx.bsl49_0  : bslN Tryz.prog 49 0 [] = some (51, []) := by kernel_rfl
theorem qu8 (a : Nat) {b : Nat} (h : a < 256) (hb : 0 < b) : IntKind.u8.wrap (Int.tdiv (a : Int) (b : Int)) = ((a / b : Nat) : Int) := by
  rw [Int.tdiv_eq_ediv_of_nonneg (Int.natCast_nonneg _), show (a : Int) / (b : Int) = ((a / b : Nat) : Int) from rfl]
  have h3 : ∀ n : Nat, n < 256 → IntKind.u8.wrap (n : Int) = (n : Int) := fun n hn => by
    have key : ∀ i ∈ List.range 256, IntKind.u8.wrap (i : Int) = (i : Int) := by decide +kernel
    exact key n (List.mem_range.2 hn)
  exact h3 _ (Nat.lt_of_le_of_lt (Nat.div_le_self _ _) h)
theorem wu64 (i : Int) : ∃ m : Nat, IntKind.u64.wrap i = (m : Int) := ⟨(IntKind.u64.wrap i).toNat, by
  have : 0 ≤ IntKind.u64.wrap i := by simp only [IntKind.wrap, IntKind.signed, IntKind.bits]; simp; omega
  omega⟩
theorem ofN13 {m : Nat} (h : m < 13) : (UInt8.ofNat m).toNat = m := by rw [UInt8.toNat_ofNat']; omega
theorem sm_len {H : Hp} {k : IntKind} {s : Sm} {cs : List Value} (h : Rep H (dSm k s) cs) : cs.length = 6 := by
  obtain ⟨kd, nm, hd, ex, th, el⟩ := s
  obtain ⟨p1, c1, p2, c2, p3, c3, rfl, _⟩ := sm_open h
  rfl
set_option maxRecDepth 100000 in
theorem wrap_any (H : Hp) (s : Sm) (n : Nat) (hn : n ≤ 100) (cs : List Value) (w : World) (h : Rep H (dSm .i64 s) cs) (hA : Agr H w) : Calls Tryz.prog 93 #[.agg cs.toArray, .int .i64 (n : Nat)] w fun r w' => ∃ (v : List Value) (H' : Hp), Rep H' (dSm .i64 (wrapS n s)) v ∧ r = .returned (.agg v.toArray) ∧ Grow H w H' w' := by
  refine Sx.enter (H := H) Tryz.func93 rfl Tryz.ntmps93 rfl hA ?_
  refine .sr <| .bx rfl rfl rfl fun b2 => .al Fx.zero150 rfl fun b4 => .nt <| .sq <| .sr <| .a rfl rfl <| .nt <| .bk <| .pm [1, 0] [_, _] rfl rfl <| .lp (X := Nat × Hp × List Value) [(1, _), (2, _), (4, _)] ⟨rfl, rfl, rfl, trivial⟩ [_] (fun z => [(5, .int .i64 (z.1 : Nat))]) (fun z => z.2.1) (fun z => [.box b2 z.2.2 150]) (fun z => z.1 ≤ n ∧ HUp w H z.2.1 ∧ Rep z.2.1 (dSm .i64 (wrapS z.1 s)) z.2.2) (fun z => n - z.1) (0, H, _) (fun _ s => s) ⟨rfl, trivial⟩ ⟨by simp, .refl, h⟩ fun z hC => ?_
  obtain ⟨k, H1, xs⟩ := z
  dsimp only at hC ⊢
  obtain ⟨hk0, u1, hr⟩ := hC
  generalize hw : wrapS k s = s1 at hr
  obtain ⟨kd, nm, hd, ex, th, el⟩ := s1
  obtain ⟨p1, c1, p2, c2, p3, c3, rfl, hs1, hs2, hs3, hn1, hn2⟩ := sm_open hr
  refine .sq <| .sr <| .m rfl rfl <| .m rfl rfl <| .yv (.lss rfl rfl) rfl <| .nt <| .cd rfl (fun h8 => ?_) (fun h8 => ?_)
  ·try simp only [dt] at h8
   have hk : k < n := by omega
   refine .sk <| .tN <| .sq <| .bk <| .rg <| .yv (.build rfl (Fx.bld51_0 _)) rfl <| .bl rfl (Fx.bsl49_1 _ _ _ _) rfl fun b12 => .yv (.loadW rfl Fx.agg150 (.tail _ <| .head _) rfl) rfl <| .bl rfl (Fx.bsl98_1 _ _ _ _ _ _) rfl fun b14 => .yv (.build rfl (Fx.bld150_0_3_4 _ _ _ _ _ _ _)) rfl <| .sW (.tail <| .tail <| .head) rfl rfl Fx.size150 (by simp [Value.oneCell', strV]) rfl <| ?_
   refine Sx.freezeBox fun Ha ua ma => ?_
   refine Sx.freezeBox fun Hb ub mb => ?_
   exact .nl <| .bN <| .tN <| .rg <| .m rfl rfl <| .yv (.add rfl rfl (w6 (by omega))) rfl <| .a rfl rfl <| .nt <| .ag (x := (k, H1, [.int .i64 kd.toNat, strV nm, strV hd, .slice p1 ex.length c1, .slice p2 th.length c2, .slice p3 el.length c3])) (k + 1, Hb, [.int .i64 4, .string ⟨#[]⟩, .string ⟨#[]⟩, .slice (some ⟨b12, 0, none⟩) 1 1, .slice (some ⟨b14, 0, none⟩) 1 1, .slice none 0 0]) ⟨rfl, trivial⟩ ⟨rfl, rfl, rfl, trivial⟩ (fun _ s => (s.pick [0, 1] _ rfl rfl)) ⟨by dsimp only; omega, u1.trans (ua.trans ub), by dsimp only; rw [wrapS, hw]; exact sm_shut (kd := 4) (nm := []) (hd := []) (ex := [.mk 2 [] 0 []]) (el := []) (by decide) (by decide) (Rep.mk (n := 1) (c := 1) mb (.single (ex_shut (op := 2) (nm := []) (n := 0) (args := []) (by decide) (Rep.empty (by decide))) rfl) rfl (Nat.le_refl _) (by decide)) (Rep.mk (n := 1) (c := 1) (ma.up ub.up) (.single (hr.up (ua.trans ub).up) rfl) rfl (Nat.le_refl _) (by decide)) (Rep.empty (by decide))⟩ (by dsimp only; omega)
  try simp only [df] at h8
  obtain rfl : k = n := by omega
  refine .ex <| .tE <| .tE <| .bE <| .tN <| .sr <| .yv (.loadW rfl Fx.agg150 (.head _) rfl) rfl <| .sW (.tail <| .head) rfl rfl Fx.size150 (by simp [Value.oneCell', strV]) rfl <| .nt <| .rt <| ?_
  exact Sx.ret1 (.inl rfl) rfl (.cell rfl Fx.agg150 (.tail _ <| .head _) rfl) fun W t => ⟨_, H1, by rw [hw]; exact hr, rfl, u1.grow t⟩
set_option maxRecDepth 100000 in
theorem change_any (H : Hp) (s : Sm) (x : Sp) (cs xs : List Value) (w : World) (h : Rep H (dSm .i64 s) cs) (hX : Rep H (dSp x) xs) (hs : s.ex.length ≤ 1000000) (hA : Agr H w) : Calls Tryz.prog 94 #[.agg cs.toArray, .agg xs.toArray] w fun r w' => ∃ (v : List Value) (H' : Hp), (∃ s', Rep H' (dSm .i64 s') v ∧ Grew s s') ∧ r = .returned (.agg v.toArray) ∧ Grow H w H' w' := by
  obtain ⟨kd, nm, hd, ex, th, el⟩ := s
  obtain ⟨p1, c1, p2, c2, p3, c3, rfl, hs1, hs2, hs3, hn1, hn2⟩ := sm_open h
  obtain ⟨pN, cN, rfl, hN⟩ := sp_open hX
  have hs : ex.length ≤ 1000000 := hs
  obtain ⟨m0, hm0⟩ := wu64 x.n.toInt
  obtain ⟨m, hmm⟩ : ∃ m, m = m0 % 13 := ⟨_, rfl⟩
  have hm13 : m < 13 := by omega
  refine Sx.enter (H := H) Tryz.func94 rfl Tryz.ntmps94 rfl hA ?_
  refine .sr <| .bx rfl rfl rfl fun b2 => .bx rfl rfl rfl fun b3 => .al Fx.zero150 rfl fun b4 => .ns <| .yv (.fieldAddr rfl Fx.field55_3) rfl <| .yv (.load rfl Fx.agg2 (.tail _ <| .head _) rfl) rfl <| .yv (.conv rfl Fx.int2 Fx.int139 hm0) rfl <| .yv (.rem rfl rfl (by decide) (c := ((m : Nat) : Int)) (by rw [hmm]; exact tm2 _ 13)) rfl <| .yv (.conv rfl Fx.int139 Fx.int3 (c := ((m : Nat) : Int)) (w6 (by omega))) rfl <| .a rfl rfl <| .nt <| .sq <| .sr <| .yv (.fieldAddr rfl Fx.field55_0) rfl <| .yv (.load rfl Fx.agg5 (.tail _ <| .head _) rfl) rfl <| .yv (.rem rfl rfl (by decide) (c := ((x.wh.toNat % 26 : Nat) : Int)) (by rw [Int.tmod_eq_emod_of_nonneg (by omega)]; omega)) rfl <| .nt <| .bk <| .sr <| .yv (.eql rfl rfl) rfl <| .a rfl rfl <| .nt <| .cd rfl (fun h14 => ?_) (fun h14 => ?_)
  ·skip
   refine .rg <| .m rfl rfl <| .yv (.fieldAddr rfl Fx.field150_0) rfl <| .st (.tail <| .tail <| .head) rfl rfl Fx.size3 rfl (nb rfl) rfl <| .nl <| .bN <| .tN <| .sr <| .yv (.loadW rfl Fx.agg150 (.tail _ <| .tail _ <| .head _) rfl) rfl <| .sW .head rfl rfl Fx.size150 (by show ∀ u ∈ [_, _, _, _, _, _], Value.oneCell' u = true; simp [Value.oneCell', strV]) rfl <| .nt <| .rt <| ?_
   exact Sx.ret1 (.inl rfl) rfl (.cell rfl Fx.agg150 (.head _) rfl) fun W t => ⟨_, H, ⟨_, by have := sm_shut (kd := UInt8.ofNat m) (nm := nm) (hd := hd) (by omega) (by omega) hs1 hs2 hs3; rw [ofN13 hm13] at this; exact this, grew_kind⟩, rfl, (.refl : HUp w H H).grow t⟩
  skip
  refine .sr <| .yv (.eql rfl rfl) rfl <| .a rfl rfl <| .nt <| .cd rfl (fun h18 => ?_) (fun h18 => ?_)
  ·skip
   refine .rg <| .yv (.fieldAddr rfl Fx.field55_2) rfl <| .yv (.load rfl Fx.agg5 (.tail _ <| .head _) rfl) rfl <| .yv (.call Fx.call53 rfl (fun W s => word_any H x.nm W s.agr)) rfl <| .yv (.fieldAddr rfl Fx.field150_1) rfl <| .st (.tail <| .tail <| .head) rfl rfl Fx.size9 rfl (nb rfl) rfl <| .nl <| .bN <| .tN <| .sr <| .yv (.loadW rfl Fx.agg150 (.tail _ <| .tail _ <| .head _) rfl) rfl <| .sW .head rfl rfl Fx.size150 (by show ∀ u ∈ [_, _, _, _, _, _], Value.oneCell' u = true; simp [Value.oneCell', strV]) rfl <| .nt <| .rt <| ?_
   exact Sx.ret1 (.inl rfl) rfl (.cell rfl Fx.agg150 (.head _) rfl) fun W t => ⟨_, H, ⟨_, sm_shut (kd := kd) (nm := wordR x.nm) (hd := hd) (by exact Nat.le_trans (word_len _) (by decide)) (by omega) hs1 hs2 hs3, grew_kind⟩, rfl, (.refl : HUp w H H).grow t⟩
  skip
  refine .sr <| .yv (.eql rfl rfl) rfl <| .a rfl rfl <| .nt <| .cd rfl (fun h24 => ?_) (fun h24 => ?_)
  ·skip
   refine .rg <| .yv (.fieldAddr rfl Fx.field55_2) rfl <| .yv (.load rfl Fx.agg5 (.tail _ <| .head _) rfl) rfl <| .yv (.call Fx.call53 rfl (fun W s => word_any H x.nm W s.agr)) rfl <| .yv (.fieldAddr rfl Fx.field150_2) rfl <| .st (.tail <| .tail <| .head) rfl rfl Fx.size9 rfl (nb rfl) rfl <| .nl <| .bN <| .tN <| .sr <| .yv (.loadW rfl Fx.agg150 (.tail _ <| .tail _ <| .head _) rfl) rfl <| .sW .head rfl rfl Fx.size150 (by show ∀ u ∈ [_, _, _, _, _, _], Value.oneCell' u = true; simp [Value.oneCell', strV]) rfl <| .nt <| .rt <| ?_
   exact Sx.ret1 (.inl rfl) rfl (.cell rfl Fx.agg150 (.head _) rfl) fun W t => ⟨_, H, ⟨_, sm_shut (kd := kd) (nm := nm) (hd := wordR x.nm) (by omega) (by exact Nat.le_trans (word_len _) (by decide)) hs1 hs2 hs3, grew_kind⟩, rfl, (.refl : HUp w H H).grow t⟩
  skip
  refine .sr <| .yv (.eql rfl rfl) rfl <| .a rfl rfl <| .nt <| .cd rfl (fun h30 => ?_) (fun h30 => ?_)
  ·skip
   refine .fl (trip := [(_, _, _), (_, _, _), (_, _, _), (_, _, _), (_, _, _), (_, _, _), (_, _, _), (_, _, _)]) 8 [(1, 0), (2, 0), (4, 0), (5, 0), (0, 1), (3, 3), (6, 1), (7, 1)] (by kernel_rfl) (by kernel_rfl) rfl <| .yv (.fieldAddr rfl Fx.field150_3) rfl <| .yv (.load rfl Fx.agg49 (.tail _ <| .tail _ <| .head _) rfl) rfl <| .yv (.fieldAddr rfl Fx.field55_4) rfl <| .yv (.load rfl Fx.agg53 (.tail _ <| .head _) rfl) rfl <| .blR rfl Fx.bsl49_0 rfl (z := 4) rfl (by decide) fun b32 => .apD Fx.row49 rfl (fun _ _ => .head) rfl hs1 (by simp [maxLen]; omega) (by omega) rfl (fun _ _ => (.yv (.load rfl Fx.agg53 (.tail _ <| .tail _ <| .head _) rfl) <| .yv (.fieldAddr rfl Fx.field55_4) <| .done (by kernel_rfl) <| .done (by kernel_rfl) <| .nl)) fun xs35 p35 c35 hz35 => .ct (X := List Value) Fx.call17 rfl (fun W s => buildR_any H x.nodes _ hN W s.agr) rfl fun y H1 hc u1 => ?_
   obtain ⟨e, hx, hg⟩ := hc
   obtain ⟨op, enm, en, args⟩ := e
   obtain ⟨pe, ce, rfl, hes, hen⟩ := ex_open hx
   refine .bl rfl (Fx.bsl49_1 _ _ _ _) rfl fun b39 => .fn (tl := [_, _, _]) rfl <| .ap (news := [.int .i64 op.toNat, strV enm, .int .i64 en.toInt, .slice pe args.length ce]) Fx.row49 rfl (fun _ => (.tail <| .head)) rfl (.box (.head _) z0) rfl (by simp [Value.oneCell', strV]) (by simp [maxLen]; omega) (by omega) rfl fun r40 _ => .ra (.tail _ <| .head _) fun p40 c40 e40 => .yv (.fieldAddr rfl Fx.field150_3) rfl <| .st (.tail <| .tail <| .tail <| .tail <| .head) rfl rfl Fx.size49 (by rw [e40]; rfl) (nb rfl) rfl <| ?_
   refine At.pm [1, 0, 2, 3, 4] [_, _, _, _, _] rfl rfl ?_
   refine Sx.freezeSeq (ds := (ex ++ [Ex.mk op enm en args]).map (dEx .i64)) (by simp) (by rw [List.map_append]; exact ((hz35.up u1.up).snoc hx rfl)) fun H3 p3 c3 u3 e3 hE => ?_
   subst e3
   have v3 := u1.trans u3
   have v2 := v3.up
   refine .nl <| .bN <| .tN <| .sr <| .yv (.loadW rfl Fx.agg150 (.tail _ <| .tail _ <| .tail _ <| .head _) rfl) rfl <| .sW (.tail <| .head) rfl rfl Fx.size150 (by show ∀ u ∈ [_, _, _, _, _, _], Value.oneCell' u = true; simp [Value.oneCell', strV]) rfl <| .nt <| .rt <| ?_
   exact Sx.ret1 (.inl rfl) rfl (.cell rfl Fx.agg150 (.tail _ <| .head _) rfl) fun W t => ⟨_, H3, ⟨_, sm_shut (kd := kd) (nm := nm) (hd := hd) (by omega) (by omega) hE (hs2.up v2) (hs3.up v2), grew_add hg⟩, rfl, (v3 : HUp w H H3).grow t⟩
  skip
  refine .sr <| .yv (.eql rfl rfl) rfl <| .a rfl rfl <| .nt <| .cd rfl (fun h42 => ?_) (fun h42 => ?_)
  ·skip
   refine .rg <| .yv (.fieldAddr rfl Fx.field55_4) rfl <| .yv (.load rfl Fx.agg53 (.tail _ <| .head _) rfl) rfl <| .ct (X := List Value) Fx.call17 rfl (fun W s => buildR_any H x.nodes _ hN W s.agr) rfl fun y H1 hc u1 => ?_
   obtain ⟨e, hx, hg⟩ := hc
   obtain ⟨op, enm, en, args⟩ := e
   obtain ⟨pe, ce, rfl, hes, hen⟩ := ex_open hx
   refine .bl rfl (Fx.bsl49_1 _ _ _ _) rfl fun b47 => ?_
   refine Sx.freezeBox fun H3 u3 m3 => ?_
   have v3 := u1.trans u3
   have v2 := v3.up
   have hE : Rep H3 (.seq 4 (([.mk op enm en args] : List Ex).map (dEx .i64))) [.slice (some ⟨b47, 0, none⟩) 1 1] := Rep.mk (n := 1) (c := 1) m3 (.single (hx.up u3.up) rfl) rfl (Nat.le_refl _) (by decide)
   refine .yv (.fieldAddr rfl Fx.field150_3) rfl <| .st (.tail <| .tail <| .head) rfl rfl Fx.size49 rfl (nb rfl) rfl <| .nl <| .bN <| .tN <| .sr <| .yv (.loadW rfl Fx.agg150 (.tail _ <| .tail _ <| .head _) rfl) rfl <| .sW .head rfl rfl Fx.size150 (by show ∀ u ∈ [_, _, _, _, _, _], Value.oneCell' u = true; simp [Value.oneCell', strV]) rfl <| .nt <| .rt <| ?_
   exact Sx.ret1 (.inl rfl) rfl (.cell rfl Fx.agg150 (.head _) rfl) fun W t => ⟨_, H3, ⟨_, sm_shut (kd := kd) (nm := nm) (hd := hd) (by omega) (by omega) hE (hs2.up v2) (hs3.up v2), grew_one hg⟩, rfl, (v3 : HUp w H H3).grow t⟩
  skip
  refine .sr <| .yv (.eql rfl rfl) rfl <| .a rfl rfl <| .nt <| .cd rfl (fun h49 => ?_) (fun h49 => ?_)
  ·skip
   refine .rg <| .yv (.build rfl (Fx.bld150_0 _)) rfl <| .bl rfl (Fx.bsl98_1 _ _ _ _ _ _) rfl fun b52 => ?_
   refine Sx.freezeBox fun Ha ua ma => ?_
   have hST : Rep Ha (.seq 6 (([stopS] : List Sm).map (dSm .i64))) [.slice (some ⟨b52, 0, none⟩) 1 1] := (Rep.mk (n := 1) (c := 1) ma (.single (sm_shut (kd := 10) (nm := []) (hd := []) (ex := []) (th := []) (el := []) (by decide) (by decide) (Rep.empty (by decide)) (Rep.empty (by decide)) (Rep.empty (by decide))) rfl) rfl (Nat.le_refl _) (by decide))
   refine .yv (.fieldAddr rfl Fx.field150_4) rfl <| .st (.tail <| .tail <| .head) rfl rfl Fx.size49 rfl (nb rfl) rfl <| .nl <| .bN <| .tN <| .sr <| .yv (.loadW rfl Fx.agg150 (.tail _ <| .tail _ <| .head _) rfl) rfl <| .sW .head rfl rfl Fx.size150 (by show ∀ u ∈ [_, _, _, _, _, _], Value.oneCell' u = true; simp [Value.oneCell', strV]) rfl <| .nt <| .rt <| ?_
   exact Sx.ret1 (.inl rfl) rfl (.cell rfl Fx.agg150 (.head _) rfl) fun W t => ⟨_, Ha, ⟨_, sm_shut (kd := kd) (nm := nm) (hd := hd) (by omega) (by omega) (hs1.up ua.up) hST (hs3.up ua.up), grew_then⟩, rfl, (ua : HUp w H Ha).grow t⟩
  skip
  refine .sr <| .yv (.eql rfl rfl) rfl <| .a rfl rfl <| .nt <| .cd rfl (fun h54 => ?_) (fun h54 => ?_)
  ·skip
   refine .rg <| .yv (.build rfl (Fx.bld150_0 _)) rfl <| .bl rfl (Fx.bsl98_1 _ _ _ _ _ _) rfl fun b57 => ?_
   refine Sx.freezeBox fun Ha ua ma => ?_
   have hST : Rep Ha (.seq 6 (([stopS] : List Sm).map (dSm .i64))) [.slice (some ⟨b57, 0, none⟩) 1 1] := (Rep.mk (n := 1) (c := 1) ma (.single (sm_shut (kd := 10) (nm := []) (hd := []) (ex := []) (th := []) (el := []) (by decide) (by decide) (Rep.empty (by decide)) (Rep.empty (by decide)) (Rep.empty (by decide))) rfl) rfl (Nat.le_refl _) (by decide))
   refine .yv (.fieldAddr rfl Fx.field150_5) rfl <| .st (.tail <| .tail <| .head) rfl rfl Fx.size49 rfl (nb rfl) rfl <| .nl <| .bN <| .tN <| .sr <| .yv (.loadW rfl Fx.agg150 (.tail _ <| .tail _ <| .head _) rfl) rfl <| .sW .head rfl rfl Fx.size150 (by show ∀ u ∈ [_, _, _, _, _, _], Value.oneCell' u = true; simp [Value.oneCell', strV]) rfl <| .nt <| .rt <| ?_
   exact Sx.ret1 (.inl rfl) rfl (.cell rfl Fx.agg150 (.head _) rfl) fun W t => ⟨_, Ha, ⟨_, sm_shut (kd := kd) (nm := nm) (hd := hd) (by omega) (by omega) (hs1.up ua.up) (hs2.up ua.up) hST, grew_else⟩, rfl, (ua : HUp w H Ha).grow t⟩
  skip
  refine .sr <| .yv (.eql rfl rfl) rfl <| .a rfl rfl <| .nt <| .cd rfl (fun h59 => ?_) (fun h59 => ?_)
  ·skip
   refine .rg <| .yv (.loadW rfl Fx.agg150 (.tail _ <| .tail _ <| .head _) rfl) rfl <| .m rfl rfl <| .ct (X := List Value) Fx.call93 rfl (fun W s => wrap_any H _ m (by omega) _ W h s.agr) rfl fun y1 H1 hwr u1 => .sV (.tail <| .tail <| .head) rfl rfl Fx.size150 (sm_len hwr) hwr.one rfl <| .nl <| .bN <| .tN <| .sr <| .yv (.loadW rfl Fx.agg150 (.tail _ <| .tail _ <| .head _) (sm_len hwr)) rfl <| .sV .head rfl rfl Fx.size150 (sm_len hwr) hwr.one rfl <| .nt <| .rt <| ?_
   exact Sx.ret1 (.inl rfl) rfl (.cell rfl Fx.agg150 (.head _) (sm_len hwr)) fun W t => ⟨_, H1, ⟨_, hwr, grew_wrap hm13⟩, rfl, (u1 : HUp w H H1).grow t⟩
  skip
  refine .sk <| .bN <| .tN <| .sr <| .yv (.loadW rfl Fx.agg150 (.tail _ <| .tail _ <| .head _) rfl) rfl <| .sW .head rfl rfl Fx.size150 (by show ∀ u ∈ [_, _, _, _, _, _], Value.oneCell' u = true; simp [Value.oneCell', strV]) rfl <| .nt <| .rt <| ?_
  exact Sx.ret1 (.inl rfl) rfl (.cell rfl Fx.agg150 (.head _) rfl) fun W t => ⟨_, H, ⟨_, h, grew_refl _⟩, rfl, (.refl : HUp w H H).grow t⟩
theorem Fx.agg55 : aggN Tryz.prog 55 = Option.some (Option.some 5) := by kernel_rfl
theorem Fx.agg100 : aggN Tryz.prog 100 = Option.some (Option.some 3) := by kernel_rfl
theorem Fx.call94 : callN Tryz.prog 94 = Bool.true := by kernel_rfl
theorem Fx.field55_1 : fieldN Tryz.prog 55 1 = Option.some 1 := by kernel_rfl
theorem Fx.field100_0 : fieldN Tryz.prog 100 0 = Option.some 0 := by kernel_rfl
theorem Fx.field100_1 : fieldN Tryz.prog 100 1 = Option.some 1 := by kernel_rfl
theorem Fx.field100_2 : fieldN Tryz.prog 100 2 = Option.some 2 := by kernel_rfl
theorem Fx.size66 : sizeN Tryz.prog 66 = Option.some 1 := by kernel_rfl
theorem Fx.size98 : sizeN Tryz.prog 98 = Option.some 1 := by kernel_rfl
theorem Fx.size100 : sizeN Tryz.prog 100 = Option.some 3 := by kernel_rfl
theorem Fx.sl97 : slN Tryz.prog 97 = Option.some 3 := by kernel_rfl
theorem Fx.zero100 : zeroN Tryz.prog 100 = Option.some
  [Go.Value.string { data := { toList := [] } }, Go.Value.slice Option.none 0 0, Go.Value.slice Option.none 0 0] := by kernel_rfl
theorem Fx.bld100_0 (x0 : ByteArray) : buildN Tryz.prog 100 [(0, .string x0)] = some [.string x0, .slice none 0 0, .slice none 0 0] := by kernel_rfl
theorem Fx.bsl66_0  : bslN Tryz.prog 66 0 [] = some (9, []) := by kernel_rfl
theorem Fx.bsl97_0  : bslN Tryz.prog 97 0 [] = some (100, []) := by kernel_rfl
theorem Fx.bsl98_0  : bslN Tryz.prog 98 0 [] = some (150, []) := by kernel_rfl
def gsP (n : Nat) : List Hd := (List.range n).map fun (j : Nat) => ⟨[103] ++ Lib.itoa (j : Nat), [], []⟩
theorem gsP_succ (n : Nat) : gsP (n + 1) = gsP n ++ [⟨[103] ++ Lib.itoa (n : Nat), [], []⟩] := by simp [gsP, List.range_succ]
theorem itoaN_len (j : Nat) (h : j < 100) : (Lib.itoa (j : Nat)).length ≤ 21 := Lib.itoa_length_le _ (by omega) (by omega)
theorem sl_inj {p q : Option Addr} {n m c d : Nat} (h : Value.slice p n c = .slice q m d) : p = q ∧ c = d := by injection h with a _ b; exact ⟨a, b⟩
theorem rep0 {H : Hp} {z n c : Nat} {ds : List D} {p : Option Addr} (h : Rep H (.seq z ds) [.slice p (0 + n) c]) : Rep H (.seq z ds) [.slice p (0 + n) c] := h
theorem hd_len {H : Hp} {k : IntKind} {x : Hd} {cs : List Value} (h : Rep H (dHd k x) cs) : cs.length = 3 := by
  obtain ⟨_, _, _, _, rfl, _⟩ := hd_open h; rfl
theorem stop_shut {H : Hp} : Rep H (dSm .i64 stopS) [.int .i64 10, .string ⟨#[]⟩, .string ⟨#[]⟩, .slice none 0 0, .slice none 0 0, .slice none 0 0] :=
  sm_shut (kd := 10) (nm := []) (hd := []) (ex := []) (th := []) (el := []) (by decide) (by decide) (Rep.empty (by decide)) (Rep.empty (by decide)) (Rep.empty (by decide))
theorem okL_reps : ∀ n, okL n (List.replicate n stopS)
  | 0 => .nil
  | n + 1 => by rw [List.replicate_succ']; exact (okL_reps n).app (okL_stop (Nat.le_refl 1))
theorem get_app {xs more : List Value} {i : Nat} {u : Value} (h : xs[i]? = some u) : (xs ++ more)[i]? = some u := by rw [List.getElem?_append_left (List.getElem?_eq_some_iff.1 h).1]; exact h
theorem ex_bnd {N M : Nat} {l : List Sm} (h : okL N l) {j : Nat} (hj : j < l.length) (hN : N ≤ M) : (l[j]).ex.length ≤ M := by
  have h2 := h.at hj
  generalize l[j] = s at h2
  obtain ⟨kd, nm, hd, ex, th, el⟩ := s
  have := (okL_one.1 h2).2.2.2.1
  exact Nat.le_trans this hN
theorem okV_gs {N m : Nat} {l : List Hd} (h : okV2 N l) (hm : m < 13) : okV2 (2 * N + 100) (l ++ gsP m) := by
  refine ⟨by have := h.len; simp [gsP]; omega, fun x hx => ?_⟩
  rcases List.mem_append.1 hx with hx | hx
  · exact (h.all x hx).mono (by omega)
  · obtain ⟨j, _, rfl⟩ := List.mem_map.1 hx
    exact ⟨by simp, .nil⟩
theorem okV_set {N k : Nat} {l : List Hd} {h1 : Hd} (h : okV2 N l) (k1 : okHd (2 * N + 100) h1) : okV2 (2 * N + 100) (l.set k h1) := by
  refine ⟨by have := h.len; simp; omega, fun x hx => ?_⟩
  rcases List.mem_or_eq_of_mem_set hx with hx | rfl
  · exact (h.all x hx).mono (by omega)
  · exact k1
theorem num_name {j : Nat} {c : UInt8} (h : j < 100) : ([c] ++ Lib.itoa (j : Nat)).length ≤ 1000000 := by
  have := itoaN_len j h; simp; omega
set_option maxHeartbeats 4000000 in
set_option maxRecDepth 100000 in
theorem handlersOf_any (H : Hp) (l : List Hd) (x : Sp) (v : Value) (xs : List Value) (N : Nat) (hN1 : N ≤ 100000) (w : World) (h : Rep H (.seq 3 (l.map (dHd .i64))) [v]) (hX : Rep H (dSp x) xs) (hpos : 0 < l.length) (hok : okV2 N l) (hA : Agr H w) :
    Calls Tryz.prog 54 #[v, .agg xs.toArray] w fun r w' => ∃ (v' : Value) (H' : Hp), (∃ l', Rep H' (.seq 3 (l'.map (dHd .i64))) [v'] ∧ okV2 (2 * N + 100) l') ∧ r = .returned v' ∧ Grow H w H' w' := by
  obtain ⟨pl, cl, el, _⟩ := h.sl
  simp only [List.cons.injEq, and_true, List.length_map] at el
  subst el
  have hl := h
  have hll := hok.len
  have hi256 := x.i.toNat_lt
  obtain ⟨pN, cN, rfl, hN⟩ := sp_open hX
  obtain ⟨m0, hm0⟩ := wu64 x.n.toInt
  obtain ⟨m, hmm⟩ : ∃ m, m = m0 % 13 := ⟨_, rfl⟩
  have hm13 : m < 13 := by omega
  refine Sx.enter (H := H) Tryz.func54 rfl Tryz.ntmps54 rfl hA ?_
  refine .sr <| .bx rfl rfl rfl fun b3 => .a rfl rfl <| .ns <| .yv (.fieldAddr rfl Fx.field55_3) rfl <| .yv (.load rfl Fx.agg2 (.head _) rfl) rfl <| .yv (.conv rfl Fx.int2 Fx.int139 hm0) rfl <| .yv (.rem rfl rfl (by decide) (c := ((m : Nat) : Int)) (by rw [hmm]; exact tm2 _ 13)) rfl <| .yv (.conv rfl Fx.int139 Fx.int3 (c := ((m : Nat) : Int)) (w6 (by omega))) rfl <| .a rfl rfl <| .ns <| .blR rfl Fx.bsl97_0 rfl (z := 3) rfl (by decide) fun g18 => .m rfl rfl <| .apD Fx.row97 rfl (fun _ _ => .head) rfl hl (by simp [maxLen]; omega) (by omega) rfl fun xs20 r20 hz20 => ?_
  refine At.rs (.head _) (by omega) fun g20 c20 e20 => ?_
  subst e20
  refine .a rfl rfl <| .ns <| .yv (.fieldAddr rfl Fx.field55_1) rfl <| .yv (.load rfl Fx.agg5 (.tail _ <| .head _) rfl) rfl <| .yv (.quo rfl rfl (by decide) (c := ((x.i.toNat / 8 : Nat) : Int)) (qu8 _ (by have := (x.i).toNat_lt; omega) (by decide))) rfl <| .yv (.conv rfl Fx.int5 Fx.int3 (c := ((x.i.toNat / 8 : Nat) : Int)) (w6 (by omega))) rfl <| .m rfl rfl <| .yv (.lenSl Fx.sl97 rfl) rfl <| .yv (.rem rfl rfl (by omega) (c := ((x.i.toNat / 8 % (0 + l.length) : Nat) : Int)) (tm2 _ _)) rfl <| ?_
  have hk : x.i.toNat / 8 % (0 + l.length) < l.length := by have := Nat.mod_lt (x.i.toNat / 8) (show 0 < 0 + l.length by omega); omega
  generalize x.i.toNat / 8 % (0 + l.length) = k at hk ⊢
  obtain ⟨cE, rE, lE, mE⟩ := hz20.at (i := k) (map_at (f := dHd .i64) hk)
  have ok0 := hok.all _ (List.getElem_mem hk)
  generalize hh0 : l[k] = h0 at rE ok0
  obtain ⟨nm0, ps0, bd0⟩ := h0
  obtain ⟨q1, d1, q2, d2, rfl, k0, k1, k2⟩ := hd_open rE
  dsimp only at k0 k1 k2 mE
  have hbd : bd0.length ≤ N := ok0.body.len
  have hpl : ps0.length ≤ N := ok0.ps
  refine .a rfl rfl <| .ns <| .m rfl rfl <| .m rfl rfl <| .yv (.indexSl Fx.sl97 rfl rfl (i := k) rfl (by omega) (q := k * 3) (by omega)) rfl <| .yv (.loadR (vs := [strV nm0, .slice q1 ps0.length d1, .slice q2 bd0.length d2]) rfl Fx.agg100 (.head _) rfl mE) rfl <| .al Fx.zero100 rfl fun b8 => .sW .head rfl rfl Fx.size100 (by simp [Value.oneCell', strV]) rfl <| .ns <| .blR rfl Fx.bsl98_0 rfl (z := 6) rfl (by decide) fun g32 => .yv (.fieldAddr rfl Fx.field100_2) rfl <| .yv (.load rfl Fx.agg98 (.tail _ <| .head _) rfl) rfl <| .apD Fx.row98 rfl (fun _ _ => .head) rfl k2 (by simp [maxLen]; omega) (by omega) rfl fun xs35 r35 hz35 => ?_
  refine At.ra (.head _) fun p35 c35 e35 => ?_
  subst e35
  refine .yv (.fieldAddr rfl Fx.field100_2) rfl <| .st (.tail <| .head) rfl rfl Fx.size98 rfl (nb rfl) rfl <| .nt <| .cu (X := Hp × Hd × List Value) [(7, _), (8, _)] ⟨rfl, rfl, trivial⟩ (fun z => [(6, .slice (some ⟨g20, 0, none⟩) (0 + l.length) c20)]) (fun z => z.1) (fun z => [.row 100 3 (.slice (some ⟨g20, 0, none⟩) (0 + l.length) c20) (0 + l.length) ([] ++ xs20), .box b8 z.2.2 100]) (fun z => HUp w H z.1 ∧ Rep z.1 (dHd .i64 z.2.1) z.2.2 ∧ okHd (2 * N + 100) z.2.1) ?_ fun z hC => ?_
  ·
   refine .sr <| .yv (.fieldAddr rfl Fx.field55_0) rfl <| .yv (.load rfl Fx.agg5 (.tail _ <| .tail _ <| .tail _ <| .head _) rfl) rfl <| .yv (.rem rfl rfl (by decide) (c := ((x.wh.toNat % 26 : Nat) : Int)) (by rw [Int.tmod_eq_emod_of_nonneg (by omega)]; omega)) rfl <| .nt <| .bk <| .sr <| .yv (.eql rfl rfl) rfl <| .a rfl rfl <| .nt <| .cd rfl (fun h66 => ?_) (fun h66 => ?_)
   ·skip
    refine .sq <| .sr <| .a rfl rfl <| .nt <| .bk <| .pm [2, 0, 1, 3] [_, _, _, _] rfl rfl <| .lp (X := Nat × Value × List Value) [(5, _), (7, _), (8, _)] ⟨rfl, rfl, rfl, trivial⟩ [_, _, _] (fun z => [(6, z.2.1), (9, .int .i64 (z.1 : Nat))]) (fun z => H) (fun z => [.row 100 3 z.2.1 (0 + l.length + z.1) z.2.2]) (fun z => z.1 ≤ m ∧ RepZ H 3 ((l ++ gsP z.1).map (dHd .i64)) z.2.2) (fun z => m - z.1) (0, _, _) (fun _ s => s) ⟨rfl, rfl, trivial⟩ ⟨by simp, by rw [show gsP 0 = [] from rfl, List.append_nil]; exact hz20⟩ fun z hC => ?_
    obtain ⟨j, ro, ys⟩ := z
    dsimp only at hC ⊢
    obtain ⟨hj0, hzg⟩ := hC
    refine .sq <| .sr <| .m rfl rfl <| .m rfl rfl <| .yv (.lss rfl rfl) rfl <| .nt <| .cd rfl (fun h70 => ?_) (fun h70 => ?_)
    ·try simp only [dt] at h70
     have hj : j < m := by omega
     exact .sk <| .tN <| .sq <| .bk <| .rg <| .m rfl rfl <| .m rfl rfl <| .yv (.call Fx.call33 rfl (fun W s => number_any H ((j : Nat) : Int) (by omega) (by omega) W s.agr)) rfl <| .yv (.app rfl rfl (by have := itoaN_len j (by omega); simp; omega)) rfl <| .yv (.build rfl (Fx.bld100_0 _)) rfl <| .bl rfl (Fx.bsl97_1 _ _ _) rfl fun b78 => .ap (news := [strV ([103] ++ Lib.itoa (j : Nat)), .slice none 0 0, .slice none 0 0]) Fx.row97 rfl (fun _ => (.tail <| .head)) rfl (.box (.head _) z0) rfl (by simp [Value.oneCell', strV]) (by simp [maxLen]; omega) (by omega) rfl fun r79 _ => .a rfl rfl <| .nl <| .bN <| .tN <| .rg <| .m rfl rfl <| .yv (.add rfl rfl (w6 (by omega))) rfl <| .a rfl rfl <| .nt <| .ag (x := (j, ro, ys)) (j + 1, r79, ys ++ [strV ([103] ++ Lib.itoa (j : Nat)), .slice none 0 0, .slice none 0 0]) ⟨rfl, rfl, trivial⟩ ⟨rfl, rfl, rfl, trivial⟩ (fun _ s => (s.pick [1, 2, 3, 4] _ rfl rfl)) ⟨by dsimp only; omega, by dsimp only; rw [gsP_succ, ← List.append_assoc, List.map_append]; exact hzg.snoc (hd_shut (x := ⟨[103] ++ Lib.itoa (j : Nat), [], []⟩) (num_name (by omega)) (Rep.empty (by decide)) (Rep.empty (by decide))) rfl⟩ (by dsimp only; omega)
    try simp only [df] at h70
    obtain rfl : m = j := by omega
    refine .ex <| .tE <| .tE <| .bE <| .tN <| .sr <| .m rfl rfl <| .a rfl rfl <| .nt <| .rt <| .bR <| .tR <| ?_
    refine Sx.freezeSeq (ds := (l ++ gsP m).map (dHd .i64)) (by simp [gsP]) hzg fun HB pB cB uB eB hB => ?_
    exact Sx.ret1 (.inl rfl) rfl (.tmp rfl) fun W t => ⟨ro, HB, ⟨l ++ gsP m, hB, okV_gs hok (by omega)⟩, rfl, uB.grow t⟩
   skip
   refine .sr <| .yv (.eql rfl rfl) rfl <| .a rfl rfl <| .nt <| .cd rfl (fun h81 => ?_) (fun h81 => ?_)
   ·skip
    refine .rg <| .yv (.fieldAddr rfl Fx.field55_2) rfl <| .yv (.load rfl Fx.agg5 (.tail _ <| .tail _ <| .tail _ <| .head _) rfl) rfl <| .yv (.call Fx.call53 rfl (fun W s => word_any H x.nm W s.agr)) rfl <| .yv (.fieldAddr rfl Fx.field100_0) rfl <| .st (.tail <| .head) rfl rfl Fx.size9 rfl (nb rfl) rfl <| ?_
    refine Sx.freezeSeq (ds := bd0.map (dSm .i64)) (by simp) hz35 fun HB pB cB uB eB hB => ?_
    obtain ⟨rfl, rfl⟩ := sl_inj eB
    exact .nl <| .bN <| .tN <| .me (HB, ⟨wordR x.nm, ps0, bd0⟩, _) ⟨rfl, trivial⟩ ⟨rfl, rfl, trivial⟩ (fun _ s => s.pick [1, 0] [_, _] rfl rfl) ⟨uB, hd_shut (x := ⟨wordR x.nm, ps0, bd0⟩) (Nat.le_trans (word_len _) (by decide)) (k1.up uB.up) (rep0 hB), ⟨by have := ok0.ps; show ps0.length ≤ _; have h : ps0.length ≤ N := this; omega, ok0.body.mono (by omega)⟩⟩
   skip
   refine .sr <| .yv (.eql rfl rfl) rfl <| .a rfl rfl <| .nt <| .cd rfl (fun h87 => ?_) (fun h87 => ?_)
   ·skip
    refine .sr <| .a rfl rfl <| .nt <| .bk <| .pm [1, 0, 2, 3] [_, _, _, _] rfl rfl <| .lp (X := Nat × Hp × Option Addr × Nat × Nat) [(5, _), (6, _), (7, _), (8, _)] ⟨rfl, rfl, rfl, rfl, trivial⟩ [_, _, _] (fun z => [(10, .int .i64 (z.1 : Nat))]) (fun z => z.2.1) (fun z => [.box b8 [strV nm0, .slice z.2.2.1 z.2.2.2.1 z.2.2.2.2, .slice p35 (0 + bd0.length) c35] 100]) (fun z => z.1 ≤ m ∧ HUp w H z.2.1 ∧ ∃ ps : List Str, ps.length = ps0.length + z.1 ∧ Rep z.2.1 (.seq 1 (ps.map dStr)) [.slice z.2.2.1 z.2.2.2.1 z.2.2.2.2]) (fun z => m - z.1) (0, H, _, _, _) (fun _ s => s) ⟨rfl, trivial⟩ ⟨by simp, .refl, ps0, by simp, k1⟩ fun z hC => ?_
    obtain ⟨j, H1, pp, pn, pc⟩ := z
    dsimp only at hC ⊢
    obtain ⟨hj0, uP, ps, hpsl, hps⟩ := hC
    have hpn := hps.len.1
    rw [List.length_map] at hpn
    refine .sq <| .sr <| .m rfl rfl <| .m rfl rfl <| .yv (.lss rfl rfl) rfl <| .nt <| .cd rfl (fun h91 => ?_) (fun h91 => ?_)
    ·try simp only [dt] at h91
     have hj : j < m := by omega
     refine .sk <| .tN <| .sq <| .bk <| .rg <| .blR rfl Fx.bsl66_0 rfl (z := 1) rfl (by decide) fun g94 => .yv (.fieldAddr rfl Fx.field100_1) rfl <| .yv (.load rfl Fx.agg66 (.tail _ <| .head _) rfl) rfl <| .apD Fx.row66 rfl (fun _ _ => .head) rfl hps (by simp [maxLen]; omega) (by omega) rfl fun xs97 r97 hz97 => .m rfl rfl <| .yv (.call Fx.call33 rfl (fun W s => number_any H1 ((j : Nat) : Int) (by omega) (by omega) W s.agr)) rfl <| .yv (.app rfl rfl (by have := itoaN_len j (by omega); simp; omega)) rfl <| .bl rfl (Fx.bsl66_1 _) rfl fun b101 => .ap (news := [strV ([113] ++ Lib.itoa (j : Nat))]) Fx.row66 rfl (fun _ => (.tail <| .head)) rfl (.box (.head _) z0) rfl (by simp [Value.oneCell', strV]) (by simp [maxLen]; omega) (by omega) rfl fun r102 _ => ?_
     refine At.ra (.tail _ <| .head _) fun p102 c102 e102 => ?_
     subst e102
     refine .yv (.fieldAddr rfl Fx.field100_1) rfl <| .st (.tail <| .tail <| .head) rfl rfl Fx.size66 rfl (nb rfl) rfl <| ?_
     refine At.pm [1, 0, 2, 3, 4, 5] [_, _, _, _, _, _] rfl rfl ?_
     refine Sx.freezeSeq (ds := (ps ++ [[113] ++ Lib.itoa (j : Nat)]).map dStr) (by simp; omega) (by rw [List.map_append]; exact hz97.snoc (str_shut (num_name (by omega))) rfl) fun H2 p2 c2 u2 e2 h2 => ?_
     obtain ⟨rfl, rfl⟩ := sl_inj e2
     exact .nl <| .bN <| .tN <| .rg <| .m rfl rfl <| .yv (.add rfl rfl (w6 (by omega))) rfl <| .a rfl rfl <| .nt <| .ag (x := (j, H1, pp, pn, pc)) (j + 1, H2, p102, 0 + pn + 1, c102) ⟨rfl, trivial⟩ ⟨rfl, rfl, rfl, rfl, trivial⟩ (fun _ s => (s.pick [1, 2, 3, 4] _ rfl rfl)) ⟨by dsimp only; omega, uP.trans u2, ps ++ [[113] ++ Lib.itoa (j : Nat)], by simp; omega, h2⟩ (by dsimp only; omega)
    try simp only [df] at h91
    obtain rfl : m = j := by omega
    refine At.pm [1, 0, 2, 3] [_, _, _, _] rfl rfl ?_
    refine Sx.freezeSeq (ds := bd0.map (dSm .i64)) (by simp) (RepZ.up uP.up hz35) fun HB pB cB uB eB hB => ?_
    obtain ⟨rfl, rfl⟩ := sl_inj eB
    exact .ex <| .tE <| .tE <| .bE <| .bN <| .tN <| .me (HB, ⟨nm0, ps, bd0⟩, _) ⟨rfl, trivial⟩ ⟨rfl, rfl, trivial⟩ (fun _ s => s.pick [1, 0] [_, _] rfl rfl) ⟨uP.trans uB, hd_shut (x := ⟨nm0, ps, bd0⟩) k0 (hps.up uB.up) (rep0 hB), ⟨by show ps.length ≤ _; have h : ps0.length ≤ N := ok0.ps; omega, ok0.body.mono (by omega)⟩⟩
   skip
   refine .sr <| .yv (.eql rfl rfl) rfl <| .a rfl rfl <| .nt <| .cd rfl (fun h104 => ?_) (fun h104 => ?_)
   ·skip
    refine .fl (trip := [(_, _, _), (_, _, _), (_, _, _), (_, _, _), (_, _, _), (_, _, _), (_, _, _), (_, _, _)]) 8 [(1, 0), (2, 0), (4, 0), (5, 0), (0, 1), (3, 3), (6, 0), (7, 1)] (by kernel_rfl) (by kernel_rfl) rfl <| .yv (.fieldAddr rfl Fx.field100_1) rfl <| .yv (.load rfl Fx.agg66 (.tail _ <| .head _) rfl) rfl <| .yv (.fieldAddr rfl Fx.field55_2) rfl <| .yv (.load rfl Fx.agg5 (.tail _ <| .tail _ <| .tail _ <| .head _) rfl) rfl <| .blR rfl Fx.bsl66_0 rfl (z := 1) rfl (by decide) fun g106 => .apD Fx.row66 rfl (fun _ _ => .head) rfl k1 (by simp [maxLen]; omega) (by omega) rfl (fun _ _ => (.yv (.load rfl Fx.agg5 (.tail _ <| .tail _ <| .tail _ <| .tail _ <| .head _) rfl) <| .yv (.fieldAddr rfl Fx.field55_2) <| .done (by kernel_rfl) <| .done (by kernel_rfl) <| .nl)) fun xs109 p109 c109 hz109 => .yv (.call Fx.call53 rfl (fun W s => word_any H x.nm W s.agr)) rfl <| .bl rfl (Fx.bsl66_1 _) rfl fun b113 => .fn (tl := [_, _, _]) rfl <| .ap (news := [strV (wordR x.nm)]) Fx.row66 rfl (fun _ => (.tail <| .head)) rfl (.box (.head _) z0) rfl (by simp [Value.oneCell', strV]) (by simp [maxLen]; omega) (by omega) rfl fun r114 _ => ?_
    refine At.ra (.tail _ <| .head _) fun p114 c114 e114 => ?_
    subst e114
    refine .yv (.fieldAddr rfl Fx.field100_1) rfl <| .st (.tail <| .tail <| .tail <| .head) rfl rfl Fx.size66 rfl (nb rfl) rfl <| ?_
    refine At.pm [1, 0, 2, 3, 4, 5] [_, _, _, _, _, _] rfl rfl ?_
    refine Sx.freezeSeq (ds := (ps0 ++ [wordR x.nm]).map dStr) (by simp) (by rw [List.map_append]; exact hz109.snoc (str_shut (Nat.le_trans (word_len _) (by decide))) rfl) fun H2 p2 c2 uP e2 hps => ?_
    obtain ⟨rfl, rfl⟩ := sl_inj e2
    refine At.pm [1, 0, 2, 3, 4] [_, _, _, _, _] rfl rfl ?_
    refine Sx.freezeSeq (ds := bd0.map (dSm .i64)) (by simp) (RepZ.up uP.up hz35) fun HB pB cB uB eB hB => ?_
    obtain ⟨rfl, rfl⟩ := sl_inj eB
    exact .nl <| .bN <| .tN <| .me (HB, ⟨nm0, ps0 ++ [wordR x.nm], bd0⟩, _) ⟨rfl, trivial⟩ ⟨rfl, rfl, trivial⟩ (fun _ s => s.pick [2, 1] [_, _] rfl rfl) ⟨uP.trans uB, hd_shut (x := ⟨nm0, ps0 ++ [wordR x.nm], bd0⟩) k0 (hps.up uB.up) (rep0 hB), ⟨by show (ps0 ++ [wordR x.nm]).length ≤ _; have h : ps0.length ≤ N := ok0.ps; rw [List.length_append, List.length_singleton]; omega, ok0.body.mono (by omega)⟩⟩
   skip
   refine .sr <| .yv (.eql rfl rfl) rfl <| .a rfl rfl <| .nt <| .cd rfl (fun h116 => ?_) (fun h116 => ?_)
   ·skip
    refine .sr <| .a rfl rfl <| .nt <| .bk <| .lp (X := Nat × Value × List Value) [(5, _), (6, _), (7, _), (8, _)] ⟨rfl, rfl, rfl, rfl, trivial⟩ [_, _] (fun z => [(11, .int .i64 (z.1 : Nat))]) (fun z => H) (fun z => [.row 150 6 z.2.1 (0 + bd0.length + z.1) z.2.2, .box b8 [strV nm0, .slice q1 ps0.length d1, z.2.1] 100]) (fun z => z.1 ≤ 4 * m ∧ RepZ H 6 ((bd0 ++ List.replicate z.1 stopS).map (dSm .i64)) z.2.2) (fun z => 4 * m - z.1) (0, _, _) (fun _ s => s) ⟨rfl, trivial⟩ ⟨by simp, by simpa using hz35⟩ fun z hC => ?_
    obtain ⟨j, rb, ys⟩ := z
    dsimp only at hC ⊢
    obtain ⟨hj0, hzb⟩ := hC
    refine .sq <| .sr <| .m rfl rfl <| .m rfl rfl <| .yv (.mul rfl rfl (c := ((4 * m : Nat) : Int)) ((w6 (by omega)).trans (by omega))) rfl <| .yv (.lss rfl rfl) rfl <| .nt <| .cd rfl (fun h121 => ?_) (fun h121 => ?_)
    ·try simp only [dt] at h121
     have hj : j < 4 * m := by omega
     refine .sk <| .tN <| .sq <| .bk <| .rg <| .yv (.fieldAddr rfl Fx.field100_2) rfl <| .yv (.load rfl Fx.agg98 (.tail _ <| .head _) rfl) rfl <| .yv (.build rfl (Fx.bld150_0 _)) rfl <| .bl rfl (Fx.bsl98_1 _ _ _ _ _ _) rfl fun b127 => .ap (news := [.int .i64 10, .string ⟨#[]⟩, .string ⟨#[]⟩, .slice none 0 0, .slice none 0 0, .slice none 0 0]) Fx.row98 rfl (fun _ => (.tail <| .head)) rfl (.box (.head _) z0) rfl (by simp [Value.oneCell', strV]) (by simp [maxLen]; omega) (by omega) rfl fun r128 _ => ?_
     refine At.ra (.tail _ <| .head _) fun p128 c128 e128 => ?_
     exact .yv (.fieldAddr rfl Fx.field100_2) rfl <| .st (.tail <| .tail <| .head) rfl rfl Fx.size98 (by rw [e128]; rfl) (nb rfl) rfl <| .nl <| .bN <| .tN <| .rg <| .m rfl rfl <| .yv (.add rfl rfl (w6 (by omega))) rfl <| .a rfl rfl <| .nt <| .ag (x := (j, rb, ys)) (j + 1, r128, ys ++ [.int .i64 10, .string ⟨#[]⟩, .string ⟨#[]⟩, .slice none 0 0, .slice none 0 0, .slice none 0 0]) ⟨rfl, trivial⟩ ⟨rfl, rfl, rfl, rfl, trivial⟩ (fun _ s => (s.pick [1, 2, 3, 4] _ rfl rfl)) ⟨by dsimp only; omega, by dsimp only; rw [List.replicate_succ', ← List.append_assoc, List.map_append]; exact hzb.snoc stop_shut rfl⟩ (by dsimp only; omega)
    try simp only [df] at h121
    obtain rfl : j = 4 * m := by omega
    refine Sx.freezeSeq (ds := (bd0 ++ List.replicate (4 * m) stopS).map (dSm .i64)) (by simp) hzb fun HB pB cB uB eB hB => ?_
    subst eB
    exact .ex <| .tE <| .tE <| .bE <| .bN <| .tN <| .me (HB, ⟨nm0, ps0, bd0 ++ List.replicate (4 * m) stopS⟩, _) ⟨rfl, trivial⟩ ⟨rfl, rfl, trivial⟩ (fun _ s => s.pick [1, 0] [_, _] rfl rfl) ⟨uB, hd_shut (x := ⟨nm0, ps0, bd0 ++ List.replicate (4 * m) stopS⟩) k0 (k1.up uB.up) hB, ⟨by show ps0.length ≤ _; have h : ps0.length ≤ N := ok0.ps; omega, (ok0.body.app (okL_reps (4 * m))).mono (by omega)⟩⟩
   skip
   refine .sr <| .yv (.eql rfl rfl) rfl <| .a rfl rfl <| .nt <| .cd rfl (fun h130 => ?_) (fun h130 => ?_)
   ·skip
    refine .fl (trip := [(_, _, _), (_, _, _), (_, _, _), (_, _, _), (_, _, _), (_, _, _)]) 6 [(0, 0), (1, 0), (2, 0), (3, 0), (4, 1), (5, 1)] (by kernel_rfl) (by kernel_rfl) rfl <| .yv (.fieldAddr rfl Fx.field100_2) rfl <| .yv (.load rfl Fx.agg98 (.tail _ <| .head _) rfl) rfl <| .yv (.build rfl (Fx.bld150_0 _)) rfl <| .m rfl rfl <| .ct (X := List Value) Fx.call93 rfl (fun W s => wrap_any H stopS m (by omega) _ W stop_shut s.agr) rfl fun y136 H136 hw136 u136 => ?_
    generalize hws : wrapS m stopS = sw at hw136
    obtain ⟨kd, snm, shd, ex, th, el⟩ := sw
    obtain ⟨p1, c1, p2, c2, p3, c3, rfl, hs1, hs2, hs3, hn1, hn2⟩ := sm_open hw136
    refine .bl rfl (Fx.bsl98_1 _ _ _ _ _ _) rfl fun b137 => .fn (tl := [_, _, _]) rfl <| .ap (news := [.int .i64 kd.toNat, strV snm, strV shd, .slice p1 ex.length c1, .slice p2 th.length c2, .slice p3 el.length c3]) Fx.row98 rfl (fun _ => (.tail <| .head)) rfl (.box (.head _) z0) rfl (by simp [Value.oneCell', strV]) (by simp [maxLen]; omega) (by omega) rfl fun r138 _ => ?_
    refine At.ra (.tail _ <| .head _) fun p138 c138 e138 => ?_
    subst e138
    refine .yv (.fieldAddr rfl Fx.field100_2) rfl <| .st (.tail <| .tail <| .head) rfl rfl Fx.size98 rfl (nb rfl) rfl <| ?_
    refine At.pm [1, 0, 2, 3, 4] [_, _, _, _, _] rfl rfl ?_
    refine Sx.freezeSeq (ds := (bd0 ++ [wrapS m stopS]).map (dSm .i64)) (by simp) (by rw [List.map_append, hws]; exact (RepZ.up u136.up hz35).snoc hw136 rfl) fun HB pB cB uB eB hB => ?_
    obtain ⟨rfl, rfl⟩ := sl_inj eB
    exact .nl <| .bN <| .tN <| .me (HB, ⟨nm0, ps0, bd0 ++ [wrapS m stopS]⟩, _) ⟨rfl, trivial⟩ ⟨rfl, rfl, trivial⟩ (fun _ s => s.pick [2, 1] [_, _] rfl rfl) ⟨u136.trans uB, hd_shut (x := ⟨nm0, ps0, bd0 ++ [wrapS m stopS]⟩) k0 (k1.up (u136.trans uB).up) hB, ⟨by show ps0.length ≤ _; have h : ps0.length ≤ N := ok0.ps; omega, (ok0.body.app (okL_wrap (okL_stop (Nat.le_refl 1)) m)).mono (by omega)⟩⟩
   skip
   refine .cu (X := List Sm × Value × List Value) [(3, _), (6, _), (7, _), (8, _)] ⟨rfl, rfl, rfl, rfl, trivial⟩ (fun z => []) (fun z => H) (fun z => [.row 150 6 z.2.1 z.1.length z.2.2, .box b8 [strV nm0, .slice q1 ps0.length d1, z.2.1] 100, .row 100 3 (.slice (some ⟨g20, 0, none⟩) (0 + l.length) c20) (0 + l.length) ([] ++ xs20), .box b3 [.int .u8 x.wh.toNat, .int .u8 x.i.toNat, .int .u8 x.nm.toNat, .int .i64 x.n.toInt, .slice pN x.nodes.length cN] 55]) (fun z => 0 < z.1.length ∧ RepZ H 6 (z.1.map (dSm .i64)) z.2.2 ∧ okL (N + 1) z.1) ?_ fun z hC => ?_
   ·
    refine .sr <| .yv (.fieldAddr rfl Fx.field100_2) rfl <| .yv (.load rfl Fx.agg98 (.tail _ <| .head _) rfl) rfl <| .yv (.lenSl Fx.sl98 rfl) rfl <| .yv (.eql rfl rfl) rfl <| .nt <| .cd rfl (fun h43 => ?_) (fun h43 => ?_)
    ·try simp only [dt] at h43
     have hb0 : bd0.length = 0 := by omega
     exact .rg <| .yv (.build rfl (Fx.bld150_0 _)) rfl <| .blR rfl (Fx.bsl98_1 _ _ _ _ _ _) rfl (z := 6) rfl (by decide) fun g45 => .yv (.fieldAddr rfl Fx.field100_2) rfl <| .st (.tail <| .tail <| .head) rfl rfl Fx.size98 rfl (nb rfl) rfl <| .nt <| .me ([stopS], _, _) trivial ⟨rfl, rfl, rfl, rfl, trivial⟩ (fun _ s => s.pick [0, 2, 3, 4] [_, _, _, _] rfl rfl) ⟨by simp, .single stop_shut rfl, okL_stop (by omega)⟩
    try simp only [df] at h43
    have hb0 : 0 < bd0.length := by omega
    exact .sk <| .tN <| .me (bd0, _, _) trivial ⟨rfl, rfl, rfl, rfl, trivial⟩ (fun _ s => by rw [Nat.zero_add] at s; exact (s.pick [0, 1, 2, 3] _ rfl rfl)) ⟨hb0, hz35, ok0.body.mono (by omega)⟩
   obtain ⟨bs, rb, ys⟩ := z
   dsimp only at hC ⊢
   obtain ⟨hb0, hzb, okb⟩ := hC
   have hbl : bs.length ≤ N + 1 := okb.len
   refine At.rb hb0 fun gB capB moreB eB hcB1 hcB2 => ?_
   subst eB
   refine .sr <| .yv (.fieldAddr rfl Fx.field55_1) rfl <| .yv (.load rfl Fx.agg5 (.tail _ <| .tail _ <| .tail _ <| .head _) rfl) rfl <| .yv (.quo rfl rfl (by decide) (c := ((x.i.toNat / 4 : Nat) : Int)) (qu8 _ (by have := (x.i).toNat_lt; omega) (by decide))) rfl <| .yv (.conv rfl Fx.int5 Fx.int3 (c := ((x.i.toNat / 4 : Nat) : Int)) (w6 (by omega))) rfl <| .yv (.fieldAddr rfl Fx.field100_2) rfl <| .yv (.load rfl Fx.agg98 (.tail _ <| .head _) rfl) rfl <| .yv (.lenSl Fx.sl98 rfl) rfl <| .yv (.rem rfl rfl (by omega) (c := ((x.i.toNat / 4 % bs.length : Nat) : Int)) (tm2 _ _)) rfl <| ?_
   have hj : x.i.toNat / 4 % bs.length < bs.length := Nat.mod_lt _ hb0
   generalize x.i.toNat / 4 % bs.length = j at hj ⊢
   obtain ⟨cS, rS, lS, mS⟩ := hzb.at (i := j) (map_at (f := dSm .i64) hj)
   refine .a rfl rfl <| .nt <| .fl (trip := [(_, _, _), (_, _, _), (_, _, _), (_, _, _), (_, _, _), (_, _, _), (_, _, _), (_, _, _), (_, _, _), (_, _, _)]) 10 [(0, 0), (1, 0), (2, 0), (3, 0), (4, 0), (5, 0), (6, 0), (7, 0), (8, 0), (9, 1)] (by kernel_rfl) (by kernel_rfl) rfl <| .yv (.fieldAddr rfl Fx.field100_2) rfl <| .yv (.load rfl Fx.agg98 (.tail _ <| .head _) rfl) rfl <| .m rfl rfl <| .yv (.fieldAddr rfl Fx.field100_2) rfl <| .yv (.load rfl Fx.agg98 (.tail _ <| .head _) rfl) rfl <| .m rfl rfl <| .yv (.indexSl Fx.sl98 rfl rfl (i := j) rfl (by omega) (q := j * 6) (by omega)) rfl <| .yv (.loadS (vs := cS) rfl Fx.agg150 (.head _) lS (fun j u e => get_app (mS j u e))) rfl <| .yv (.loadW rfl Fx.agg55 (.tail _ <| .tail _ <| .tail _ <| .head _) rfl) rfl <| .ct (X := List Value) Fx.call94 rfl (fun W s => change_any H _ x cS _ W rS hX (ex_bnd okb hj (by omega)) s.agr) rfl fun y64 H64 hc64 u64 => ?_
   obtain ⟨s2, hs2, gs⟩ := hc64
   refine .fn (tl := [_, _]) rfl <| .yv (.indexSl Fx.sl98 rfl rfl (i := j) rfl (by omega) (q := j * 6) (by omega)) rfl <| .sE (vs := y64) .head rfl rfl (by rw [sm_len hs2]; exact Fx.size150) hs2.one (by rw [sm_len hs2, List.length_append, hzb.len, List.length_map]; omega) <| ?_
   refine Sx.freezeBox fun HB uB mB => ?_
   rw [setsL_app _ _ _ _ (by rw [sm_len hs2, hzb.len, List.length_map]; omega)] at mB
   have hB : Rep HB (.seq 6 ((bs.set j s2).map (dSm .i64))) [.slice (some ⟨gB, 0, none⟩) bs.length capB] := Rep.mk mB.pre (by rw [List.map_set]; exact RepZ.put (hs2.up uB.up) (sm_len hs2) (hzb.up (u64.trans uB).up) (by simpa using hj)) (by simp) hcB1 hcB2
   exact .nl <| .bN <| .tN <| .me (HB, ⟨nm0, ps0, bs.set j s2⟩, _) ⟨rfl, trivial⟩ ⟨rfl, rfl, trivial⟩ (fun _ s => s.pick [1, 0] [_, _] rfl rfl) ⟨u64.trans uB, hd_shut (x := ⟨nm0, ps0, bs.set j s2⟩) k0 (k1.up (u64.trans uB).up) hB, ⟨by show ps0.length ≤ _; have h : ps0.length ≤ N := ok0.ps; omega, (okb.put hj (gs _ (okb.at hj))).mono (by omega)⟩⟩
  obtain ⟨H1, h1, ch⟩ := z
  dsimp only at hC ⊢
  obtain ⟨u1, hch, ok1⟩ := hC
  refine At.rc (by omega) fun more hc1 hc2 => ?_
  refine .sr <| .m rfl rfl <| .m rfl rfl <| .yv (.loadW rfl Fx.agg100 (.tail _ <| .head _) (hd_len hch)) rfl <| .yv (.indexSl Fx.sl97 rfl rfl (i := k) rfl (by omega) (q := k * 3) (by omega)) rfl <| .sE (vs := ch) .head rfl rfl (by rw [hd_len hch]; exact Fx.size100) hch.one (by rw [hd_len hch, List.length_append, List.length_append, hz20.len, List.length_map]; simp; omega) <| .ns <| .m rfl rfl <| .a rfl rfl <| .nt <| .rt <| ?_
  refine Sx.freezeBox fun HB uB mB => ?_
  rw [setsL_app _ _ _ _ (by rw [hd_len hch, List.length_append, hz20.len, List.length_map]; simp; omega)] at mB
  exact Sx.ret1 (.inl rfl) rfl (.tmp rfl) fun W t => ⟨_, HB, ⟨l.set k h1, Rep.mk mB.pre (by rw [List.map_set]; exact RepZ.put (hch.up uB.up) (hd_len hch) (hz20.up (u1.trans uB).up) (by simpa using hk)) (by simp) hc1 hc2, okV_set hok ok1⟩, rfl, (u1.trans uB).grow t⟩
theorem Fx.agg97 : aggN Tryz.prog 97 = Option.some Option.none := by kernel_rfl
theorem Fx.call54 : callN Tryz.prog 54 = Bool.true := by kernel_rfl
theorem Fx.field32_0 : fieldN Tryz.prog 32 0 = Option.some 0 := by kernel_rfl
theorem Fx.field91_0 : fieldN Tryz.prog 91 0 = Option.some 0 := by kernel_rfl
theorem Fx.size97 : sizeN Tryz.prog 97 = Option.some 1 := by kernel_rfl
theorem Fx.sl30 : slN Tryz.prog 30 = Option.some 3 := by kernel_rfl
theorem Fx.sl89 : slN Tryz.prog 89 = Option.some 1 := by kernel_rfl
theorem Fx.bld84_0 (x0 : ByteArray) : buildN Tryz.prog 84 [(0, .string x0)] = some [.string x0, .bool false] := by kernel_rfl
theorem Fx.bld93_0_1 (x0 : ByteArray) (x1 : Int) : buildN Tryz.prog 93 [(0, .string x0), (1, .int .i64 x1)] = some [.string x0, .int .i64 x1, .int .i64 0] := by kernel_rfl
theorem Fx.bsl28_0  : bslN Tryz.prog 28 0 [] = some (84, []) := by kernel_rfl
theorem Fx.bsl29_0  : bslN Tryz.prog 29 0 [] = some (86, []) := by kernel_rfl
theorem Fx.bsl30_0  : bslN Tryz.prog 30 0 [] = some (91, []) := by kernel_rfl
theorem Fx.bsl88_0  : bslN Tryz.prog 88 0 [] = some (93, []) := by kernel_rfl
theorem Fx.bsl89_0  : bslN Tryz.prog 89 0 [] = some (97, []) := by kernel_rfl
theorem one_at {v : Value} {xs : List Value} {o : Nat} (h : xs[o]? = some v) : ∀ (j : Nat) u, [v][j]? = some u → xs[o + j]? = some u := fun j u e => by
  match j, e with
  | 0, e => simp at e; rw [Nat.add_zero, h, e]
def wvar (n : UInt8) : Vr := ⟨wordR n, 1, 0⟩
theorem yvar_shut {H : Hp} (n : UInt8) (i : Int64) : Rep H (dVr .i64 ⟨[121], UInt8.ofNat (n.toNat % 5), i⟩) [strV [121], .int .i64 (n.toNat % 5 : Nat), .int .i64 i.toInt] := by
  have := vr_shut (H := H) (k := .i64) (x := ⟨[121], UInt8.ofNat (n.toNat % 5), i⟩) (show [(121 : UInt8)].length ≤ 1000000 by decide)
  have e : (UInt8.ofNat (n.toNat % 5)).toNat = n.toNat % 5 := by rw [UInt8.toNat_ofNat']; omega
  simp only [e] at this
  exact this
theorem cp_len {H : Hp} {k : IntKind} {x : Cp} {cs : List Value} (h : Rep H (dCp k x) cs) : cs.length = 3 := by
  obtain ⟨_, _, _, _, rfl, _⟩ := cp_open h; rfl
theorem okC_set {N k : Nat} {c : Cp} {l : List Hd} (h : okCp N c) (k1 : okV2 (2 * N + 100) l) : okCp (2 * N + 100) ⟨c.nm, c.vars, c.vers.set k l⟩ := by
  refine ⟨by have := h.vars; show c.vars.length ≤ _; omega, by have := h.vers; simp; omega, fun v hv => ?_⟩
  rcases List.mem_or_eq_of_mem_set hv with hv | rfl
  · exact (h.all v hv).mono (by omega)
  · exact k1
theorem okF_set {N k : Nat} {f : Ft} {c : Cp} (h : okFt N f) (k1 : okCp (2 * N + 100) c) : okFt (2 * N + 100) ⟨f.nm, f.flags, f.links, f.comps.set k c⟩ := by
  refine ⟨by have := h.flags; show f.flags.length ≤ _; omega, by have := h.links; show f.links.length ≤ _; omega, by have := h.comps; simp; omega, by have := h.pos; simp; omega, fun v hv => ?_⟩
  rcases List.mem_or_eq_of_mem_set hv with hv | rfl
  · exact (h.all v hv).mono (by omega)
  · exact k1
set_option maxHeartbeats 4000000 in
set_option maxRecDepth 100000 in
theorem apply_any (H : Hp) (f : Ft) (x : Sp) (cs xs : List Value) (N : Nat) (hN1 : N ≤ 50000) (w : World) (h : Rep H (dFt .i64 f) cs) (hX : Rep H (dSp x) xs) (hok : okFt N f) (hA : Agr H w) :
    Calls Tryz.prog 23 #[.agg cs.toArray, .agg xs.toArray] w fun r w' => ∃ (v : List Value) (H' : Hp), (∃ f', Rep H' (dFt .i64 f') v ∧ okFt (2 * (N + 100) + 100) f') ∧ r = .returned (.agg v.toArray) ∧ Grow H w H' w' := by
  obtain ⟨p1, c1, p2, c2, p3, c3, rfl, n00, k1, k2, k3⟩ := ft_open h
  have hi256 := x.i.toNat_lt
  have hn256 := x.nm.toNat_lt
  have hcap := k3.cap
  obtain ⟨pN, cN, rfl, hNd⟩ := sp_open hX
  obtain ⟨m0, hm0⟩ := wu64 x.n.toInt
  obtain ⟨m, hmm⟩ : ∃ m, m = m0 % 13 := ⟨_, rfl⟩
  have hm13 : m < 13 := by omega
  refine Sx.enter (H := H) Tryz.func23 rfl Tryz.ntmps23 rfl hA ?_
  refine .sr <| .bx rfl rfl rfl fun b2 => .bx rfl rfl rfl fun b3 => .al Fx.zero32 rfl fun b4 => .ns <| .yv (.fieldAddr rfl Fx.field55_3) rfl <| .yv (.load rfl Fx.agg2 (.tail _ <| .head _) rfl) rfl <| .yv (.conv rfl Fx.int2 Fx.int139 hm0) rfl <| .yv (.rem rfl rfl (by decide) (c := ((m : Nat) : Int)) (by rw [hmm]; exact tm2 _ 13)) rfl <| .yv (.conv rfl Fx.int139 Fx.int3 (c := ((m : Nat) : Int)) (w6 (by omega))) rfl <| .a rfl rfl <| .ns <| .yv (.fieldAddr rfl Fx.field55_2) rfl <| .yv (.load rfl Fx.agg5 (.tail _ <| .head _) rfl) rfl <| .yv (.call Fx.call53 rfl (fun W s => word_any H x.nm W s.agr)) rfl <| .a rfl rfl <| .ns <| .yv (.fieldAddr rfl Fx.field55_1) rfl <| .yv (.load rfl Fx.agg5 (.tail _ <| .head _) rfl) rfl <| .yv (.conv rfl Fx.int5 Fx.int3 (c := ((x.i.toNat : Nat) : Int)) (w6 (by omega))) rfl <| .yv (.fieldAddr rfl Fx.field32_3) rfl <| .yv (.load rfl Fx.agg30 (.tail _ <| .tail _ <| .head _) rfl) rfl <| .yv (.lenSl Fx.sl30 rfl) rfl <| .yv (.rem rfl rfl (by have := hok.pos; omega) (c := ((x.i.toNat % f.comps.length : Nat) : Int)) (tm2 _ _)) rfl <| ?_
  have hi : x.i.toNat % f.comps.length < f.comps.length := Nat.mod_lt _ hok.pos
  generalize x.i.toNat % f.comps.length = i at hi ⊢
  obtain ⟨bE, oE, cE, hpE, rE, lE, mE⟩ := k3.elem (map_at (f := dCp .i64) hi)
  cases hpE
  have ok0 := hok.all _ (List.getElem_mem hi)
  generalize hc0 : f.comps[i] = c0 at rE ok0
  obtain ⟨nm0, vs0, vr0⟩ := c0
  obtain ⟨q1, d1, q2, d2, rfl, n0, g1, g2⟩ := cp_open rE
  dsimp only at n0 g1 g2 mE
  have hvl : vs0.length ≤ N := ok0.vars
  have hrl : vr0.length ≤ N := ok0.vers
  have hfl := hok.flags
  have hll := hok.links
  have hcl := hok.comps
  refine .a rfl rfl <| .ns <| .yv (.fieldAddr rfl Fx.field32_3) rfl <| .yv (.load rfl Fx.agg30 (.tail _ <| .tail _ <| .head _) rfl) rfl <| .m rfl rfl <| .yv (.indexSl Fx.sl30 rfl rfl (i := i) rfl hi (q := oE + i * 3) rfl) rfl <| .yv (.loadMW rfl Fx.agg91 mE rfl) rfl <| .al Fx.zero91 rfl fun b8 => .sW .head rfl rfl Fx.size91 (by show ∀ u ∈ [_, _, _], Value.oneCell' u = true; simp [Value.oneCell', strV]) rfl <| .nt <| .cu (X := List Value × Option Addr × Nat × List Value × Option Addr × Nat) [(2, _), (3, _), (4, _), (5, _), (6, _), (7, _), (8, _)] ⟨rfl, rfl, rfl, rfl, rfl, rfl, rfl, trivial⟩ (fun z => []) (fun z => H) (fun z => [.row 93 3 (.slice z.2.1 vs0.length z.2.2.1) vs0.length z.1, .row 97 1 (.slice z.2.2.2.2.1 vr0.length z.2.2.2.2.2) vr0.length z.2.2.2.1, .box b8 [strV nm0, .slice z.2.1 vs0.length z.2.2.1, .slice z.2.2.2.2.1 vr0.length z.2.2.2.2.2] 91, .box b4 [.string ⟨#[]⟩, .slice none 0 0, .slice none 0 0, .slice none 0 0] 32, .box b3 [.int .u8 x.wh.toNat, .int .u8 x.i.toNat, .int .u8 x.nm.toNat, .int .i64 x.n.toInt, .slice pN x.nodes.length cN] 55, .box b2 [strV f.nm, .slice p1 f.flags.length c1, .slice p2 f.links.length c2, .slice (some ⟨bE, oE, none⟩) f.comps.length c3] 32]) (fun z => RepZ H 3 (vs0.map (dVr .i64)) z.1 ∧ RepZ H 1 (vr0.map (dVs .i64)) z.2.2.2.1) ?_ fun z hC => ?_
  ·
   refine .ft (p := .light _ _ (.light _ _ (.light _ _ (.light _ _ (.alt _ _ _ (.alt _ _ _ (.light _ _ (.alt _ _ _ (.alt _ _ _ (.done) (.no)) (.no))) (.alt _ _ _ (.alt _ _ _ (.light _ _ (.alt _ _ _ (.done) (.no))) (.no)) (.no))) (.alt _ _ _ (.alt _ _ _ (.alt _ _ _ (.light _ _ (.alt _ _ _ (.done) (.no))) (.no)) (.no)) (.no))))))) 9 (.light 1 (.light 2 (.light 5 (.light 6 (.alt 0 0 (.alt 3 2 (.light 8 (.alt 4 0 (.alt 7 2 (.done) (.no)) (.no))) (.alt 4 0 (.alt 3 2 (.light 8 (.alt 7 2 (.done) (.no))) (.no)) (.no))) (.alt 4 0 (.alt 0 0 (.alt 3 2 (.light 8 (.alt 7 2 (.done) (.no))) (.no)) (.no)) (.no))))))) (by kernel_rfl) (by kernel_rfl) rfl <| .yv (.fieldAddr rfl Fx.field91_1) rfl <| .yv (.load rfl Fx.agg88 (.head _) rfl) rfl <| .yv (.fieldAddr rfl Fx.field91_2) rfl <| .yv (.load rfl Fx.agg89 (.head _) rfl) rfl <| .h ?_ (.h ?_ .nn)
   ·
    refine .blR rfl Fx.bsl88_0 rfl (z := 3) rfl (by decide) fun g34 => .h ?_ (.h ?_ .nn)
    ·
     exact .apD0 Fx.row88 rfl (fun _ _ => .head) rfl g1 (by simp [maxLen]; omega) (by omega) rfl (fun _ _ => (.yv (.load rfl Fx.agg89 (.tail _ <| .head _) rfl) <| .yv (.fieldAddr rfl Fx.field91_2) <| .done (by kernel_rfl) <| .done (by kernel_rfl) <| .nl)) fun xs37 p37 c37 hz37 => .yv (.fieldAddr rfl Fx.field91_1) rfl <| .h1 <| .blR rfl Fx.bsl89_0 rfl (z := 1) rfl (by decide) fun g38 => .h1 <| .apD0 Fx.row89 rfl (fun _ _ => .head) rfl g2 (by simp [maxLen]; omega) (by omega) rfl (fun _ _ => (.yv (.fieldAddr rfl Fx.field91_1) <| .done (by kernel_rfl) <| .done (by kernel_rfl) <| .done (by kernel_rfl) <| .done (by kernel_rfl) <| .nl)) fun xs41 p41 c41 hz41 => .fn (tl := [_, _, _]) rfl <| .st (.tail <| .tail <| .head) rfl rfl Fx.size88 rfl (nb rfl) rfl <| .yv (.fieldAddr rfl Fx.field91_2) rfl <| .st (.tail <| .tail <| .head) rfl rfl Fx.size89 rfl (nb rfl) rfl <| .nt <| .me (xs37, p37, c37, xs41, p41, c41) trivial ⟨rfl, rfl, rfl, rfl, rfl, rfl, rfl, trivial⟩ (fun _ s => s.pick [1, 0, 2, 3, 4, 5] [_, _, _, _, _, _] rfl rfl) ⟨hz37, hz41⟩
    exact .blR rfl Fx.bsl89_0 rfl (z := 1) rfl (by decide) fun g38 => .h1 <| .apD0 Fx.row88 rfl (fun _ _ => (.tail <| .head)) rfl g1 (by simp [maxLen]; omega) (by omega) rfl (fun _ _ => (.yv (.load rfl Fx.agg89 (.tail _ <| .tail _ <| .head _) rfl) <| .yv (.fieldAddr rfl Fx.field91_2) <| .done (by kernel_rfl) <| .done (by kernel_rfl) <| .nl)) fun xs37 p37 c37 hz37 => .yv (.fieldAddr rfl Fx.field91_1) rfl <| .h1 <| .apD0 Fx.row89 rfl (fun _ _ => .head) rfl g2 (by simp [maxLen]; omega) (by omega) rfl (fun _ _ => (.yv (.fieldAddr rfl Fx.field91_1) <| .done (by kernel_rfl) <| .done (by kernel_rfl) <| .done (by kernel_rfl) <| .done (by kernel_rfl) <| .nl)) fun xs41 p41 c41 hz41 => .fn (tl := [_, _, _]) rfl <| .st (.tail <| .tail <| .head) rfl rfl Fx.size88 rfl (nb rfl) rfl <| .yv (.fieldAddr rfl Fx.field91_2) rfl <| .st (.tail <| .tail <| .head) rfl rfl Fx.size89 rfl (nb rfl) rfl <| .nt <| .me (xs37, p37, c37, xs41, p41, c41) trivial ⟨rfl, rfl, rfl, rfl, rfl, rfl, rfl, trivial⟩ (fun _ s => s.pick [1, 0, 2, 3, 4, 5] [_, _, _, _, _, _] rfl rfl) ⟨hz37, hz41⟩
   exact .blR rfl Fx.bsl89_0 rfl (z := 1) rfl (by decide) fun g38 => .h1 <| .blR rfl Fx.bsl88_0 rfl (z := 3) rfl (by decide) fun g34 => .h1 <| .apD0 Fx.row88 rfl (fun _ _ => .head) rfl g1 (by simp [maxLen]; omega) (by omega) rfl (fun _ _ => (.yv (.load rfl Fx.agg89 (.tail _ <| .tail _ <| .head _) rfl) <| .yv (.fieldAddr rfl Fx.field91_2) <| .done (by kernel_rfl) <| .done (by kernel_rfl) <| .nl)) fun xs37 p37 c37 hz37 => .yv (.fieldAddr rfl Fx.field91_1) rfl <| .h1 <| .apD0 Fx.row89 rfl (fun _ _ => (.tail <| .head)) rfl g2 (by simp [maxLen]; omega) (by omega) rfl (fun _ _ => (.yv (.fieldAddr rfl Fx.field91_1) <| .done (by kernel_rfl) <| .done (by kernel_rfl) <| .done (by kernel_rfl) <| .done (by kernel_rfl) <| .nl)) fun xs41 p41 c41 hz41 => .fn (tl := [_, _, _]) rfl <| .st (.tail <| .tail <| .head) rfl rfl Fx.size88 rfl (nb rfl) rfl <| .yv (.fieldAddr rfl Fx.field91_2) rfl <| .st (.tail <| .tail <| .head) rfl rfl Fx.size89 rfl (nb rfl) rfl <| .nt <| .me (xs37, p37, c37, xs41, p41, c41) trivial ⟨rfl, rfl, rfl, rfl, rfl, rfl, rfl, trivial⟩ (fun _ s => s) ⟨hz37, hz41⟩
  obtain ⟨xs37, p37, c37, xs41, p41, c41⟩ := z
  dsimp only at hC ⊢
  obtain ⟨hz37, hz41⟩ := hC
  refine .cu (X := Hp × Ft × List Value × Cp × Value × List Value × Value × List Value) [(2, _), (3, _), (4, _), (7, _), (8, _)] ⟨rfl, rfl, rfl, rfl, rfl, trivial⟩ (fun z => []) (fun z => z.1) (fun z => [.row 93 3 z.2.2.2.2.1 z.2.2.2.1.vars.length z.2.2.2.2.2.1, .row 97 1 z.2.2.2.2.2.2.1 z.2.2.2.1.vers.length z.2.2.2.2.2.2.2, .box b8 [strV z.2.2.2.1.nm, z.2.2.2.2.1, z.2.2.2.2.2.2.1] 91, .box b2 z.2.2.1 32, .box b3 [.int .u8 x.wh.toNat, .int .u8 x.i.toNat, .int .u8 x.nm.toNat, .int .i64 x.n.toInt, .slice pN x.nodes.length cN] 55, .box b4 [.string ⟨#[]⟩, .slice none 0 0, .slice none 0 0, .slice none 0 0] 32]) (fun z => HUp w H z.1 ∧ Rep z.1 (dFt .i64 z.2.1) z.2.2.1 ∧ okFt (N + 100) z.2.1 ∧ f.comps.length ≤ z.2.1.comps.length ∧ z.2.2.2.1.nm.length ≤ 1000000 ∧ RepZ z.1 3 (z.2.2.2.1.vars.map (dVr .i64)) z.2.2.2.2.2.1 ∧ RepZ z.1 1 (z.2.2.2.1.vers.map (dVs .i64)) z.2.2.2.2.2.2.2 ∧ okCp (N + 100) z.2.2.2.1) ?_ fun z hC => ?_
  ·
   refine .sr <| .yv (.fieldAddr rfl Fx.field55_0) rfl <| .yv (.load rfl Fx.agg5 (.tail _ <| .tail _ <| .tail _ <| .tail _ <| .head _) rfl) rfl <| .yv (.rem rfl rfl (by decide) (c := ((x.wh.toNat % 26 : Nat) : Int)) (by rw [Int.tmod_eq_emod_of_nonneg (by omega)]; omega)) rfl <| .nt <| .bk <| .sr <| .yv (.eql rfl rfl) rfl <| .a rfl rfl <| .nt <| .cd rfl (fun h47 => ?_) (fun h47 => ?_)
   ·skip
    exact .rg <| .m rfl rfl <| .yv (.fieldAddr rfl Fx.field32_0) rfl <| .st (.tail <| .tail <| .tail <| .tail <| .tail <| .head) rfl rfl Fx.size9 rfl (nb rfl) rfl <| .nl <| .bN <| .tN <| .me (H, ⟨wordR x.nm, f.flags, f.links, f.comps⟩, _, ⟨nm0, vs0, vr0⟩, _, _, _, _) trivial ⟨rfl, rfl, rfl, rfl, rfl, trivial⟩ (fun _ s => s.pick [0, 1, 2, 5, 4, 3] [_, _, _, _, _, _] rfl rfl) ⟨.refl, ft_shut (x := ⟨wordR x.nm, f.flags, f.links, f.comps⟩) (Nat.le_trans (word_len _) (by decide)) k1 k2 k3, ⟨(hok.mono (M := N + 100) (by omega)).flags, (hok.mono (M := N + 100) (by omega)).links, (hok.mono (M := N + 100) (by omega)).comps, hok.pos, (hok.mono (M := N + 100) (by omega)).all⟩, Nat.le_refl _, n0, hz37, hz41, ok0.mono (by omega)⟩
   skip
   refine .sr <| .yv (.eql rfl rfl) rfl <| .a rfl rfl <| .nt <| .cd rfl (fun h51 => ?_) (fun h51 => ?_)
   ·skip
    refine .sr <| .a rfl rfl <| .nt <| .bk <| .pm [5, 0, 1, 2, 3, 4] [_, _, _, _, _, _] rfl rfl <| .lp (X := Nat × Hp × Option Addr × Nat × Nat) [(2, _), (3, _), (4, _), (5, _), (7, _), (8, _)] ⟨rfl, rfl, rfl, rfl, rfl, rfl, trivial⟩ [_, _, _, _, _] (fun z => [(9, .int .i64 (z.1 : Nat))]) (fun z => z.2.1) (fun z => [.box b2 [strV f.nm, .slice p1 f.flags.length c1, .slice p2 f.links.length c2, .slice z.2.2.1 z.2.2.2.1 z.2.2.2.2] 32]) (fun z => z.1 ≤ m ∧ HUp w H z.2.1 ∧ ∃ L : List Cp, L.length = f.comps.length + z.1 ∧ Rep z.2.1 (.seq 3 (L.map (dCp .i64))) [.slice z.2.2.1 z.2.2.2.1 z.2.2.2.2] ∧ ∀ c ∈ L, okCp N c) (fun z => m - z.1) (0, H, _, _, _) (fun _ s => s) ⟨rfl, trivial⟩ ⟨by simp, .refl, f.comps, by simp, k3, fun c m => (hok.all c m)⟩ fun z hC => ?_
    obtain ⟨j, H1, pp, pn, pc⟩ := z
    dsimp only at hC ⊢
    obtain ⟨hj0, uP, L, hL, hr, hall⟩ := hC
    have hpn := hr.len.1
    rw [List.length_map] at hpn
    have hrc := hr.cap
    refine .sq <| .sr <| .m rfl rfl <| .m rfl rfl <| .yv (.lss rfl rfl) rfl <| .nt <| .cd rfl (fun h55 => ?_) (fun h55 => ?_)
    ·try simp only [dt] at h55
     have hj : j < m := by omega
     have hL0 : 0 < L.length := by have := hok.pos; omega
     obtain ⟨bF, oF, cF, hpF, rF, lF, mF⟩ := hr.elem (map_at (f := dCp .i64) hL0)
     cases hpF
     generalize hcx : L[0] = cx at rF
     obtain ⟨nmx, vsx, vrx⟩ := cx
     obtain ⟨qx1, dx1, qx2, dx2, rfl, nx0, kx1, kx2⟩ := cp_open rF
     dsimp only at mF
     refine .sk <| .tN <| .sq <| .bk <| .ft (p := .light _ _ (.light _ _ (.light _ _ (.light _ _ (.light _ _ (.light _ _ (.alt _ _ _ (.alt _ _ _ (.alt _ _ _ (.done) (.no)) (.alt _ _ _ (.alt _ _ _ (.done) (.no)) (.no))) (.alt _ _ _ (.alt _ _ _ (.alt _ _ _ (.done) (.no)) (.no)) (.no))))))))) 9 (.light 1 (.light 2 (.light 4 (.light 5 (.light 6 (.light 7 (.alt 0 0 (.alt 3 2 (.alt 8 0 (.done) (.no)) (.alt 8 0 (.alt 3 2 (.done) (.no)) (.no))) (.alt 8 0 (.alt 0 0 (.alt 3 2 (.done) (.no)) (.no)) (.no))))))))) (by kernel_rfl) (by kernel_rfl) rfl <| .yv (.fieldAddr rfl Fx.field32_3) rfl <| .yv (.load rfl Fx.agg30 (.head _) rfl) rfl <| .yv (.fieldAddr rfl Fx.field32_3) rfl <| .yv (.load rfl Fx.agg30 (.head _) rfl) rfl <| .yv (.indexSl Fx.sl30 rfl rfl (i := 0) rfl (by omega) (q := oF + 0 * 3) rfl) rfl <| .yv (.loadMW rfl Fx.agg91 mF rfl) rfl <| .h ?_ (.h ?_ .nn)
     ·
      refine .blR rfl Fx.bsl30_0 rfl (z := 3) rfl (by decide) fun g58 => .h ?_ (.h ?_ .nn)
      ·
       refine .apD0 Fx.row30 rfl (fun _ _ => .head) rfl hr (by simp [maxLen]; omega) (by omega) rfl (fun _ _ => (.yv (.loadMW rfl Fx.agg91 mF rfl) <| .yv (.indexSl Fx.sl30 rfl rfl (i := 0) rfl (by omega) (q := oF + 0 * 3) rfl) <| .yv (.load rfl Fx.agg30 (.tail _ <| .head _) rfl) <| .yv (.fieldAddr rfl Fx.field32_3) <| .done (by kernel_rfl) <| .done (by kernel_rfl) <| .nl)) fun xs61 p61 c61 hz61 => .h1 <| .bl rfl (Fx.bsl30_1 _ _ _) rfl fun b66 => .fn (tl := [_, _, _]) rfl <| .ap (news := [strV nmx, .slice qx1 vsx.length dx1, .slice qx2 vrx.length dx2]) Fx.row30 rfl (fun _ => (.tail <| .head)) rfl (.box (.head _) z0) rfl (by simp [Value.oneCell', strV]) (by simp [maxLen]; omega) (by omega) rfl fun r67 _ => ?_
       refine At.ra (.tail _ <| .head _) fun p67 c67 e67 => ?_
       subst e67
       refine .yv (.fieldAddr rfl Fx.field32_3) rfl <| .st (.tail <| .tail <| .head) rfl rfl Fx.size30 rfl (nb rfl) rfl <| ?_
       refine At.pm [1, 0, 2, 3, 4, 5, 6, 7] [_, _, _, _, _, _, _, _] rfl rfl ?_
       refine Sx.freezeSeq (ds := (L ++ [L[0]]).map (dCp .i64)) (by simp <;> omega) (by rw [List.map_append, hcx]; exact hz61.snoc rF rfl) fun H2 p2 c2 u2 e2 h2 => ?_
       obtain ⟨rfl, rfl⟩ := sl_inj e2
       exact .nl <| .bN <| .tN <| .rg <| .m rfl rfl <| .yv (.add rfl rfl (w6 (by omega))) rfl <| .a rfl rfl <| .nt <| .ag (x := (j, H1, some ⟨bF, oF, none⟩, pn, pc)) (j + 1, H2, p67, pn + 1, c67) ⟨rfl, trivial⟩ ⟨rfl, rfl, rfl, rfl, rfl, rfl, trivial⟩ (fun _ s => (s.pick [1, 2, 3, 4, 5, 6] _ rfl rfl)) ⟨by dsimp only; omega, uP.trans u2, L ++ [L[0]], by simp; omega, h2, fun c m => (List.mem_append.1 m).elim (hall c) (fun m => by rw [List.mem_singleton.1 m]; exact hall _ (List.getElem_mem hL0))⟩ (by dsimp only; omega)
      refine .bl rfl (Fx.bsl30_1 _ _ _) rfl fun b66 => .h1 <| .apD0 Fx.row30 rfl (fun _ _ => (.tail <| .head)) rfl hr (by simp [maxLen]; omega) (by omega) rfl (fun _ _ => (.yv (.loadMW rfl Fx.agg91 mF rfl) <| .yv (.indexSl Fx.sl30 rfl rfl (i := 0) rfl (by omega) (q := oF + 0 * 3) rfl) <| .yv (.load rfl Fx.agg30 (.tail _ <| .tail _ <| .head _) rfl) <| .yv (.fieldAddr rfl Fx.field32_3) <| .done (by kernel_rfl) <| .done (by kernel_rfl) <| .nl)) fun xs61 p61 c61 hz61 => .fn (tl := [_, _, _]) rfl <| .ap (news := [strV nmx, .slice qx1 vsx.length dx1, .slice qx2 vrx.length dx2]) Fx.row30 rfl (fun _ => (.tail <| .head)) rfl (.box (.head _) z0) rfl (by simp [Value.oneCell', strV]) (by simp [maxLen]; omega) (by omega) rfl fun r67 _ => ?_
      refine At.ra (.tail _ <| .head _) fun p67 c67 e67 => ?_
      subst e67
      refine .yv (.fieldAddr rfl Fx.field32_3) rfl <| .st (.tail <| .tail <| .head) rfl rfl Fx.size30 rfl (nb rfl) rfl <| ?_
      refine At.pm [1, 0, 2, 3, 4, 5, 6, 7] [_, _, _, _, _, _, _, _] rfl rfl ?_
      refine Sx.freezeSeq (ds := (L ++ [L[0]]).map (dCp .i64)) (by simp <;> omega) (by rw [List.map_append, hcx]; exact hz61.snoc rF rfl) fun H2 p2 c2 u2 e2 h2 => ?_
      obtain ⟨rfl, rfl⟩ := sl_inj e2
      exact .nl <| .bN <| .tN <| .rg <| .m rfl rfl <| .yv (.add rfl rfl (w6 (by omega))) rfl <| .a rfl rfl <| .nt <| .ag (x := (j, H1, some ⟨bF, oF, none⟩, pn, pc)) (j + 1, H2, p67, pn + 1, c67) ⟨rfl, trivial⟩ ⟨rfl, rfl, rfl, rfl, rfl, rfl, trivial⟩ (fun _ s => (s.pick [1, 2, 3, 4, 5, 6] _ rfl rfl)) ⟨by dsimp only; omega, uP.trans u2, L ++ [L[0]], by simp; omega, h2, fun c m => (List.mem_append.1 m).elim (hall c) (fun m => by rw [List.mem_singleton.1 m]; exact hall _ (List.getElem_mem hL0))⟩ (by dsimp only; omega)
     refine .bl rfl (Fx.bsl30_1 _ _ _) rfl fun b66 => .h1 <| .blR rfl Fx.bsl30_0 rfl (z := 3) rfl (by decide) fun g58 => .h1 <| .apD0 Fx.row30 rfl (fun _ _ => .head) rfl hr (by simp [maxLen]; omega) (by omega) rfl (fun _ _ => (.yv (.loadMW rfl Fx.agg91 mF rfl) <| .yv (.indexSl Fx.sl30 rfl rfl (i := 0) rfl (by omega) (q := oF + 0 * 3) rfl) <| .yv (.load rfl Fx.agg30 (.tail _ <| .tail _ <| .head _) rfl) <| .yv (.fieldAddr rfl Fx.field32_3) <| .done (by kernel_rfl) <| .done (by kernel_rfl) <| .nl)) fun xs61 p61 c61 hz61 => .fn (tl := [_, _, _]) rfl <| .ap (news := [strV nmx, .slice qx1 vsx.length dx1, .slice qx2 vrx.length dx2]) Fx.row30 rfl (fun _ => .head) rfl (.box (.tail _ <| .head _) z0) rfl (by simp [Value.oneCell', strV]) (by simp [maxLen]; omega) (by omega) rfl fun r67 _ => ?_
     refine At.ra (.head _) fun p67 c67 e67 => ?_
     subst e67
     refine .yv (.fieldAddr rfl Fx.field32_3) rfl <| .st (.tail <| .tail <| .head) rfl rfl Fx.size30 rfl (nb rfl) rfl <| ?_
     refine Sx.freezeSeq (ds := (L ++ [L[0]]).map (dCp .i64)) (by simp <;> omega) (by rw [List.map_append, hcx]; exact hz61.snoc rF rfl) fun H2 p2 c2 u2 e2 h2 => ?_
     obtain ⟨rfl, rfl⟩ := sl_inj e2
     exact .nl <| .bN <| .tN <| .rg <| .m rfl rfl <| .yv (.add rfl rfl (w6 (by omega))) rfl <| .a rfl rfl <| .nt <| .ag (x := (j, H1, some ⟨bF, oF, none⟩, pn, pc)) (j + 1, H2, p67, pn + 1, c67) ⟨rfl, trivial⟩ ⟨rfl, rfl, rfl, rfl, rfl, rfl, trivial⟩ (fun _ s => (s.pick [1, 2, 3, 4, 5, 6] _ rfl rfl)) ⟨by dsimp only; omega, uP.trans u2, L ++ [L[0]], by simp; omega, h2, fun c m => (List.mem_append.1 m).elim (hall c) (fun m => by rw [List.mem_singleton.1 m]; exact hall _ (List.getElem_mem hL0))⟩ (by dsimp only; omega)
    skip
    exact .ex <| .tE <| .tE <| .bE <| .bN <| .tN <| .me (H1, ⟨f.nm, f.flags, f.links, L⟩, _, ⟨nm0, vs0, vr0⟩, _, _, _, _) trivial ⟨rfl, rfl, rfl, rfl, rfl, trivial⟩ (fun _ s => s.pick [1, 2, 3, 0, 5, 4] [_, _, _, _, _, _] rfl rfl) ⟨uP, ft_shut (x := ⟨f.nm, f.flags, f.links, L⟩) n00 (k1.up uP.up) (k2.up uP.up) hr, ⟨(hok.mono (M := N + 100) (by omega)).flags, (hok.mono (M := N + 100) (by omega)).links, by show L.length ≤ _; have := hok.comps; omega, by show 0 < L.length; have := hok.pos; omega, fun c m => (hall c m).mono (by omega)⟩, (by show f.comps.length ≤ L.length; omega), n0, RepZ.up uP.up hz37, RepZ.up uP.up hz41, ok0.mono (by omega)⟩
   skip
   refine .sr <| .yv (.eql rfl rfl) rfl <| .a rfl rfl <| .nt <| .cd rfl (fun h69 => ?_) (fun h69 => ?_)
   ·skip
    refine .sr <| .a rfl rfl <| .nt <| .bk <| .pm [5, 0, 1, 2, 3, 4] [_, _, _, _, _, _] rfl rfl <| .lp (X := Nat × Hp × Option Addr × Nat × Nat) [(2, _), (3, _), (4, _), (5, _), (6, _), (7, _), (8, _)] ⟨rfl, rfl, rfl, rfl, rfl, rfl, rfl, trivial⟩ [_, _, _, _, _] (fun z => [(10, .int .i64 (z.1 : Nat))]) (fun z => z.2.1) (fun z => [.box b2 [strV f.nm, .slice z.2.2.1 z.2.2.2.1 z.2.2.2.2, .slice p2 f.links.length c2, .slice (some ⟨bE, oE, none⟩) f.comps.length c3] 32]) (fun z => z.1 ≤ m ∧ HUp w H z.2.1 ∧ ∃ L : List Fg, L.length = f.flags.length + z.1 ∧ Rep z.2.1 (.seq 2 (L.map dFg)) [.slice z.2.2.1 z.2.2.2.1 z.2.2.2.2]) (fun z => m - z.1) (0, H, _, _, _) (fun _ s => s) ⟨rfl, trivial⟩ ⟨by simp, .refl, f.flags, by simp, k1⟩ fun z hC => ?_
    obtain ⟨j, H1, pp, pn, pc⟩ := z
    dsimp only at hC ⊢
    obtain ⟨hj0, uP, L, hL, hr⟩ := hC
    have hpn := hr.len.1
    rw [List.length_map] at hpn
    have hrc := hr.cap
    refine .sq <| .sr <| .m rfl rfl <| .m rfl rfl <| .yv (.lss rfl rfl) rfl <| .nt <| .cd rfl (fun h73 => ?_) (fun h73 => ?_)
    ·try simp only [dt] at h73
     have hj : j < m := by omega
     refine .sk <| .tN <| .sq <| .bk <| .rg <| .blR rfl Fx.bsl28_0 rfl (z := 2) rfl (by decide) fun g76 => .yv (.fieldAddr rfl Fx.field32_1) rfl <| .yv (.load rfl Fx.agg28 (.tail _ <| .head _) rfl) rfl <| .apD0 Fx.row28 rfl (fun _ _ => .head) rfl hr (by simp [maxLen]; omega) (by omega) rfl fun xs79 r79 hz79 => .m rfl rfl <| .yv (.build rfl (Fx.bld84_0 _)) rfl <| .bl rfl (Fx.bsl28_1 _ _) rfl fun b82 => .ap (news := [strV (wordR x.nm), .bool false]) Fx.row28 rfl (fun _ => (.tail <| .head)) rfl (.box (.head _) z0) rfl (by simp [Value.oneCell', strV]) (by simp [maxLen]; omega) (by omega) rfl fun r83 _ => ?_
     refine At.ra (.tail _ <| .head _) fun p83 c83 e83 => ?_
     subst e83
     refine .yv (.fieldAddr rfl Fx.field32_1) rfl <| .st (.tail <| .tail <| .head) rfl rfl Fx.size28 rfl (nb rfl) rfl <| ?_
     refine At.pm [1, 0, 2, 3, 4, 5, 6, 7] [_, _, _, _, _, _, _, _] rfl rfl ?_
     refine Sx.freezeSeq (ds := (L ++ [(⟨wordR x.nm, false⟩ : Fg)]).map dFg) (by simp <;> omega) (by rw [List.map_append]; exact hz79.snoc (fg_shut (x := ⟨wordR x.nm, false⟩) (Nat.le_trans (word_len _) (by decide))) rfl) fun H2 p2 c2 u2 e2 h2 => ?_
     obtain ⟨rfl, rfl⟩ := sl_inj e2
     exact .nl <| .bN <| .tN <| .rg <| .m rfl rfl <| .yv (.add rfl rfl (w6 (by omega))) rfl <| .a rfl rfl <| .nt <| .ag (x := (j, H1, pp, pn, pc)) (j + 1, H2, p83, pn + 1, c83) ⟨rfl, trivial⟩ ⟨rfl, rfl, rfl, rfl, rfl, rfl, rfl, trivial⟩ (fun _ s => (s.pick [1, 2, 3, 4, 5, 6] _ rfl rfl)) ⟨by dsimp only; omega, uP.trans u2, L ++ [⟨wordR x.nm, false⟩], by simp; omega, h2⟩ (by dsimp only; omega)
    skip
    exact .ex <| .tE <| .tE <| .bE <| .bN <| .tN <| .me (H1, ⟨f.nm, L, f.links, f.comps⟩, _, ⟨nm0, vs0, vr0⟩, _, _, _, _) trivial ⟨rfl, rfl, rfl, rfl, rfl, trivial⟩ (fun _ s => s.pick [1, 2, 3, 0, 5, 4] [_, _, _, _, _, _] rfl rfl) ⟨uP, ft_shut (x := ⟨f.nm, L, f.links, f.comps⟩) n00 hr (k2.up uP.up) (k3.up uP.up), ⟨by show L.length ≤ _; have := hok.flags; omega, (hok.mono (M := N + 100) (by omega)).links, (hok.mono (M := N + 100) (by omega)).comps, hok.pos, (hok.mono (M := N + 100) (by omega)).all⟩, Nat.le_refl _, n0, RepZ.up uP.up hz37, RepZ.up uP.up hz41, ok0.mono (by omega)⟩
   skip
   refine .sr <| .yv (.eql rfl rfl) rfl <| .a rfl rfl <| .nt <| .cd rfl (fun h85 => ?_) (fun h85 => ?_)
   ·skip
    refine .sr <| .a rfl rfl <| .nt <| .bk <| .pm [5, 0, 1, 2, 3, 4] [_, _, _, _, _, _] rfl rfl <| .lp (X := Nat × Hp × Option Addr × Nat × Nat) [(2, _), (3, _), (4, _), (5, _), (6, _), (7, _), (8, _)] ⟨rfl, rfl, rfl, rfl, rfl, rfl, rfl, trivial⟩ [_, _, _, _, _] (fun z => [(11, .int .i64 (z.1 : Nat))]) (fun z => z.2.1) (fun z => [.box b2 [strV f.nm, .slice p1 f.flags.length c1, .slice z.2.2.1 z.2.2.2.1 z.2.2.2.2, .slice (some ⟨bE, oE, none⟩) f.comps.length c3] 32]) (fun z => z.1 ≤ 6 * m ∧ HUp w H z.2.1 ∧ ∃ L : List Lk, L.length = f.links.length + z.1 ∧ Rep z.2.1 (.seq 3 (L.map dLk)) [.slice z.2.2.1 z.2.2.2.1 z.2.2.2.2]) (fun z => 6 * m - z.1) (0, H, _, _, _) (fun _ s => s) ⟨rfl, trivial⟩ ⟨by simp, .refl, f.links, by simp, k2⟩ fun z hC => ?_
    obtain ⟨j, H1, pp, pn, pc⟩ := z
    dsimp only at hC ⊢
    obtain ⟨hj0, uP, L, hL, hr⟩ := hC
    have hpn := hr.len.1
    rw [List.length_map] at hpn
    have hrc := hr.cap
    refine .sq <| .sr <| .m rfl rfl <| .m rfl rfl <| .yv (.mul rfl rfl (c := ((6 * m : Nat) : Int)) ((w6 (by omega)).trans (by omega))) rfl <| .yv (.lss rfl rfl) rfl <| .nt <| .cd rfl (fun h90 => ?_) (fun h90 => ?_)
    ·try simp only [dt] at h90
     have hj : j < 6 * m := by omega
     refine .sk <| .tN <| .sq <| .bk <| .rg <| .blR rfl Fx.bsl29_0 rfl (z := 3) rfl (by decide) fun g93 => .yv (.fieldAddr rfl Fx.field32_2) rfl <| .yv (.load rfl Fx.agg29 (.tail _ <| .head _) rfl) rfl <| .apD0 Fx.row29 rfl (fun _ _ => .head) rfl hr (by simp [maxLen]; omega) (by omega) rfl fun xs96 r96 hz96 => .m rfl rfl <| .yv (.build rfl (Fx.bld86_0_1_2 _ _ _)) rfl <| .bl rfl (Fx.bsl29_1 _ _ _) rfl fun b99 => .ap (news := [strV [97], strV (wordR x.nm), .int .i64 1]) Fx.row29 rfl (fun _ => (.tail <| .head)) rfl (.box (.head _) z0) rfl (by simp [Value.oneCell', strV]) (by simp [maxLen]; omega) (by omega) rfl fun r100 _ => ?_
     refine At.ra (.tail _ <| .head _) fun p100 c100 e100 => ?_
     subst e100
     refine .yv (.fieldAddr rfl Fx.field32_2) rfl <| .st (.tail <| .tail <| .head) rfl rfl Fx.size29 rfl (nb rfl) rfl <| ?_
     refine At.pm [1, 0, 2, 3, 4, 5, 6, 7] [_, _, _, _, _, _, _, _] rfl rfl ?_
     refine Sx.freezeSeq (ds := (L ++ [(⟨[97], wordR x.nm, 1⟩ : Lk)]).map dLk) (by simp <;> omega) (by rw [List.map_append]; exact hz96.snoc (lk_shut (x := ⟨[97], wordR x.nm, 1⟩) (show [(97 : UInt8)].length ≤ 1000000 by decide) (Nat.le_trans (word_len _) (by decide))) rfl) fun H2 p2 c2 u2 e2 h2 => ?_
     obtain ⟨rfl, rfl⟩ := sl_inj e2
     exact .nl <| .bN <| .tN <| .rg <| .m rfl rfl <| .yv (.add rfl rfl (w6 (by omega))) rfl <| .a rfl rfl <| .nt <| .ag (x := (j, H1, pp, pn, pc)) (j + 1, H2, p100, pn + 1, c100) ⟨rfl, trivial⟩ ⟨rfl, rfl, rfl, rfl, rfl, rfl, rfl, trivial⟩ (fun _ s => (s.pick [1, 2, 3, 4, 5, 6] _ rfl rfl)) ⟨by dsimp only; omega, uP.trans u2, L ++ [⟨[97], wordR x.nm, 1⟩], by simp; omega, h2⟩ (by dsimp only; omega)
    skip
    exact .ex <| .tE <| .tE <| .bE <| .bN <| .tN <| .me (H1, ⟨f.nm, f.flags, L, f.comps⟩, _, ⟨nm0, vs0, vr0⟩, _, _, _, _) trivial ⟨rfl, rfl, rfl, rfl, rfl, trivial⟩ (fun _ s => s.pick [1, 2, 3, 0, 5, 4] [_, _, _, _, _, _] rfl rfl) ⟨uP, ft_shut (x := ⟨f.nm, f.flags, L, f.comps⟩) n00 (k1.up uP.up) hr (k3.up uP.up), ⟨(hok.mono (M := N + 100) (by omega)).flags, by show L.length ≤ _; have := hok.links; omega, (hok.mono (M := N + 100) (by omega)).comps, hok.pos, (hok.mono (M := N + 100) (by omega)).all⟩, Nat.le_refl _, n0, RepZ.up uP.up hz37, RepZ.up uP.up hz41, ok0.mono (by omega)⟩
   skip
   refine .sr <| .yv (.eql rfl rfl) rfl <| .a rfl rfl <| .nt <| .cd rfl (fun h102 => ?_) (fun h102 => ?_)
   ·skip
    refine .ft (p := .light _ _ (.light _ _ (.light _ _ (.light _ _ (.light _ _ (.alt _ _ _ (.alt _ _ _ (.alt _ _ _ (.done) (.no)) (.alt _ _ _ (.alt _ _ _ (.done) (.no)) (.no))) (.alt _ _ _ (.alt _ _ _ (.alt _ _ _ (.done) (.no)) (.no)) (.no)))))))) 8 (.light 1 (.light 2 (.light 4 (.light 5 (.light 6 (.alt 0 0 (.alt 3 2 (.alt 7 0 (.done) (.no)) (.alt 7 0 (.alt 3 2 (.done) (.no)) (.no))) (.alt 7 0 (.alt 0 0 (.alt 3 2 (.done) (.no)) (.no)) (.no)))))))) (by kernel_rfl) (by kernel_rfl) rfl <| .yv (.fieldAddr rfl Fx.field32_2) rfl <| .yv (.load rfl Fx.agg29 (.tail _ <| .tail _ <| .tail _ <| .tail _ <| .tail _ <| .head _) rfl) rfl <| .yv (.fieldAddr rfl Fx.field55_3) rfl <| .yv (.load rfl Fx.agg2 (.tail _ <| .tail _ <| .tail _ <| .tail _ <| .head _) rfl) rfl <| .yv (.build rfl (Fx.bld86_0_1_2 _ _ _)) rfl <| .h ?_ (.h ?_ .nn)
    ·
     refine .blR rfl Fx.bsl29_0 rfl (z := 3) rfl (by decide) fun g104 => .h ?_ (.h ?_ .nn)
     ·
      refine .apD0 Fx.row29 rfl (fun _ _ => .head) rfl k2 (by simp [maxLen]; omega) (by omega) rfl (fun _ _ => (.yv (.build rfl (Fx.bld86_0_1_2 _ _ _)) <| .yv (.load rfl Fx.agg2 (.tail _ <| .tail _ <| .tail _ <| .tail _ <| .tail _ <| .head _) rfl) <| .yv (.fieldAddr rfl Fx.field55_3) <| .done (by kernel_rfl) <| .done (by kernel_rfl) <| .nl)) fun xs107 p107 c107 hz107 => .h1 <| .bl rfl (Fx.bsl29_1 _ _ _) rfl fun b111 => .fn (tl := [_, _, _]) rfl <| .ap (news := [strV [97], strV [97], .int .i64 x.n.toInt]) Fx.row29 rfl (fun _ => (.tail <| .head)) rfl (.box (.head _) z0) rfl (by simp [Value.oneCell', strV]) (by simp [maxLen]; omega) (by omega) rfl fun r112 _ => ?_
      refine At.ra (.tail _ <| .head _) fun p112 c112 e112 => ?_
      subst e112
      refine .yv (.fieldAddr rfl Fx.field32_2) rfl <| .st (.tail <| .tail <| .tail <| .tail <| .tail <| .tail <| .tail <| .head) rfl rfl Fx.size29 rfl (nb rfl) rfl <| ?_
      refine At.pm [1, 0, 2, 3, 4, 5, 6, 7] [_, _, _, _, _, _, _, _] rfl rfl ?_
      refine Sx.freezeSeq (ds := (f.links ++ [(⟨[97], [97], x.n⟩ : Lk)]).map dLk) (by simp <;> omega) (by rw [List.map_append]; exact hz107.snoc (lk_shut (x := ⟨[97], [97], x.n⟩) (show [(97 : UInt8)].length ≤ 1000000 by decide) (show [(97 : UInt8)].length ≤ 1000000 by decide)) rfl) fun H2 p2 c2 u2 e2 h2 => ?_
      obtain ⟨rfl, rfl⟩ := sl_inj e2
      exact .nl <| .bN <| .tN <| .me (H2, ⟨f.nm, f.flags, f.links ++ [⟨[97], [97], x.n⟩], f.comps⟩, _, ⟨nm0, vs0, vr0⟩, _, _, _, _) trivial ⟨rfl, rfl, rfl, rfl, rfl, trivial⟩ (fun _ s => s.pick [1, 2, 3, 6, 5, 4] [_, _, _, _, _, _] rfl rfl) ⟨u2, ft_shut (x := ⟨f.nm, f.flags, f.links ++ [⟨[97], [97], x.n⟩], f.comps⟩) n00 (k1.up u2.up) h2 (k3.up u2.up), ⟨(hok.mono (M := N + 100) (by omega)).flags, by show (f.links ++ [_]).length ≤ _; have := hok.links; rw [List.length_append, List.length_singleton]; omega, (hok.mono (M := N + 100) (by omega)).comps, hok.pos, (hok.mono (M := N + 100) (by omega)).all⟩, Nat.le_refl _, n0, RepZ.up u2.up hz37, RepZ.up u2.up hz41, ok0.mono (by omega)⟩
     refine .bl rfl (Fx.bsl29_1 _ _ _) rfl fun b111 => .h1 <| .apD0 Fx.row29 rfl (fun _ _ => (.tail <| .head)) rfl k2 (by simp [maxLen]; omega) (by omega) rfl (fun _ _ => (.yv (.build rfl (Fx.bld86_0_1_2 _ _ _)) <| .yv (.load rfl Fx.agg2 (.tail _ <| .tail _ <| .tail _ <| .tail _ <| .tail _ <| .tail _ <| .head _) rfl) <| .yv (.fieldAddr rfl Fx.field55_3) <| .done (by kernel_rfl) <| .done (by kernel_rfl) <| .nl)) fun xs107 p107 c107 hz107 => .fn (tl := [_, _, _]) rfl <| .ap (news := [strV [97], strV [97], .int .i64 x.n.toInt]) Fx.row29 rfl (fun _ => (.tail <| .head)) rfl (.box (.head _) z0) rfl (by simp [Value.oneCell', strV]) (by simp [maxLen]; omega) (by omega) rfl fun r112 _ => ?_
     refine At.ra (.tail _ <| .head _) fun p112 c112 e112 => ?_
     subst e112
     refine .yv (.fieldAddr rfl Fx.field32_2) rfl <| .st (.tail <| .tail <| .tail <| .tail <| .tail <| .tail <| .tail <| .head) rfl rfl Fx.size29 rfl (nb rfl) rfl <| ?_
     refine At.pm [1, 0, 2, 3, 4, 5, 6, 7] [_, _, _, _, _, _, _, _] rfl rfl ?_
     refine Sx.freezeSeq (ds := (f.links ++ [(⟨[97], [97], x.n⟩ : Lk)]).map dLk) (by simp <;> omega) (by rw [List.map_append]; exact hz107.snoc (lk_shut (x := ⟨[97], [97], x.n⟩) (show [(97 : UInt8)].length ≤ 1000000 by decide) (show [(97 : UInt8)].length ≤ 1000000 by decide)) rfl) fun H2 p2 c2 u2 e2 h2 => ?_
     obtain ⟨rfl, rfl⟩ := sl_inj e2
     exact .nl <| .bN <| .tN <| .me (H2, ⟨f.nm, f.flags, f.links ++ [⟨[97], [97], x.n⟩], f.comps⟩, _, ⟨nm0, vs0, vr0⟩, _, _, _, _) trivial ⟨rfl, rfl, rfl, rfl, rfl, trivial⟩ (fun _ s => s.pick [1, 2, 3, 6, 5, 4] [_, _, _, _, _, _] rfl rfl) ⟨u2, ft_shut (x := ⟨f.nm, f.flags, f.links ++ [⟨[97], [97], x.n⟩], f.comps⟩) n00 (k1.up u2.up) h2 (k3.up u2.up), ⟨(hok.mono (M := N + 100) (by omega)).flags, by show (f.links ++ [_]).length ≤ _; have := hok.links; rw [List.length_append, List.length_singleton]; omega, (hok.mono (M := N + 100) (by omega)).comps, hok.pos, (hok.mono (M := N + 100) (by omega)).all⟩, Nat.le_refl _, n0, RepZ.up u2.up hz37, RepZ.up u2.up hz41, ok0.mono (by omega)⟩
    refine .bl rfl (Fx.bsl29_1 _ _ _) rfl fun b111 => .h1 <| .blR rfl Fx.bsl29_0 rfl (z := 3) rfl (by decide) fun g104 => .h1 <| .apD0 Fx.row29 rfl (fun _ _ => .head) rfl k2 (by simp [maxLen]; omega) (by omega) rfl (fun _ _ => (.yv (.build rfl (Fx.bld86_0_1_2 _ _ _)) <| .yv (.load rfl Fx.agg2 (.tail _ <| .tail _ <| .tail _ <| .tail _ <| .tail _ <| .tail _ <| .head _) rfl) <| .yv (.fieldAddr rfl Fx.field55_3) <| .done (by kernel_rfl) <| .done (by kernel_rfl) <| .nl)) fun xs107 p107 c107 hz107 => .fn (tl := [_, _, _]) rfl <| .ap (news := [strV [97], strV [97], .int .i64 x.n.toInt]) Fx.row29 rfl (fun _ => .head) rfl (.box (.tail _ <| .head _) z0) rfl (by simp [Value.oneCell', strV]) (by simp [maxLen]; omega) (by omega) rfl fun r112 _ => ?_
    refine At.ra (.head _) fun p112 c112 e112 => ?_
    subst e112
    refine .yv (.fieldAddr rfl Fx.field32_2) rfl <| .st (.tail <| .tail <| .tail <| .tail <| .tail <| .tail <| .tail <| .head) rfl rfl Fx.size29 rfl (nb rfl) rfl <| ?_
    refine Sx.freezeSeq (ds := (f.links ++ [(⟨[97], [97], x.n⟩ : Lk)]).map dLk) (by simp <;> omega) (by rw [List.map_append]; exact hz107.snoc (lk_shut (x := ⟨[97], [97], x.n⟩) (show [(97 : UInt8)].length ≤ 1000000 by decide) (show [(97 : UInt8)].length ≤ 1000000 by decide)) rfl) fun H2 p2 c2 u2 e2 h2 => ?_
    obtain ⟨rfl, rfl⟩ := sl_inj e2
    exact .nl <| .bN <| .tN <| .me (H2, ⟨f.nm, f.flags, f.links ++ [⟨[97], [97], x.n⟩], f.comps⟩, _, ⟨nm0, vs0, vr0⟩, _, _, _, _) trivial ⟨rfl, rfl, rfl, rfl, rfl, trivial⟩ (fun _ s => s.pick [1, 2, 3, 6, 5, 4] [_, _, _, _, _, _] rfl rfl) ⟨u2, ft_shut (x := ⟨f.nm, f.flags, f.links ++ [⟨[97], [97], x.n⟩], f.comps⟩) n00 (k1.up u2.up) h2 (k3.up u2.up), ⟨(hok.mono (M := N + 100) (by omega)).flags, by show (f.links ++ [_]).length ≤ _; have := hok.links; rw [List.length_append, List.length_singleton]; omega, (hok.mono (M := N + 100) (by omega)).comps, hok.pos, (hok.mono (M := N + 100) (by omega)).all⟩, Nat.le_refl _, n0, RepZ.up u2.up hz37, RepZ.up u2.up hz41, ok0.mono (by omega)⟩
   skip
   refine .sr <| .yv (.eql rfl rfl) rfl <| .a rfl rfl <| .nt <| .cd rfl (fun h114 => ?_) (fun h114 => ?_)
   ·skip
    exact .rg <| .m rfl rfl <| .yv (.fieldAddr rfl Fx.field91_0) rfl <| .st (.tail <| .tail <| .head) rfl rfl Fx.size9 rfl (nb rfl) rfl <| .nl <| .bN <| .tN <| .me (H, f, _, ⟨wordR x.nm, vs0, vr0⟩, _, _, _, _) trivial ⟨rfl, rfl, rfl, rfl, rfl, trivial⟩ (fun _ s => s.pick [0, 1, 2, 5, 4, 3] [_, _, _, _, _, _] rfl rfl) ⟨.refl, h, hok.mono (by omega), Nat.le_refl _, (Nat.le_trans (word_len _) (by decide)), hz37, hz41, ⟨(ok0.mono (M := N + 100) (by omega)).vars, (ok0.mono (M := N + 100) (by omega)).vers, (ok0.mono (M := N + 100) (by omega)).all⟩⟩
   skip
   refine .sr <| .yv (.eql rfl rfl) rfl <| .a rfl rfl <| .nt <| .cd rfl (fun h118 => ?_) (fun h118 => ?_)
   ·skip
    refine .sr <| .a rfl rfl <| .nt <| .bk <| .pm [0, 2, 1, 3, 4, 5] [_, _, _, _, _, _] rfl rfl <| .lp (X := Nat × Value × List Value) [(2, _), (3, _), (4, _), (5, _), (6, _), (7, _), (8, _)] ⟨rfl, rfl, rfl, rfl, rfl, rfl, rfl, trivial⟩ [_, _, _, _] (fun z => [(12, .int .i64 (z.1 : Nat))]) (fun z => H) (fun z => [.row 93 3 z.2.1 (vs0.length + z.1) z.2.2, .box b8 [strV nm0, z.2.1, .slice p41 vr0.length c41] 91]) (fun z => z.1 ≤ m ∧ RepZ H 3 ((vs0 ++ List.replicate z.1 (wvar x.nm)).map (dVr .i64)) z.2.2) (fun z => m - z.1) (0, _, _) (fun _ s => s) ⟨rfl, trivial⟩ ⟨by simp, by simpa using hz37⟩ fun z hC => ?_
    obtain ⟨j, rv, ys⟩ := z
    dsimp only at hC ⊢
    obtain ⟨hj0, hzv⟩ := hC
    refine .sq <| .sr <| .m rfl rfl <| .m rfl rfl <| .yv (.lss rfl rfl) rfl <| .nt <| .cd rfl (fun h122 => ?_) (fun h122 => ?_)
    ·try simp only [dt] at h122
     have hj : j < m := by omega
     refine .sk <| .tN <| .sq <| .bk <| .rg <| .yv (.fieldAddr rfl Fx.field91_1) rfl <| .yv (.load rfl Fx.agg88 (.tail _ <| .head _) rfl) rfl <| .m rfl rfl <| .yv (.build rfl (Fx.bld93_0_1 _ _)) rfl <| .bl rfl (Fx.bsl88_1 _ _ _) rfl fun b129 => .ap (news := [strV (wordR x.nm), .int .i64 1, .int .i64 0]) Fx.row88 rfl (fun _ => (.tail <| .head)) rfl (.box (.head _) z0) rfl (by simp [Value.oneCell', strV]) (by simp [maxLen]; omega) (by omega) rfl fun r130 _ => ?_
     refine At.ra (.tail _ <| .head _) fun p130 c130 e130 => ?_
     exact .yv (.fieldAddr rfl Fx.field91_1) rfl <| .st (.tail <| .tail <| .head) rfl rfl Fx.size88 (by rw [e130]; rfl) (nb rfl) rfl <| .nl <| .bN <| .tN <| .rg <| .m rfl rfl <| .yv (.add rfl rfl (w6 (by omega))) rfl <| .a rfl rfl <| .nt <| .ag (x := (j, rv, ys)) (j + 1, r130, ys ++ [strV (wordR x.nm), .int .i64 1, .int .i64 0]) ⟨rfl, trivial⟩ ⟨rfl, rfl, rfl, rfl, rfl, rfl, rfl, trivial⟩ (fun _ s => (s.pick [1, 2, 3, 4, 5, 6] _ rfl rfl)) ⟨by dsimp only; omega, by dsimp only; rw [List.replicate_succ', ← List.append_assoc, List.map_append]; exact hzv.snoc (vr_shut (x := wvar x.nm) (Nat.le_trans (word_len _) (by decide))) rfl⟩ (by dsimp only; omega)
    try simp only [df] at h122
    obtain rfl : m = j := by omega
    exact .ex <| .tE <| .tE <| .bE <| .bN <| .tN <| .me (H, f, _, ⟨nm0, vs0 ++ List.replicate m (wvar x.nm), vr0⟩, _, _, _, _) trivial ⟨rfl, rfl, rfl, rfl, rfl, trivial⟩ (fun _ s => by rw [show (vs0 ++ List.replicate m (wvar x.nm)).length = vs0.length + m by simp]; exact (s.pick [0, 2, 1, 5, 4, 3] _ rfl rfl)) ⟨.refl, h, hok.mono (by omega), Nat.le_refl _, n0, hzv, hz41, ⟨by show (vs0 ++ _).length ≤ _; have : vs0.length ≤ N := ok0.vars; simp; omega, (ok0.mono (M := N + 100) (by omega)).vers, (ok0.mono (M := N + 100) (by omega)).all⟩⟩
   skip
   refine .sr <| .yv (.eql rfl rfl) rfl <| .a rfl rfl <| .nt <| .cd rfl (fun h132 => ?_) (fun h132 => ?_)
   ·skip
    refine .rg <| .yv (.fieldAddr rfl Fx.field91_1) rfl <| .yv (.load rfl Fx.agg88 (.tail _ <| .tail _ <| .head _) rfl) rfl <| .yv (.fieldAddr rfl Fx.field55_2) rfl <| .yv (.load rfl Fx.agg5 (.tail _ <| .tail _ <| .tail _ <| .tail _ <| .head _) rfl) rfl <| .yv (.rem rfl rfl (by decide) (c := ((x.nm.toNat % 5 : Nat) : Int)) (by rw [Int.tmod_eq_emod_of_nonneg (by omega)]; omega)) rfl <| .yv (.conv rfl Fx.int5 Fx.int3 (c := ((x.nm.toNat % 5 : Nat) : Int)) (w6 (by omega))) rfl <| .yv (.fieldAddr rfl Fx.field55_3) rfl <| .yv (.load rfl Fx.agg2 (.tail _ <| .tail _ <| .tail _ <| .tail _ <| .head _) rfl) rfl <| .yv (.build rfl (Fx.bld93_0_1_2 _ _ _)) rfl <| .bl rfl (Fx.bsl88_1 _ _ _) rfl fun b143 => .ap (news := [strV [121], .int .i64 (x.nm.toNat % 5 : Nat), .int .i64 x.n.toInt]) Fx.row88 rfl (fun _ => (.tail <| .head)) rfl (.box (.head _) z0) rfl (by simp [Value.oneCell', strV]) (by simp [maxLen]; omega) (by omega) rfl fun r144 _ => ?_
    refine At.ra (.tail _ <| .head _) fun p144 c144 e144 => ?_
    subst e144
    exact .yv (.fieldAddr rfl Fx.field91_1) rfl <| .st (.tail <| .tail <| .tail <| .head) rfl rfl Fx.size88 rfl (nb rfl) rfl <| .nl <| .bN <| .tN <| .me (H, f, _, ⟨nm0, vs0 ++ [⟨[121], UInt8.ofNat (x.nm.toNat % 5), x.n⟩], vr0⟩, _, _, _, _) trivial ⟨rfl, rfl, rfl, rfl, rfl, trivial⟩ (fun _ s => by rw [show (vs0 ++ [⟨[121], UInt8.ofNat (x.nm.toNat % 5), x.n⟩] : List Vr).length = vs0.length + 1 by simp]; exact (s.pick [1, 2, 3, 6, 5, 4] _ rfl rfl)) ⟨.refl, h, hok.mono (by omega), Nat.le_refl _, n0, (by rw [List.map_append]; exact hz37.snoc (yvar_shut _ _) rfl), hz41, ⟨by show (vs0 ++ [_]).length ≤ _; have : vs0.length ≤ N := ok0.vars; simp; omega, (ok0.mono (M := N + 100) (by omega)).vers, (ok0.mono (M := N + 100) (by omega)).all⟩⟩
   skip
   refine .sr <| .yv (.eql rfl rfl) rfl <| .a rfl rfl <| .nt <| .cd rfl (fun h146 => ?_) (fun h146 => ?_)
   ·skip
    refine .rg <| .yv (.fieldAddr rfl Fx.field91_2) rfl <| .st (.tail <| .tail <| .head) rfl rfl Fx.size89 rfl (nb rfl) rfl <| ?_
    refine Sx.row0 97 1 ?_
    exact .nl <| .bN <| .tN <| .me (H, f, _, ⟨nm0, vs0, []⟩, _, _, _, _) trivial ⟨rfl, rfl, rfl, rfl, rfl, trivial⟩ (fun _ s => s.pick [1, 0, 3, 6, 5, 4] [_, _, _, _, _, _] rfl rfl) ⟨.refl, h, hok.mono (by omega), Nat.le_refl _, n0, hz37, .nil, ⟨(ok0.mono (M := N + 100) (by omega)).vars, by simp, fun _ h => by cases h⟩⟩
   skip
   refine .sr <| .yv (.eql rfl rfl) rfl <| .a rfl rfl <| .nt <| .cd rfl (fun h149 => ?_) (fun h149 => ?_)
   ·skip
    refine .sr <| .a rfl rfl <| .nt <| .bk <| .pm [1, 2, 0, 3, 4, 5] [_, _, _, _, _, _] rfl rfl <| .lp (X := Nat × Value × List Value) [(2, _), (3, _), (4, _), (5, _), (7, _), (8, _)] ⟨rfl, rfl, rfl, rfl, rfl, rfl, trivial⟩ [_, _, _, _] (fun z => [(13, .int .i64 (z.1 : Nat))]) (fun z => H) (fun z => [.row 97 1 z.2.1 (vr0.length + z.1) z.2.2, .box b8 [strV nm0, .slice p37 vs0.length c37, z.2.1] 91]) (fun z => z.1 ≤ m ∧ RepZ H 1 ((vr0 ++ List.replicate z.1 []).map (dVs .i64)) z.2.2) (fun z => m - z.1) (0, _, _) (fun _ s => s) ⟨rfl, trivial⟩ ⟨by simp, by simpa using hz41⟩ fun z hC => ?_
    obtain ⟨j, rv, ys⟩ := z
    dsimp only at hC ⊢
    obtain ⟨hj0, hzv⟩ := hC
    refine .sq <| .sr <| .m rfl rfl <| .m rfl rfl <| .yv (.lss rfl rfl) rfl <| .nt <| .cd rfl (fun h153 => ?_) (fun h153 => ?_)
    ·try simp only [dt] at h153
     have hj : j < m := by omega
     refine .sk <| .tN <| .sq <| .bk <| .rg <| .yv (.fieldAddr rfl Fx.field91_2) rfl <| .yv (.load rfl Fx.agg89 (.tail _ <| .head _) rfl) rfl <| .bl rfl (Fx.bsl89_1 _ _ _) rfl fun b158 => .ap (news := [.slice none 0 0]) Fx.row89 rfl (fun _ => (.tail <| .head)) rfl (.box (.head _) z0) rfl (by simp [Value.oneCell', strV]) (by simp [maxLen]; omega) (by omega) rfl fun r159 _ => ?_
     refine At.ra (.tail _ <| .head _) fun p159 c159 e159 => ?_
     exact .yv (.fieldAddr rfl Fx.field91_2) rfl <| .st (.tail <| .tail <| .head) rfl rfl Fx.size89 (by rw [e159]; rfl) (nb rfl) rfl <| .nl <| .bN <| .tN <| .rg <| .m rfl rfl <| .yv (.add rfl rfl (w6 (by omega))) rfl <| .a rfl rfl <| .nt <| .ag (x := (j, rv, ys)) (j + 1, r159, ys ++ [.slice none 0 0]) ⟨rfl, trivial⟩ ⟨rfl, rfl, rfl, rfl, rfl, rfl, trivial⟩ (fun _ s => (s.pick [1, 2, 3, 4, 5, 6] _ rfl rfl)) ⟨by dsimp only; omega, by dsimp only; rw [List.replicate_succ', ← List.append_assoc, List.map_append]; exact hzv.snoc (Rep.empty (by decide)) rfl⟩ (by dsimp only; omega)
    try simp only [df] at h153
    obtain rfl : m = j := by omega
    exact .ex <| .tE <| .tE <| .bE <| .bN <| .tN <| .me (H, f, _, ⟨nm0, vs0, vr0 ++ List.replicate m []⟩, _, _, _, _) trivial ⟨rfl, rfl, rfl, rfl, rfl, trivial⟩ (fun _ s => by rw [show (vr0 ++ List.replicate m ([] : List Hd)).length = vr0.length + m by simp]; exact (s.pick [2, 0, 1, 5, 4, 3] _ rfl rfl)) ⟨.refl, h, hok.mono (by omega), Nat.le_refl _, n0, hz37, hzv, ⟨(ok0.mono (M := N + 100) (by omega)).vars, by show (vr0 ++ _).length ≤ _; have : vr0.length ≤ N := ok0.vers; simp; omega, fun v hv => (List.mem_append.1 hv).elim ((ok0.mono (M := N + 100) (by omega)).all v) (fun hv => by rw [List.eq_of_mem_replicate hv]; exact .nil)⟩⟩
   skip
   exact .sk <| .bN <| .tN <| .me (H, f, _, ⟨nm0, vs0, vr0⟩, _, _, _, _) trivial ⟨rfl, rfl, rfl, rfl, rfl, trivial⟩ (fun _ s => s.pick [0, 1, 2, 5, 4, 3] [_, _, _, _, _, _] rfl rfl) ⟨.refl, h, hok.mono (by omega), Nat.le_refl _, n0, hz37, hz41, ok0.mono (by omega)⟩
  obtain ⟨H1, f1, cs1, c1, rv, xv, rs, xs⟩ := z
  dsimp only at hC ⊢
  obtain ⟨u1, hf1, okf, hle, nc, hzv, hzs, okc⟩ := hC
  obtain ⟨p11, c11, p12, c12, p13, c13, rfl, nf1, kf1, kf2, kf3⟩ := ft_open hf1
  have hi1 : i < f1.comps.length := by omega
  refine At.ra (.head _) fun p177 c177 e177 => ?_
  subst e177
  refine At.ra (.tail _ (.head _)) fun p178 c178 e178 => ?_
  subst e178
  have hvl1 : c1.vers.length ≤ N + 100 := okc.vers
  have hcl1 := okf.comps
  refine .cu (X := Hp × Cp × List Value) [(2, _), (3, _), (4, _), (7, _), (8, _)] ⟨rfl, rfl, rfl, rfl, rfl, trivial⟩ (fun z => []) (fun z => z.1) (fun z => [.box b8 z.2.2 91, .box b2 [strV f1.nm, .slice p11 f1.flags.length c11, .slice p12 f1.links.length c12, .slice p13 f1.comps.length c13] 32, .box b3 [.int .u8 x.wh.toNat, .int .u8 x.i.toNat, .int .u8 x.nm.toNat, .int .i64 x.n.toInt, .slice pN x.nodes.length cN] 55, .box b4 [.string ⟨#[]⟩, .slice none 0 0, .slice none 0 0, .slice none 0 0] 32]) (fun z => HUp w H1 z.1 ∧ Rep z.1 (dCp .i64 z.2.1) z.2.2 ∧ okCp (2 * (N + 100) + 100) z.2.1) ?_ fun z hC => ?_
  ·
   refine .sr <| .yv (.fieldAddr rfl Fx.field55_0) rfl <| .yv (.load rfl Fx.agg5 (.tail _ <| .tail _ <| .tail _ <| .tail _ <| .head _) rfl) rfl <| .yv (.rem rfl rfl (by decide) (c := ((x.wh.toNat % 26 : Nat) : Int)) (by rw [Int.tmod_eq_emod_of_nonneg (by omega)]; omega)) rfl <| .yv (.gtr rfl rfl) rfl <| .m rfl rfl <| .b2 (fun h165 => ?_) (fun h165 => ?_)
   ·skip
    refine .gd rfl rfl <| .yv (.fieldAddr rfl Fx.field91_2) rfl <| .gd rfl rfl <| .yv (.load rfl Fx.agg89 (.tail _ <| .tail _ <| .head _) rfl) rfl <| .gd rfl rfl <| .yv (.lenSl Fx.sl89 rfl) rfl <| .gd rfl rfl <| .yv (.gtr rfl rfl) rfl <| .yv (.pickT rfl rfl) rfl <| .m rfl rfl <| .b2 (fun h171 => ?_) (fun h171 => ?_)
    ·try simp only [dt] at h171
     have hv0 : 0 < c1.vers.length := by omega
     refine At.rs (.tail _ (.head _)) hv0 fun gS cS eS => ?_
     obtain ⟨rfl, rfl⟩ := sl_inj eS
     obtain ⟨cV, rV, lV, mV⟩ := hzs.at (i := 0) (map_at (f := dVs .i64) hv0)
     have okv := okc.all _ (List.getElem_mem hv0)
     generalize hl0 : c1.vers[0] = l0 at rV okv
     obtain ⟨pz, cz, rfl, rz⟩ := vs_open rV
     have hmz : xs[0]? = some (.slice pz l0.length cz) := mV 0 _ rfl
     refine .gd rfl rfl <| .yv (.fieldAddr rfl Fx.field91_2) rfl <| .gd rfl rfl <| .yv (.load rfl Fx.agg89 (.tail _ <| .tail _ <| .head _) rfl) rfl <| .gd rfl rfl <| .yv (.indexSl Fx.sl89 rfl rfl (i := 0) rfl hv0 (q := 0) rfl) rfl <| .gd rfl rfl <| .yv (.loadSrc rfl Fx.agg97 (.row (.tail _ <| .head _) (one_at hmz))) rfl <| .gd rfl rfl <| .yv (.lenSl Fx.sl97 rfl) rfl <| .gd rfl rfl <| .yv (.gtr rfl rfl) rfl <| .yv (.pickT rfl rfl) rfl <| .nt <| .cd rfl (fun h178 => ?_) (fun h178 => ?_)
     ·try simp only [dt] at h178
      have hl0p : 0 < l0.length := by omega
      refine At.pm [1, 0, 2, 3, 4, 5] [_, _, _, _, _, _] rfl rfl ?_
      refine At.rc hv0 fun moreS hcS1 hcS2 => ?_
      refine .fl (trip := [(_, _, _), (_, _, _), (_, _, _), (_, _, _), (_, _, _), (_, _, _), (_, _, _), (_, _, _)]) 8 [(0, 0), (1, 0), (2, 0), (3, 0), (4, 0), (5, 0), (6, 0), (7, 1)] (by kernel_rfl) (by kernel_rfl) rfl <| .yv (.fieldAddr rfl Fx.field91_2) rfl <| .yv (.load rfl Fx.agg89 (.tail _ <| .tail _ <| .head _) rfl) rfl <| .yv (.fieldAddr rfl Fx.field91_2) rfl <| .yv (.load rfl Fx.agg89 (.tail _ <| .tail _ <| .head _) rfl) rfl <| .yv (.indexSl Fx.sl89 rfl rfl (i := 0) rfl hv0 (q := 0) rfl) rfl <| .yv (.load (v := .slice pz l0.length cz) rfl Fx.agg97 (.head _) (get_app hmz)) rfl <| .yv (.loadW rfl Fx.agg55 (.tail _ <| .tail _ <| .tail _ <| .tail _ <| .head _) rfl) rfl <| .ct (X := Value) Fx.call54 rfl (fun W s => handlersOf_any H1 l0 x _ _ (N + 100) (by omega) W rz (hX.up u1.up) hl0p okv s.agr) rfl fun v186 H186 hc186 u186 => ?_
      obtain ⟨l2, hl2, okl2⟩ := hc186
      obtain ⟨pl2, cl2, el2, _⟩ := hl2.sl
      simp only [List.cons.injEq, and_true, List.length_map] at el2
      subst el2
      refine .fn (tl := [_, _]) rfl <| .yv (.indexSl Fx.sl89 rfl rfl (i := 0) rfl hv0 (q := 0) rfl) rfl <| .st (l' := ((xs ++ moreS).set 0 (.slice pl2 l2.length cl2))) .head rfl rfl Fx.size97 rfl (by rw [List.length_append, hzs.len, List.length_map]; omega) rfl <| ?_
      refine Sx.freezeBox fun HS uS mS0 => ?_
      have mS1 : MemAt HS gS 0 (setsL xs (0 * 1) [.slice pl2 l2.length cl2] ++ moreS) := by rw [← setsL_app [.slice pl2 l2.length cl2] xs moreS (0 * 1) (by rw [hzs.len, List.length_map]; simp; omega)]; exact mS0
      have hSx0 : Rep HS (.seq 1 ((c1.vers.set 0 l2).map (dVs .i64))) [.slice (some ⟨gS, 0, none⟩) c1.vers.length c178] := Rep.mk mS1.pre (by rw [List.map_set]; exact RepZ.put (i := 0) (hl2.up uS.up) rfl (hzs.up (u186.trans uS).up) (by simpa using hv0)) (by simp) hcS1 hcS2
      refine Sx.freezeSeq (ds := c1.vars.map (dVr .i64)) (by simp) (hzv.up (u186.trans uS).up) fun HV pV cV uV eV hV => ?_
      obtain ⟨rfl, rfl⟩ := sl_inj eV
      have uu := u186.trans (uS.trans uV)
      have hSx := hSx0.up uV.up
      exact .nt <| .me (HV, ⟨c1.nm, c1.vars, c1.vers.set 0 l2⟩, _) trivial ⟨rfl, rfl, rfl, rfl, rfl, trivial⟩ (fun _ s => s) ⟨uu, cp_shut (x := ⟨c1.nm, c1.vars, c1.vers.set 0 l2⟩) nc hV hSx, okC_set okc okl2⟩
     skip
     refine .sk <| .tN <| ?_
     refine At.pm [1, 0, 2, 3, 4, 5] [_, _, _, _, _, _] rfl rfl ?_
     refine Sx.freezeSeq (ds := c1.vers.map (dVs .i64)) (by simp) hzs fun HS pS cS uS eS hS0 => ?_
     obtain ⟨rfl, rfl⟩ := sl_inj eS
     refine Sx.freezeSeq (ds := c1.vars.map (dVr .i64)) (by simp) (hzv.up uS.up) fun HV pV cV uV eV hV => ?_
     obtain ⟨rfl, rfl⟩ := sl_inj eV
     have uu := uS.trans uV
     have hS := hS0.up uV.up
     exact .me (HV, c1, _) trivial ⟨rfl, rfl, rfl, rfl, rfl, trivial⟩ (fun _ s => s) ⟨uu, cp_shut nc hV hS, okc.mono (by omega)⟩
    skip
    refine .gF rfl rfl rfl rfl <| .gF rfl rfl rfl rfl <| .gF rfl rfl rfl rfl <| .gF rfl rfl rfl rfl <| .gF rfl rfl rfl rfl <| .gF rfl rfl rfl rfl <| .yv (.pickF rfl rfl) rfl <| .nt <| .cF rfl <| .sk <| .tN <| ?_
    refine At.pm [1, 0, 2, 3, 4, 5] [_, _, _, _, _, _] rfl rfl ?_
    refine Sx.freezeSeq (ds := c1.vers.map (dVs .i64)) (by simp) hzs fun HS pS cS uS eS hS0 => ?_
    obtain ⟨rfl, rfl⟩ := sl_inj eS
    refine Sx.freezeSeq (ds := c1.vars.map (dVr .i64)) (by simp) (hzv.up uS.up) fun HV pV cV uV eV hV => ?_
    obtain ⟨rfl, rfl⟩ := sl_inj eV
    have uu := uS.trans uV
    have hS := hS0.up uV.up
    exact .me (HV, c1, _) trivial ⟨rfl, rfl, rfl, rfl, rfl, trivial⟩ (fun _ s => s) ⟨uu, cp_shut nc hV hS, okc.mono (by omega)⟩
   skip
   refine .gF rfl rfl rfl rfl <| .gF rfl rfl rfl rfl <| .gF rfl rfl rfl rfl <| .gF rfl rfl rfl rfl <| .yv (.pickF rfl rfl) rfl <| .m rfl rfl <| .gF rfl rfl rfl rfl <| .gF rfl rfl rfl rfl <| .gF rfl rfl rfl rfl <| .gF rfl rfl rfl rfl <| .gF rfl rfl rfl rfl <| .gF rfl rfl rfl rfl <| .yv (.pickF rfl rfl) rfl <| .nt <| .cF rfl <| .sk <| .tN <| ?_
   refine At.pm [1, 0, 2, 3, 4, 5] [_, _, _, _, _, _] rfl rfl ?_
   refine Sx.freezeSeq (ds := c1.vers.map (dVs .i64)) (by simp) hzs fun HS pS cS uS eS hS0 => ?_
   obtain ⟨rfl, rfl⟩ := sl_inj eS
   refine Sx.freezeSeq (ds := c1.vars.map (dVr .i64)) (by simp) (hzv.up uS.up) fun HV pV cV uV eV hV => ?_
   obtain ⟨rfl, rfl⟩ := sl_inj eV
   have uu := uS.trans uV
   have hS := hS0.up uV.up
   exact .me (HV, c1, _) trivial ⟨rfl, rfl, rfl, rfl, rfl, trivial⟩ (fun _ s => s) ⟨uu, cp_shut nc hV hS, okc.mono (by omega)⟩
  obtain ⟨H2, c2, cs2⟩ := z
  dsimp only at hC ⊢
  obtain ⟨u2, hc2, okc2⟩ := hC
  refine .sq <| .sr <| .yv (.fieldAddr rfl Fx.field55_0) rfl <| .yv (.load rfl Fx.agg5 (.tail _ <| .tail _ <| .head _) rfl) rfl <| .yv (.rem rfl rfl (by decide) (c := ((x.wh.toNat % 26 : Nat) : Int)) (by rw [Int.tmod_eq_emod_of_nonneg (by omega)]; omega)) rfl <| .yv (.gtr rfl rfl) rfl <| .nt <| .cd rfl (fun h191 => ?_) (fun h191 => ?_)
  ·skip
   refine .sr <| .blR rfl Fx.bsl30_0 rfl (z := 3) rfl (by decide) fun g192 => .yv (.fieldAddr rfl Fx.field32_3) rfl <| .yv (.load rfl Fx.agg30 (.tail _ <| .tail _ <| .head _) rfl) rfl <| .apD0 Fx.row30 rfl (fun _ _ => .head) rfl (kf3.up u2.up) (by simp [maxLen]; omega) (by omega) rfl fun xs195 r195 hz195 => ?_
   refine At.ra (.head _) fun p195 c195 e195 => ?_
   refine .yv (.fieldAddr rfl Fx.field32_3) rfl <| .st (.tail <| .tail <| .head) rfl rfl Fx.size30 (by rw [e195]; rfl) (nb rfl) rfl <| ?_
   refine At.rb (by omega) fun gB capB moreB eB hcB1 hcB2 => ?_
   subst eB
   refine .nt <| .rg <| .yv (.fieldAddr rfl Fx.field32_3) rfl <| .yv (.load rfl Fx.agg30 (.tail _ <| .tail _ <| .head _) rfl) rfl <| .m rfl rfl <| .yv (.loadW rfl Fx.agg91 (.tail _ <| .head _) (cp_len hc2)) rfl <| .yv (.indexSl Fx.sl30 rfl rfl (i := i) rfl (by omega) (q := i * 3) (by omega)) rfl <| .sE (vs := cs2) .head rfl rfl (by rw [cp_len hc2]; exact Fx.size91) hc2.one (by rw [cp_len hc2, List.length_append, hz195.len, List.length_map]; omega) <| ?_
   refine Sx.freezeBox fun HB uB mB0 => ?_
   rw [setsL_app _ _ _ _ (by rw [cp_len hc2, hz195.len, List.length_map]; omega)] at mB0
   have hB : Rep HB (.seq 3 ((f1.comps.set i c2).map (dCp .i64))) [.slice (some ⟨gB, 0, none⟩) f1.comps.length capB] := Rep.mk mB0.pre (by rw [List.map_set]; exact RepZ.put (hc2.up uB.up) (cp_len hc2) (hz195.up uB.up) (by simpa using hi1)) (by simp) hcB1 hcB2
   refine .ns <| .yv (.loadW rfl Fx.agg32 (.tail _ <| .head _) rfl) rfl <| .sW (.tail <| .tail <| .tail <| .head) rfl rfl Fx.size32 (by show ∀ u ∈ [_, _, _, _], Value.oneCell' u = true; simp [Value.oneCell', strV]) rfl <| .nt <| .rt <| ?_
   exact Sx.ret1 (.inl rfl) rfl (.cell rfl Fx.agg32 (.tail _ <| .tail _ <| .tail _ <| .head _) rfl) fun W t => ⟨_, HB, ⟨⟨f1.nm, f1.flags, f1.links, f1.comps.set i c2⟩, ft_shut (x := ⟨f1.nm, f1.flags, f1.links, f1.comps.set i c2⟩) nf1 (kf1.up (u2.trans uB).up) (kf2.up (u2.trans uB).up) hB, okF_set okf okc2⟩, rfl, (u1.trans (u2.trans uB)).grow t⟩
  skip
  refine .sk <| .tN <| .sr <| .yv (.loadW rfl Fx.agg32 (.tail _ <| .head _) rfl) rfl <| .sW (.tail <| .tail <| .tail <| .head) rfl rfl Fx.size32 (by show ∀ u ∈ [_, _, _, _], Value.oneCell' u = true; simp [Value.oneCell', strV]) rfl <| .nt <| .rt <| ?_
  exact Sx.ret1 (.inl rfl) rfl (.cell rfl Fx.agg32 (.tail _ <| .tail _ <| .tail _ <| .head _) rfl) fun W t => ⟨_, H2, ⟨f1, hf1.up u2.up, okf.mono (by omega)⟩, rfl, (u1.trans u2).grow t⟩
end Go.Proofs.YtmbiojpcidccjaaGreatDoor
namespace Go.Proofs.YtmbiojpcidccjaaGreatDoor
def okD (D : Nat) (e : Ex) : Prop := e.depth ≤ D ∧ Ex.all narrow e = true
theorem okD.mono {D D' : Nat} {e : Ex} (h : okD D e) (k : D ≤ D') : okD D' e := ⟨Nat.le_trans h.1 k, h.2⟩
theorem okD0 {D : Nat} {op : UInt8} {nm : Str} {n : Int64} : okD (D + 1) (.mk op nm n []) := ⟨by rw [depth_mk]; simp [Ex.deeps], by rw [all_mk, narrow_mk]; rfl⟩
theorem okD1 {D : Nat} {op : UInt8} {nm : Str} {n : Int64} {a : Ex} (h : okD D a) : okD (D + 1) (.mk op nm n [a]) := by
  refine ⟨?_, ?_⟩
  · rw [depth_mk]; simp only [Ex.deeps]; have := h.1; omega
  · rw [all_mk, narrow_mk]; simp [Ex.alls, h.2]
theorem okD2 {D : Nat} {op : UInt8} {nm : Str} {n : Int64} {a b : Ex} (h : okD D a) (k : okD D b) : okD (D + 1) (.mk op nm n [a, b]) := by
  refine ⟨?_, ?_⟩
  · rw [depth_mk]; simp only [Ex.deeps]; have := h.1; have := k.1; omega
  · rw [all_mk, narrow_mk]; simp [Ex.alls, h.2, k.2]
theorem numT_ok {M : Mk} {d D k : Nat} {rec : Bs → Ex × Bs} (h : ∀ b, okD D (rec b).1) (b : Bs) : okD (D + 1) (numT M d rec k b).1 := by
  unfold numT
  split
  · exact okD0
  split
  · exact okD0
  split
  · exact okD0
  split
  · exact okD0
  split
  · exact okD1 (h _)
  split
  · exact okD0
  split
  · exact okD1 (h _)
  · exact okD2 (h _) (h _)
theorem numE_ok (M : Mk) : ∀ f b, okD (f + 2) (numE M f b).1
  | 0, b => numT_ok (fun _ => okD0) _
  | f + 1, b => numT_ok (numE_ok M f) _
theorem numL_ok (M : Mk) : ∀ n b, (numL M n b).1.length = n ∧ ∀ e ∈ (numL M n b).1, okD 4 e
  | 0, b => ⟨rfl, fun _ h => by cases h⟩
  | n + 1, b => by
    obtain ⟨h1, h2⟩ := numL_ok M n (numE M 2 b).2
    refine ⟨by simp [numL, h1], fun e he => ?_⟩
    rcases List.mem_cons.1 he with rfl | he
    · exact numE_ok M 2 b
    · exact h2 e he
theorem truT_ok {M : Mk} {d D k : Nat} {rec : Bs → Ex × Bs} (hD : 4 ≤ D) (h : ∀ b, okD D (rec b).1) (b : Bs) : okD (D + 1) (truT M d rec k b).1 := by
  have hn : ∀ b, okD D (numE M 2 b).1 := fun b => (numE_ok M 2 b).mono hD
  unfold truT
  split
  · exact okD0
  split
  · exact okD0
  split
  · exact okD0
  split
  · exact okD1 (hn _)
  split
  · exact okD1 (h _)
  split
  · exact okD2 (h _) (h _)
  · exact okD2 (hn _) (hn _)
theorem truE_ok (M : Mk) : ∀ f b, okD (f + 6) (truE M f b).1
  | 0, b => truT_ok (D := 5) (by omega) (fun _ => okD0 (D := 4)) _
  | f + 1, b => truT_ok (by omega) (truE_ok M f) _
mutual
theorem sdepth_le : ∀ s : Sm, Sm.depth s ≤ Sm.count s
  | .mk kd nm hd ex th el => by
    rw [sdepth_mk, scount_mk]
    have := sdeeps_le th
    have := sdeeps_le el
    omega
theorem sdeeps_le : ∀ l : List Sm, Sm.deeps l ≤ Sm.counts l
  | [] => by simp [Sm.deeps]
  | s :: r => by
    simp only [Sm.deeps, Sm.counts]
    have := sdepth_le s
    have := sdeeps_le r
    omega
end
structure Made (lf : Nat) (l : List Sm) (lf' : Nat) : Prop where
  cnt : Sm.counts l + lf' ≤ lf
  all : Sm.alls (okS2 10) l = true
theorem made_one {lf lf' : Nat} {kd : UInt8} {nm hd : Str} {ex : List Ex} {th el : List Sm} (h1 : Sm.counts th + Sm.counts el + lf' ≤ lf) (h2 : ex.length ≤ 10) (h3 : ∀ e ∈ ex, okD 40 e) (h4 : Sm.alls (okS2 10) th = true) (h5 : Sm.alls (okS2 10) el = true) :
    Made (lf + 1) [.mk kd nm hd ex th el] lf' := by
  refine ⟨by simp only [Sm.counts, scount_mk]; omega, ?_⟩
  simp only [Sm.alls, sall_mk, okS2, Bool.and_eq_true, decide_eq_true_eq, List.all_eq_true]
  refine ⟨⟨⟨⟨h2, fun e he => ?_⟩, h4⟩, h5⟩, trivial⟩
  simp only [okE, Bool.and_eq_true, decide_eq_true_eq]
  have := h3 e he
  exact ⟨by have := this.1; omega, this.2⟩
theorem leaf_one {e : Ex} (h : okD 40 e) : ∀ x ∈ [e], okD 40 x := fun x hx => by rw [List.mem_singleton.1 hx]; exact h
theorem leaf_two {e e2 : Ex} (h : okD 40 e) (k : okD 40 e2) : ∀ x ∈ [e, e2], okD 40 x := fun x hx => by
  rcases List.mem_cons.1 hx with rfl | hx
  · exact h
  · rw [List.mem_singleton.1 hx]; exact k
theorem leaf_num {M : Mk} {n : Nat} {b : Bs} : ∀ x ∈ (numL M n b).1, okD 40 x := fun x hx => ((numL_ok M n b).2 x hx).mono (by omega)
theorem leaf_more {e : Ex} (h : okD 40 e) {M : Mk} {n : Nat} {b : Bs} : ∀ x ∈ e :: (numL M n b).1, okD 40 x := fun x hx => by
  rcases List.mem_cons.1 hx with rfl | hx
  · exact h
  · exact leaf_num x hx
theorem stmT_made {M : Mk} (hM : ∀ c h, arN M c h ≤ 2) (k d : Nat) {bd : Bs × Nat → List Sm × (Bs × Nat)} (hb : ∀ x, Made x.2 (bd x).1 (bd x).2.2) (b : Bs) (lf : Nat) : Made (lf + 1) [(stmT M k d bd b lf).1] (stmT M k d bd b lf).2.2 := by
  have hn : ∀ f b, f ≤ 30 → okD 40 (numE M f b).1 := fun f b hf => (numE_ok M f b).mono (by omega)
  have ht : ∀ b, okD 40 (truE M 2 b).1 := fun b => (truE_ok M 2 b).mono (by omega)
  have z : Sm.counts [] = 0 := rfl
  unfold stmT
  split
  · exact made_one (lf' := lf) (by simp only [z]; omega) (by simp) (leaf_one (ht _)) rfl rfl
  split
  · exact made_one (lf' := lf) (by simp only [z]; omega) (by simp) (leaf_two (hn _ _ (by omega)) (hn _ _ (by omega))) rfl rfl
  split
  · exact made_one (lf' := lf) (by simp only [z]; omega) (by simp) (leaf_one (hn _ _ (by omega))) rfl rfl
  split
  · have h1 := hb ((truE M 2 b).2, lf)
    have h2 := hb (bd ((truE M 2 b).2, lf)).2
    exact made_one (by have := h1.cnt; have := h2.cnt; simp only at *; omega) (by simp) (leaf_one (ht _)) h1.all h2.all
  split
  · have h1 := hb ((truE M 2 b).2, lf)
    exact made_one (by have := h1.cnt; simp only at *; omega) (by simp) (leaf_one (ht _)) h1.all rfl
  split
  · exact made_one (lf' := lf) (by simp only [z]; omega) (by rw [(numL_ok _ _ _).1]; have := hM (nextB b M.ars.length).1 (nextB (nextB b M.ars.length).2 (arL M (nextB b M.ars.length).1)).1; omega) leaf_num rfl rfl
  split
  · exact made_one (lf' := lf) (by simp only [z]; omega) (by rw [List.length_cons, (numL_ok _ _ _).1]; have := hM M.own (nextB b (arL M M.own)).1; omega) (leaf_more (hn _ _ (by omega))) rfl rfl
  split
  · split
    · have h1 := hb ((numL M 2 (nextB b 2).2).2, lf)
      exact made_one (by have := h1.cnt; simp only at *; omega) (by rw [(numL_ok _ _ _).1]; omega) leaf_num rfl h1.all
    · have h1 := hb ((numE M 3 (nextB (nextB b 2).2 M.ints).2).2, lf)
      exact made_one (lf' := (bd ((numE M 3 (nextB (nextB b 2).2 M.ints).2).2, lf)).2.2) (by have := h1.cnt; simp only at *; omega) (by simp) (leaf_one (hn _ _ (by omega))) rfl h1.all
  split
  · exact made_one (lf' := lf) (by simp only [z]; omega) (by simp) (fun _ h => by cases h) rfl rfl
  · exact made_one (lf' := lf) (by simp only [z]; omega) (by simp) (leaf_one (hn _ _ (by omega))) rfl rfl
theorem bodL_made {st : Nat → Bs → Nat → Sm × (Bs × Nat)} (hs : ∀ k b lf, Made (lf + 1) [(st k b lf).1] (st k b lf).2.2) : ∀ f x, Made x.2 (bodL st f x).1 (bodL st f x).2.2
  | 0, x => ⟨by simp [bodL, Sm.counts], rfl⟩
  | f + 1, (b, lf) => by
    unfold bodL
    split
    · exact ⟨by simp [Sm.counts], rfl⟩
    · rename_i hne
      split
      · exact ⟨by simp [Sm.counts], rfl⟩
      · have h1 := hs (nextB b 14).1 (nextB b 14).2 (lf - 1)
        have h2 := bodL_made hs f (st (nextB b 14).1 (nextB b 14).2 (lf - 1)).2
        have hl : lf ≠ 0 := fun e => hne (.inr e)
        refine ⟨?_, ?_⟩
        · have a1 := h1.cnt
          have a2 := h2.cnt
          simp only [Sm.counts] at a1 ⊢
          omega
        · have a1 := h1.all
          simp only [Sm.alls, Bool.and_eq_true] at a1 ⊢
          exact ⟨a1.1, h2.all⟩
theorem bodE_made {M : Mk} (hM : ∀ c h, arN M c h ≤ 2) : ∀ f x, Made x.2 (bodE M f x).1 (bodE M f x).2.2
  | 0, x => bodL_made (fun k b lf => stmT_made hM k 3 (fun x => ⟨by simp [Sm.counts], rfl⟩) b lf) 13 x
  | f + 1, x => bodL_made (fun k b lf => stmT_made hM k (2 - f) (bodE_made hM f) b lf) 13 x
theorem hdS_ok {M : Mk} (hM : ∀ c h, arN M c h ≤ 2) (k : Nat) (c : Cd) : okHd 100 (hdS M k c) := by
  have h := bodE_made (M := M.at k) hM 3 (c.bytes.take 40, 12)
  have hc := h.cnt
  simp only at hc
  refine ⟨by simp only [hdS, namesB_len]; have := hM M.own k; omega, ?_, ?_, ?_⟩
  · simp only [hdS]; omega
  · simp only [hdS]; have := sdeeps_le (bodE (M.at k) 3 (c.bytes.take 40, 12)).1; omega
  · exact salls_imp (okS2_mono (by omega)) _ h.all
theorem hdsP_ok {M : Mk} (hM : ∀ c h, arN M c h ≤ 2) : ∀ (l : List Cd) (k : Nat), ∀ h ∈ hdsP M k l, okHd 100 h
  | [], k, h, hh => by cases hh
  | c :: r, k, h, hh => by
    rcases List.mem_cons.1 hh with rfl | hh
    · exact hdS_ok hM k c
    · exact hdsP_ok hM r (k + 1) h hh
theorem arN_le {p : Pln} {nf i : Nat} {x : Prt} (c h : Nat) : arN (mkP (arsP p) nf i x) c h ≤ 2 := by
  show ((arsP p).getD c []).getD h 0 ≤ 2
  by_cases hc : c < (arsP p).length
  · rw [getD_at hc]
    have hm := List.getElem_mem hc
    generalize (arsP p)[c] = l at hm
    obtain ⟨y, _, rfl⟩ := List.mem_map.1 hm
    by_cases hh : h < (arP y).length
    · rw [getD_at hh]; exact arP_mem (List.getElem_mem hh)
    · have e : (arP y)[h]? = none := List.getElem?_eq_none_iff.2 (by omega)
      rw [List.getD_eq_getElem?_getD, e]; simp
  · have e : (arsP p)[c]? = none := List.getElem?_eq_none_iff.2 (by omega)
    rw [List.getD_eq_getElem?_getD, List.getD_eq_getElem?_getD, e]; simp
theorem fstP_len (x : Prt) : (fstP x).length ≤ 3 := by
  unfold fstP
  split
  · simp
  · rw [List.length_take]; omega
theorem buildF_ok (p : Pln) : okFt 100 (buildF p) := by
  have hp := prtsP_len p
  refine ⟨?_, ?_, ?_, ?_, ?_⟩
  · simp only [buildF, flgsP_len]; omega
  · have := lnksP_len (prtsP p).length p.links (min p.links.length ((prtsP p).length * (prtsP p).length))
    have h9 : (prtsP p).length * (prtsP p).length ≤ 9 := Nat.mul_le_mul hp.2 hp.2
    simp only [buildF]
    have : min p.links.length ((prtsP p).length * (prtsP p).length) ≤ (prtsP p).length * (prtsP p).length := Nat.min_le_right _ _
    omega
  · simp only [buildF, cmpsP_len]; omega
  · simp only [buildF, cmpsP_len]; omega
  · intro c hc
    simp only [buildF, cmpsP] at hc
    obtain ⟨i, hi, rfl⟩ := List.mem_mapIdx.1 hc
    generalize (prtsP p)[i] = x
    refine ⟨?_, ?_, ?_⟩
    · simp only [cmpP, varsP, List.length_append, vrsI_len, vrsT_len, List.length_singleton, intsP, tabsP]; omega
    · simp only [cmpP, vssP]; split <;> simp
    · intro v hv
      simp only [cmpP, vssP] at hv
      rcases List.mem_cons.1 hv with rfl | hv
      · exact ⟨by rw [hdsP_len]; have := fstP_len x; omega, hdsP_ok arN_le _ _⟩
      · split at hv
        · rw [List.mem_singleton.1 hv]
          exact ⟨by rw [hdsP_len, List.length_take]; omega, hdsP_ok arN_le _ _⟩
        · cases hv
end Go.Proofs.YtmbiojpcidccjaaGreatDoor
namespace Go.Proofs.YtmbiojpcidccjaaGreatDoor
open Go.RowKit Go.Par Go.Sx
theorem Fx.agg25 : aggN Tryz.prog 25 = Option.some (Option.some 3) := by kernel_rfl
theorem Fx.call14 : callN Tryz.prog 14 = Bool.true := by kernel_rfl
theorem Fx.call23 : callN Tryz.prog 23 = Bool.true := by kernel_rfl
theorem Fx.size55 : sizeN Tryz.prog 55 = Option.some 5 := by kernel_rfl
theorem Fx.sl26 : slN Tryz.prog 26 = Option.some 5 := by kernel_rfl
theorem Fx.zero55 : zeroN Tryz.prog 55 = Option.some
  [Go.Value.int Go.IntKind.u8 (Int.ofNat 0), Go.Value.int Go.IntKind.u8 (Int.ofNat 0),
    Go.Value.int Go.IntKind.u8 (Int.ofNat 0), Go.Value.int Go.IntKind.i64 (Int.ofNat 0), Go.Value.slice Option.none 0 0] := by kernel_rfl
def bndF : Nat → Nat
  | 0 => 100
  | 1 => 500
  | 2 => 1300
  | _ => 2900
theorem bndF_le {k : Nat} (_ : k ≤ 3) : bndF k ≤ 50000 := by
  match k with
  | 0 => decide
  | 1 => decide
  | 2 => decide
  | k + 3 => show 2900 ≤ 50000; decide
theorem bndF_step {k : Nat} (h : k < 3) : 2 * (bndF k + 100) + 100 = bndF (k + 1) := by match k, h with | 0, _ | 1, _ | 2, _ => rfl
theorem ft_len {H : Hp} {k : IntKind} {x : Ft} {cs : List Value} (h : Rep H (dFt k x) cs) : cs.length = 4 := by
  obtain ⟨_, _, _, _, _, _, rfl, _⟩ := ft_open h; rfl
set_option maxRecDepth 100000 in
theorem spoilt_any (H : Hp) (p : Pln) (l : List Sp) (cs : List Value) (v : Value) (w : World) (h : Rep H (dPln p) cs) (hl0 : Rep H (.seq 5 (l.map dSp)) [v]) (hA : Agr H w) :
    Calls Tryz.prog 8 #[.agg cs.toArray, v] w fun r w' => ∃ (y : List Value) (H' : Hp), (∃ f, Rep H' (dFt .i64 f) y ∧ okFt 50000 f) ∧ r = .returned (.agg y.toArray) ∧ Grow H w H' w' := by
  obtain ⟨pl, cl, el, _⟩ := hl0.sl
  simp only [List.cons.injEq, and_true, List.length_map] at el
  subst el
  have hl := hl0
  have hcap := hl.cap
  obtain ⟨p1, c1, p2, c2, rfl, h1, h2⟩ := pln_open h
  refine Sx.enter (H := H) Tryz.func8 rfl Tryz.ntmps8 rfl hA ?_
  refine .sr <| .bx rfl rfl rfl fun b2 => .al Fx.zero32 rfl fun b4 => .ns <| .yv (.loadW rfl Fx.agg25 (.tail _ <| .head _) rfl) rfl <| .ct (X := List Value) Fx.call14 rfl (fun W s => build_plan H p _ W h s.agr) rfl fun y1 H1 hf1 u1 => .al Fx.zero32 rfl fun b5 => .sV .head rfl rfl Fx.size32 (ft_len hf1) hf1.one rfl <| .nt <| .sq <| .sr <| .m rfl rfl <| .m rfl rfl <| .yv (.lenSl Fx.sl26 rfl) rfl <| .yv (.min2 rfl rfl (c := ((min l.length 3 : Nat) : Int)) (by omega)) rfl <| .yv (.cutHi2 Fx.sl26 rfl rfl (h := min l.length 3) rfl (by have := hl.len.2.1; omega)) rfl <| .yv (.lenSl Fx.sl26 rfl) rfl <| .m rfl rfl <| ?_
  have hl3 := rep_take2 (hl.up u1.up) (hi := min l.length 3) (by omega)
  rw [← List.map_take, take_min] at hl3
  have hlt : (l.take 3).length = min l.length 3 := by rw [List.length_take, Nat.min_comm]
  have hcap3 := hl3.cap
  generalize (if cl = 0 then pl else pl.map fun q => q.add 0) = pq at hl3 ⊢
  refine .nt <| .bk <| .lp (X := Nat × Hp × List Value) [(4, _), (5, _), (14, _), (15, _)] ⟨rfl, rfl, rfl, rfl, trivial⟩ [_, _] (fun z => [(16, .int .i64 (z.1 : Nat))]) (fun z => z.2.1) (fun z => [.box b5 z.2.2 32]) (fun z => z.1 ≤ min l.length 3 ∧ HUp w H1 z.2.1 ∧ ∃ f : Ft, Rep z.2.1 (dFt .i64 f) z.2.2 ∧ okFt (bndF z.1) f) (fun z => 3 - z.1) (0, H1, _) (fun _ s => s) ⟨rfl, trivial⟩ ⟨by simp, .refl, buildF p, hf1, buildF_ok p⟩ fun z hC => ?_
  obtain ⟨k, H2, cs5⟩ := z
  dsimp only at hC ⊢
  obtain ⟨hk0, u2, f, hf, hok⟩ := hC
  refine .sr <| .yv (.lss rfl rfl) rfl <| .nt <| .sq <| .cd rfl (fun h17 => ?_) (fun h17 => ?_)
  ·try simp only [dt] at h17
   have hk : k < (l.take 3).length := by omega
   have hkb : bndF k ≤ 50000 := bndF_le (by omega)
   obtain ⟨bE, oE, cE, hpE, rE, lE, mE⟩ := (hl3.up u2.up).elem (map_at (f := dSp) hk)
   cases hpE
   refine .sk <| .tN <| .sq <| .bk <| .sr <| .yv (.indexSl Fx.sl26 rfl rfl (i := k) rfl (by omega) (q := oE + k * 5) rfl) rfl <| .yv (.loadMW rfl Fx.agg55 mE lE) rfl <| .al Fx.zero55 rfl fun b7 => .sV .head rfl rfl Fx.size55 lE rE.one rfl <| .nt <| .rg <| .yv (.loadW rfl Fx.agg32 (.tail _ <| .head _) (ft_len hf)) rfl <| .yv (.loadW rfl Fx.agg55 (.head _) lE) rfl <| .ct (X := List Value) Fx.call23 rfl (fun W s => apply_any H2 f _ cs5 cE (bndF k) hkb W hf rE hok s.agr) rfl fun y22 H3 hc22 u22 => ?_
   obtain ⟨f2, hf2, okf2⟩ := hc22
   exact .sV (.tail <| .head) rfl rfl Fx.size32 (ft_len hf2) hf2.one (ft_len hf) <| .nl <| .bN <| .tN <| .rg <| .yv (.add rfl rfl (w6 (by omega))) rfl <| .m rfl rfl <| .nt <| .ag (x := (k, H2, cs5)) (k + 1, H3, y22) ⟨rfl, trivial⟩ ⟨rfl, rfl, rfl, rfl, trivial⟩ (fun _ s => (s.pick [1, 2, 3] _ rfl rfl)) ⟨by dsimp only; omega, u2.trans u22, f2, hf2, (by rw [← bndF_step (show k < 3 by omega)]; exact okf2)⟩ (by dsimp only; omega)
  skip
  refine .ex <| .tE <| .tE <| .bE <| .tN <| .sr <| .yv (.loadW rfl Fx.agg32 (.head _) (ft_len hf)) rfl <| .sV (.tail <| .head) rfl rfl Fx.size32 (ft_len hf) hf.one rfl <| .nt <| .rt <| ?_
  exact Sx.ret1 (.inl rfl) rfl (.cell rfl Fx.agg32 (.tail _ <| .head _) (ft_len hf)) fun W t => ⟨cs5, H2, ⟨f, hf, hok.mono (bndF_le (by omega))⟩, rfl, (u1.trans u2).grow t⟩
theorem Fx.call27 : callN Tryz.prog 27 = Bool.true := by kernel_rfl
theorem Fx.int67 : intN Tryz.prog 67 = Option.some Go.IntKind.u8 := by kernel_rfl
theorem Fx.row69 : rowN Tryz.prog 69 = Option.some (71, 6, 112) := by kernel_rfl
theorem Fx.bld71_0_1_2_4_5 (x0 : Int) (x1 : ByteArray) (x2 : ByteArray) (x4p : Option Addr) (x4n x4c : Nat) (x5p : Option Addr) (x5n x5c : Nat) : buildN Tryz.prog 71 [(0, .int .u8 x0), (1, .string x1), (2, .string x2), (4, .slice x4p x4n x4c), (5, .slice x5p x5n x5c)] = some [.int .u8 x0, .string x1, .string x2, .slice none 0 0, .slice x4p x4n x4c, .slice x5p x5n x5c] := by kernel_rfl
theorem Fx.agg84 : aggN Tryz.prog 84 = Option.some (Option.some 2) := by kernel_rfl
theorem Fx.agg86 : aggN Tryz.prog 86 = Option.some (Option.some 3) := by kernel_rfl
theorem Fx.agg93 : aggN Tryz.prog 93 = Option.some (Option.some 3) := by kernel_rfl
theorem Fx.field84_0 : fieldN Tryz.prog 84 0 = Option.some 0 := by kernel_rfl
theorem Fx.field84_1 : fieldN Tryz.prog 84 1 = Option.some 1 := by kernel_rfl
theorem Fx.field86_0 : fieldN Tryz.prog 86 0 = Option.some 0 := by kernel_rfl
theorem Fx.field86_1 : fieldN Tryz.prog 86 1 = Option.some 1 := by kernel_rfl
theorem Fx.field86_2 : fieldN Tryz.prog 86 2 = Option.some 2 := by kernel_rfl
theorem Fx.field93_0 : fieldN Tryz.prog 93 0 = Option.some 0 := by kernel_rfl
theorem Fx.field93_1 : fieldN Tryz.prog 93 1 = Option.some 1 := by kernel_rfl
theorem Fx.field93_2 : fieldN Tryz.prog 93 2 = Option.some 2 := by kernel_rfl
theorem Fx.int94 : intN Tryz.prog 94 = Option.some Go.IntKind.u8 := by kernel_rfl
theorem Fx.row36 : rowN Tryz.prog 36 = Option.some (65, 2, 24) := by kernel_rfl
theorem Fx.row37 : rowN Tryz.prog 37 = Option.some (87, 3, 40) := by kernel_rfl
theorem Fx.row38 : rowN Tryz.prog 38 = Option.some (80, 3, 64) := by kernel_rfl
theorem Fx.row74 : rowN Tryz.prog 74 = Option.some (73, 3, 64) := by kernel_rfl
theorem Fx.row77 : rowN Tryz.prog 77 = Option.some (76, 1, 24) := by kernel_rfl
theorem Fx.row78 : rowN Tryz.prog 78 = Option.some (96, 3, 32) := by kernel_rfl
theorem Fx.size36 : sizeN Tryz.prog 36 = Option.some 1 := by kernel_rfl
theorem Fx.size37 : sizeN Tryz.prog 37 = Option.some 1 := by kernel_rfl
theorem Fx.size38 : sizeN Tryz.prog 38 = Option.some 1 := by kernel_rfl
theorem Fx.size74 : sizeN Tryz.prog 74 = Option.some 1 := by kernel_rfl
theorem Fx.size77 : sizeN Tryz.prog 77 = Option.some 1 := by kernel_rfl
theorem Fx.size78 : sizeN Tryz.prog 78 = Option.some 1 := by kernel_rfl
theorem Fx.size84 : sizeN Tryz.prog 84 = Option.some 2 := by kernel_rfl
theorem Fx.size86 : sizeN Tryz.prog 86 = Option.some 3 := by kernel_rfl
theorem Fx.size93 : sizeN Tryz.prog 93 = Option.some 3 := by kernel_rfl
theorem Fx.sl29 : slN Tryz.prog 29 = Option.some 3 := by kernel_rfl
theorem Fx.sl88 : slN Tryz.prog 88 = Option.some 3 := by kernel_rfl
theorem Fx.zero84 : zeroN Tryz.prog 84 = Option.some [Go.Value.string { data := { toList := [] } }, Go.Value.bool Bool.false] := by kernel_rfl
theorem Fx.zero86 : zeroN Tryz.prog 86 = Option.some
  [Go.Value.string { data := { toList := [] } }, Go.Value.string { data := { toList := [] } },
    Go.Value.int Go.IntKind.i64 (Int.ofNat 0)] := by kernel_rfl
theorem Fx.zero93 : zeroN Tryz.prog 93 = Option.some
  [Go.Value.string { data := { toList := [] } }, Go.Value.int Go.IntKind.i64 (Int.ofNat 0),
    Go.Value.int Go.IntKind.i64 (Int.ofNat 0)] := by kernel_rfl
theorem Fx.bld40_0 (x0 : ByteArray) : buildN Tryz.prog 40 [(0, .string x0)] = some [.string x0, .slice none 0 0, .slice none 0 0, .slice none 0 0] := by kernel_rfl
theorem Fx.bld80_0 (x0 : ByteArray) : buildN Tryz.prog 80 [(0, .string x0)] = some [.string x0, .slice none 0 0, .slice none 0 0] := by kernel_rfl
theorem Fx.bld87_0_1_2 (x0 : ByteArray) (x1 : ByteArray) (x2 : Int) : buildN Tryz.prog 87 [(0, .string x0), (1, .string x1), (2, .int .i64 x2)] = some [.string x0, .string x1, .int .i64 x2] := by kernel_rfl
theorem Fx.bld96_0_1_2 (x0 : ByteArray) (x1 : Int) (x2 : Int) : buildN Tryz.prog 96 [(0, .string x0), (1, .int .u8 x1), (2, .int .i64 x2)] = some [.string x0, .int .u8 x1, .int .i64 x2] := by kernel_rfl
theorem Fx.bsl37_1 (x00 x01 x02 : Value) : bslN Tryz.prog 37 1 [(0, .agg [x00, x01, x02].toArray)] = some (87, [x00, x01, x02]) := by kernel_rfl
theorem Fx.bsl78_1 (x00 x01 x02 : Value) : bslN Tryz.prog 78 1 [(0, .agg [x00, x01, x02].toArray)] = some (96, [x00, x01, x02]) := by kernel_rfl
theorem Fx.call67 : callN Tryz.prog 67 = Bool.true := by kernel_rfl
theorem dT {Q : Prop} [Decidable Q] (h : Q) : true = decide Q := (decide_eq_true h).symm
theorem dF {Q : Prop} [Decidable Q] (h : ¬ Q) : false = decide Q := (decide_eq_false h).symm
theorem dD {P Q : Prop} [Decidable P] [Decidable Q] (h : P ↔ Q) : decide P = decide Q := decide_eq_decide.2 h
theorem retE {a b : Bool} (h : a = b) : Ending.returned (.bool a) = .returned (.bool b) := by rw [h]
theorem byte_k {Q : UInt8 → Prop} (h : ∀ i ∈ List.range 256, Q (UInt8.ofNat i)) (c : UInt8) : Q c := by
  have := h c.toNat (List.mem_range.2 c.toNat_lt)
  rwa [UInt8.ofNat_toNat] at this
set_option maxHeartbeats 2000000 in
set_option maxRecDepth 100000 in
theorem deep_any (N : Nat) (hN : N ≤ 1000000) (H : Hp) : ∀ (l : List Sm), okL N l → ∀ (v : Value) (w : World), Rep H (.seq 6 (l.map (dSm .i64))) [v] → Agr H w →
    Calls Tryz.prog 67 #[v] w fun r w' => r = .returned (.bool (!Sm.alls smaS l)) ∧ Ext w w' := by
  refine Sm.lists fun l ih => ?_
  intro hok v w hs hA
  obtain ⟨p, c, e, _⟩ := hs.sl
  simp only [List.cons.injEq, and_true, List.length_map] at e
  subst e
  have hcap := hs.cap
  have hll := hok.len
  refine Sx.enter (H := H) Tryz.func67 rfl Tryz.ntmps67 rfl hA ?_
  refine .sr <| .a rfl rfl <| .nt <| .sq <| .sr <| .m rfl rfl <| .yv (.lenSl Fx.sl98 rfl) rfl <| .m rfl rfl <| .nt <| .bk <| .lp (X := Nat) [(7, _), (8, _)] ⟨rfl, rfl, trivial⟩ [] (fun k => [(9, .int .i64 (k : Nat))]) (fun k => H) (fun k => []) (fun k => k ≤ l.length ∧ Sm.alls smaS (l.take k) = true) (fun k => l.length - k) 0 (fun _ s => s) ⟨rfl, trivial⟩ ⟨by omega, rfl⟩ fun k hC => ?_
  obtain ⟨hk0, hal⟩ := hC
  refine .sr <| .yv (.lss rfl rfl) rfl <| .nt <| .sq <| .cd rfl (fun h10 => ?_) (fun h10 => ?_)
  ·try simp only [dt] at h10
   have hk : k < l.length := by omega
   obtain ⟨bE, oE, cE, hpE, rE, lE, mE⟩ := hs.elem (map_at (f := dSm .i64) hk)
   cases hpE
   have hi := ih _ (List.getElem_mem hk)
   have hka := hok.at hk
   have hsucc := salls_succ (q := smaS) hk
   have hbad := fun h => salls_bad (q := smaS) hk h
   generalize hx : l[k] = x at rE hi hka hsucc hbad
   obtain ⟨kd, nm, hd, ex, th, el⟩ := x
   obtain ⟨p1, c1, p2, c2, p3, c3, rfl, hs1, hs2, hs3, hn1, hn2⟩ := sm_open rE
   simp only [Sm.th, Sm.el] at hi
   obtain ⟨a1, a2, a3, a4, a5, a6, a7⟩ := okL_one.1 hka
   have hit := hi.1 ⟨by omega, by omega, a6⟩
   have hie := hi.2 ⟨by omega, by omega, a7⟩
   have hcap1 := hs1.cap
   rw [sall_mk] at hsucc hbad
   refine .sk <| .tN <| .sq <| .bk <| .sr <| .yv (.indexSl Fx.sl98 rfl rfl rfl (by omega) (q := oE + k * 6) rfl) rfl <| .yv (.loadMW rfl Fx.agg150 mE rfl) rfl <| .al Fx.zero150 rfl fun b4 => .sW .head rfl rfl Fx.size150 (by simp [Value.oneCell', strV]) rfl <| .nt <| .sq <| .sr <| .yv (.fieldAddr rfl Fx.field150_3) rfl <| .yv (.load rfl Fx.agg49 (.head _) rfl) rfl <| .yv (.lenSl Fx.sl49 rfl) rfl <| .m rfl rfl <| .nt <| .bk <| .lp (X := Nat) [(4, _), (7, _), (8, _), (9, _), (14, _), (15, _)] ⟨rfl, rfl, rfl, rfl, rfl, rfl, trivial⟩ [_] (fun j => [(16, .int .i64 (j : Nat))]) (fun j => H) (fun j => []) (fun j => j ≤ ex.length ∧ (ex.take j).all (fun x => decide (x.depth ≤ 8)) = true) (fun j => ex.length - j) 0 (fun _ s => s) ⟨rfl, trivial⟩ ⟨by omega, rfl⟩ fun j hC => ?_
   obtain ⟨hj0, hae⟩ := hC
   refine .sr <| .yv (.lss rfl rfl) rfl <| .nt <| .sq <| .cd rfl (fun h17 => ?_) (fun h17 => ?_)
   ·try simp only [dt] at h17
    have hj : j < ex.length := by omega
    obtain ⟨bF, oF, cF, hpF, rF, lF, mF⟩ := hs1.elem (map_at (f := dEx .i64) hj)
    cases hpF
    have hje := List.all_eq_true.1 a5 _ (List.getElem_mem hj)
    simp only [okE, Bool.and_eq_true, decide_eq_true_eq] at hje
    refine .sk <| .tN <| .sq <| .bk <| .sr <| .yv (.indexSl Fx.sl49 rfl rfl rfl (by omega) (q := oF + j * 4) rfl) rfl <| .yv (.loadMW rfl Fx.agg51 mF lF) rfl <| .al Fx.zero51 rfl fun b6 => .sV .head rfl rfl Fx.size51 lF rF.one rfl <| .ns <| .yv (.loadW rfl Fx.agg51 (.head _) lF) rfl <| .yv (.call Fx.call101 rfl (fun W s => rexprDepth_any _ H cF W rF (by omega) s.agr)) rfl <| .yv (.gtr rfl rfl) rfl <| .nt <| .cd rfl (fun h22 => ?_) (fun h22 => ?_)
    ·try simp only [dt] at h22
     have hb : (ex.all fun x => decide (x.depth ≤ 8)) = false := lall_bad (q := fun x => decide (x.depth ≤ 8)) hj (by simp only [decide_eq_false_iff_not]; omega)
     have hz := hbad (by rw [show smaS (.mk kd nm hd ex th el) = false from hb]; rfl)
     refine .sr <| .a rfl rfl <| .nt <| .rt <| .bR <| .tR <| .tR <| .bR <| .tR <| .bR <| .tR <| .tR <| .bR <| .tR <| ?_
     refine Sx.ret1 (.inl rfl) rfl (.tmp rfl) fun W s => ⟨retB ?_, s.ext⟩
     first
       | (rw [hz]; rfl)
       | (rw [hal]; rfl)
    try simp only [df] at h22
    have h22 : ex[j].depth ≤ 8 := by omega
    exact .sk <| .bN <| .tN <| .rg <| .yv (.add rfl rfl (w6 (by omega))) rfl <| .m rfl rfl <| .nt <| .ag (j + 1) ⟨rfl, trivial⟩ ⟨rfl, rfl, rfl, rfl, rfl, rfl, trivial⟩ (fun _ s => s.pick [1] [_] rfl rfl) ⟨by omega, by rw [lall_succ hj, hae]; simpa using h22⟩ (by omega)
   try simp only [df] at h17
   obtain rfl : j = ex.length := by omega
   rw [List.take_length] at hae
   refine .ex <| .tE <| .tE <| .bE <| .tN <| .cu (X := Bool) [(7, _), (8, _), (9, _)] ⟨rfl, rfl, rfl, trivial⟩ (fun z => [(31, .bool z)]) (fun z => H) (fun z => [.box b4 [.int .i64 kd.toNat, strV nm, strV hd, .slice p1 ex.length c1, .slice p2 th.length c2, .slice p3 el.length c3] 150]) (fun z => z = (!(Sm.alls smaS th && Sm.alls smaS el))) ?_ fun z hC => ?_
   ·
    refine .rg <| .yv (.fieldAddr rfl Fx.field150_4) rfl <| .yv (.load rfl Fx.agg98 (.head _) rfl) rfl <| .yv (.call Fx.call67 rfl (fun W s => hit _ W hs2 s.agr)) rfl <| .m rfl rfl <| .b2 (fun h27 => ?_) (fun h27 => ?_)
    ·try simp only [dt] at h27
     exact .gF rfl rfl rfl rfl <| .gF rfl rfl rfl rfl <| .gF rfl rfl rfl rfl <| .yv (.pickT rfl rfl) rfl <| .nt <| .me _ ⟨rfl, trivial⟩ ⟨rfl, rfl, rfl, trivial⟩ (fun _ s => s) (by simp_all)
    try simp only [df] at h27
    exact .gd rfl rfl <| .yv (.fieldAddr rfl Fx.field150_5) rfl <| .gd rfl rfl <| .yv (.load rfl Fx.agg98 (.head _) rfl) rfl <| .gd rfl rfl <| .yv (.call Fx.call67 rfl (fun W s => hie _ W hs3 s.agr)) rfl <| .yv (.pickF rfl rfl) rfl <| .nt <| .me _ ⟨rfl, trivial⟩ ⟨rfl, rfl, rfl, trivial⟩ (fun _ s => s) (by simp_all)
   have e31 := hC
   refine .cd rfl (fun h31 => ?_) (fun h31 => ?_)
   ·try simp only [dt] at h31
    rw [h31] at e31
    have hz := hbad (by rw [show smaS (.mk kd nm hd ex th el) = true from hae, Bool.true_and]; have := e31.symm; rwa [Bool.not_eq_true'] at this)
    refine .sr <| .a rfl rfl <| .nt <| .rt <| .bR <| .tR <| .tR <| .bR <| .tR <| ?_
    refine Sx.ret1 (.inl rfl) rfl (.tmp rfl) fun W s => ⟨retB ?_, s.ext⟩
    first
      | (rw [hz]; rfl)
      | (rw [hal]; rfl)
   try simp only [df] at h31
   rw [h31] at e31
   have q31 : (Sm.alls smaS th && Sm.alls smaS el) = true := by simpa using e31.symm
   exact .sk <| .bN <| .tN <| .rg <| .yv (.add rfl rfl (w6 (by omega))) rfl <| .m rfl rfl <| .nt <| .ag (k + 1) ⟨rfl, trivial⟩ ⟨rfl, rfl, trivial⟩ (fun _ s => s.pick [] [] rfl rfl) ⟨by omega, by rw [hsucc, hal, Bool.true_and]; rw [show smaS (.mk kd nm hd ex th el) = true from hae]; simp only [Bool.true_and]; simpa using q31⟩ (by omega)
  try simp only [df] at h10
  obtain rfl : k = l.length := by omega
  rw [List.take_length] at hal
  refine .ex <| .tE <| .tE <| .bE <| .tN <| .sr <| .a rfl rfl <| .nt <| .rt <| ?_
  refine Sx.ret1 (.inl rfl) rfl (.tmp rfl) fun W s => ⟨retB ?_, s.ext⟩
  first
    | (rw [hz]; rfl)
    | (rw [hal]; rfl)
theorem named_eq : (∀ kd : UInt8, (formOf kd).nm = decide (kd.toNat = 1 ∨ kd.toNat = 2 ∨ kd.toNat = 3 ∨ kd.toNat = 6 ∨ kd.toNat = 9) ∧ (formOf kd).hd = decide (kd.toNat = 6 ∨ kd.toNat = 7)) := fun kd => byte_k (Q := fun kd => (formOf kd).nm = decide (kd.toNat = 1 ∨ kd.toNat = 2 ∨ kd.toNat = 3 ∨ kd.toNat = 6 ∨ kd.toNat = 9) ∧ (formOf kd).hd = decide (kd.toNat = 6 ∨ kd.toNat = 7)) (by decide +kernel) kd
theorem tup2 {a b c d : Bool} (h1 : a = c) (h2 : b = d) : Ending.returned (.tuple #[.bool a, .bool b]) = .returned (.tuple #[.bool c, .bool d]) := by rw [h1, h2]
set_option maxRecDepth 100000 in
theorem namedK_any (H : Hp) (kd : UInt8) (w : World) (hA : Agr H w) : Calls Tryz.prog 103 #[.int .i64 kd.toNat] w fun r w' => r = .returned (.tuple #[.bool (formOf kd).nm, .bool (formOf kd).hd]) ∧ Ext w w' := by
  refine Sx.enter (H := H) Tryz.func103 rfl Tryz.ntmps103 rfl hA ?_
  refine .sr <| .a rfl rfl <| .a rfl rfl <| .ns <| .m rfl rfl <| .yv (.eql rfl rfl) rfl <| .m rfl rfl <| .b2 (fun h6 => ?_) (fun h6 => ?_)
  ·try simp only [dt] at h6
   refine .gF rfl rfl rfl rfl <| .gF rfl rfl rfl rfl <| .yv (.pickT rfl rfl) rfl <| .m rfl rfl <| .gF rfl rfl rfl rfl <| .gF rfl rfl rfl rfl <| .yv (.pickT rfl rfl) rfl <| .m rfl rfl <| .gF rfl rfl rfl rfl <| .gF rfl rfl rfl rfl <| .yv (.pickT rfl rfl) rfl <| .m rfl rfl <| .gF rfl rfl rfl rfl <| .gF rfl rfl rfl rfl <| .yv (.pickT rfl rfl) rfl <| .m rfl rfl <| .yv (.eql rfl rfl) rfl <| .m rfl rfl <| .b2 (fun h24 => ?_) (fun h24 => ?_)
   ·try simp only [dt] at h24
    refine .gF rfl rfl rfl rfl <| .gF rfl rfl rfl rfl <| .yv (.pickT rfl rfl) rfl <| .a rfl rfl <| .a rfl rfl <| .nt <| .rt <| ?_
    refine Sx.retN (.inl rfl) rfl (.cons (.tmp rfl) (.cons (.tmp rfl) .nil)) rfl fun W s => ⟨?_, s.ext⟩
    obtain ⟨n1, n2⟩ := named_eq kd
    rw [n1, n2]
    clear n1 n2
    refine tup2 ?_ ?_ <;> first | exact dT (by omega) | exact dF (by omega) | exact dD (by omega)
   try simp only [df] at h24
   refine .gd rfl rfl <| .yv (.move rfl) rfl <| .gd rfl rfl <| .yv (.eql rfl rfl) rfl <| .yv (.pickF rfl rfl) rfl <| .a rfl rfl <| .a rfl rfl <| .nt <| .rt <| ?_
   refine Sx.retN (.inl rfl) rfl (.cons (.tmp rfl) (.cons (.tmp rfl) .nil)) rfl fun W s => ⟨?_, s.ext⟩
   obtain ⟨n1, n2⟩ := named_eq kd
   rw [n1, n2]
   clear n1 n2
   refine tup2 ?_ ?_ <;> first | exact dT (by omega) | exact dF (by omega) | exact dD (by omega)
  try simp only [df] at h6
  refine .gd rfl rfl <| .yv (.move rfl) rfl <| .gd rfl rfl <| .yv (.eql rfl rfl) rfl <| .yv (.pickF rfl rfl) rfl <| .m rfl rfl <| .b2 (fun h10 => ?_) (fun h10 => ?_)
  ·try simp only [dt] at h10
   refine .gF rfl rfl rfl rfl <| .gF rfl rfl rfl rfl <| .yv (.pickT rfl rfl) rfl <| .m rfl rfl <| .gF rfl rfl rfl rfl <| .gF rfl rfl rfl rfl <| .yv (.pickT rfl rfl) rfl <| .m rfl rfl <| .gF rfl rfl rfl rfl <| .gF rfl rfl rfl rfl <| .yv (.pickT rfl rfl) rfl <| .m rfl rfl <| .yv (.eql rfl rfl) rfl <| .m rfl rfl <| .b2 (fun h24 => ?_) (fun h24 => ?_)
   ·try simp only [dt] at h24
    refine .gF rfl rfl rfl rfl <| .gF rfl rfl rfl rfl <| .yv (.pickT rfl rfl) rfl <| .a rfl rfl <| .a rfl rfl <| .nt <| .rt <| ?_
    refine Sx.retN (.inl rfl) rfl (.cons (.tmp rfl) (.cons (.tmp rfl) .nil)) rfl fun W s => ⟨?_, s.ext⟩
    obtain ⟨n1, n2⟩ := named_eq kd
    rw [n1, n2]
    clear n1 n2
    refine tup2 ?_ ?_ <;> first | exact dT (by omega) | exact dF (by omega) | exact dD (by omega)
   try simp only [df] at h24
   refine .gd rfl rfl <| .yv (.move rfl) rfl <| .gd rfl rfl <| .yv (.eql rfl rfl) rfl <| .yv (.pickF rfl rfl) rfl <| .a rfl rfl <| .a rfl rfl <| .nt <| .rt <| ?_
   refine Sx.retN (.inl rfl) rfl (.cons (.tmp rfl) (.cons (.tmp rfl) .nil)) rfl fun W s => ⟨?_, s.ext⟩
   obtain ⟨n1, n2⟩ := named_eq kd
   rw [n1, n2]
   clear n1 n2
   refine tup2 ?_ ?_ <;> first | exact dT (by omega) | exact dF (by omega) | exact dD (by omega)
  try simp only [df] at h10
  refine .gd rfl rfl <| .yv (.move rfl) rfl <| .gd rfl rfl <| .yv (.eql rfl rfl) rfl <| .yv (.pickF rfl rfl) rfl <| .m rfl rfl <| .b2 (fun h14 => ?_) (fun h14 => ?_)
  ·try simp only [dt] at h14
   refine .gF rfl rfl rfl rfl <| .gF rfl rfl rfl rfl <| .yv (.pickT rfl rfl) rfl <| .m rfl rfl <| .gF rfl rfl rfl rfl <| .gF rfl rfl rfl rfl <| .yv (.pickT rfl rfl) rfl <| .m rfl rfl <| .yv (.eql rfl rfl) rfl <| .m rfl rfl <| .b2 (fun h24 => ?_) (fun h24 => ?_)
   ·try simp only [dt] at h24
    refine .gF rfl rfl rfl rfl <| .gF rfl rfl rfl rfl <| .yv (.pickT rfl rfl) rfl <| .a rfl rfl <| .a rfl rfl <| .nt <| .rt <| ?_
    refine Sx.retN (.inl rfl) rfl (.cons (.tmp rfl) (.cons (.tmp rfl) .nil)) rfl fun W s => ⟨?_, s.ext⟩
    obtain ⟨n1, n2⟩ := named_eq kd
    rw [n1, n2]
    clear n1 n2
    refine tup2 ?_ ?_ <;> first | exact dT (by omega) | exact dF (by omega) | exact dD (by omega)
   try simp only [df] at h24
   refine .gd rfl rfl <| .yv (.move rfl) rfl <| .gd rfl rfl <| .yv (.eql rfl rfl) rfl <| .yv (.pickF rfl rfl) rfl <| .a rfl rfl <| .a rfl rfl <| .nt <| .rt <| ?_
   refine Sx.retN (.inl rfl) rfl (.cons (.tmp rfl) (.cons (.tmp rfl) .nil)) rfl fun W s => ⟨?_, s.ext⟩
   obtain ⟨n1, n2⟩ := named_eq kd
   rw [n1, n2]
   clear n1 n2
   refine tup2 ?_ ?_ <;> first | exact dT (by omega) | exact dF (by omega) | exact dD (by omega)
  try simp only [df] at h14
  refine .gd rfl rfl <| .yv (.move rfl) rfl <| .gd rfl rfl <| .yv (.eql rfl rfl) rfl <| .yv (.pickF rfl rfl) rfl <| .m rfl rfl <| .b2 (fun h18 => ?_) (fun h18 => ?_)
  ·try simp only [dt] at h18
   refine .gF rfl rfl rfl rfl <| .gF rfl rfl rfl rfl <| .yv (.pickT rfl rfl) rfl <| .m rfl rfl <| .yv (.eql rfl rfl) rfl <| .m rfl rfl <| .b2 (fun h24 => ?_) (fun h24 => ?_)
   ·try simp only [dt] at h24
    refine .gF rfl rfl rfl rfl <| .gF rfl rfl rfl rfl <| .yv (.pickT rfl rfl) rfl <| .a rfl rfl <| .a rfl rfl <| .nt <| .rt <| ?_
    refine Sx.retN (.inl rfl) rfl (.cons (.tmp rfl) (.cons (.tmp rfl) .nil)) rfl fun W s => ⟨?_, s.ext⟩
    obtain ⟨n1, n2⟩ := named_eq kd
    rw [n1, n2]
    clear n1 n2
    refine tup2 ?_ ?_ <;> first | exact dT (by omega) | exact dF (by omega) | exact dD (by omega)
   try simp only [df] at h24
   refine .gd rfl rfl <| .yv (.move rfl) rfl <| .gd rfl rfl <| .yv (.eql rfl rfl) rfl <| .yv (.pickF rfl rfl) rfl <| .a rfl rfl <| .a rfl rfl <| .nt <| .rt <| ?_
   refine Sx.retN (.inl rfl) rfl (.cons (.tmp rfl) (.cons (.tmp rfl) .nil)) rfl fun W s => ⟨?_, s.ext⟩
   obtain ⟨n1, n2⟩ := named_eq kd
   rw [n1, n2]
   clear n1 n2
   refine tup2 ?_ ?_ <;> first | exact dT (by omega) | exact dF (by omega) | exact dD (by omega)
  try simp only [df] at h18
  refine .gd rfl rfl <| .yv (.move rfl) rfl <| .gd rfl rfl <| .yv (.eql rfl rfl) rfl <| .yv (.pickF rfl rfl) rfl <| .m rfl rfl <| .yv (.eql rfl rfl) rfl <| .m rfl rfl <| .b2 (fun h24 => ?_) (fun h24 => ?_)
  ·try simp only [dt] at h24
   refine .gF rfl rfl rfl rfl <| .gF rfl rfl rfl rfl <| .yv (.pickT rfl rfl) rfl <| .a rfl rfl <| .a rfl rfl <| .nt <| .rt <| ?_
   refine Sx.retN (.inl rfl) rfl (.cons (.tmp rfl) (.cons (.tmp rfl) .nil)) rfl fun W s => ⟨?_, s.ext⟩
   obtain ⟨n1, n2⟩ := named_eq kd
   rw [n1, n2]
   clear n1 n2
   refine tup2 ?_ ?_ <;> first | exact dT (by omega) | exact dF (by omega) | exact dD (by omega)
  try simp only [df] at h24
  refine .gd rfl rfl <| .yv (.move rfl) rfl <| .gd rfl rfl <| .yv (.eql rfl rfl) rfl <| .yv (.pickF rfl rfl) rfl <| .a rfl rfl <| .a rfl rfl <| .nt <| .rt <| ?_
  refine Sx.retN (.inl rfl) rfl (.cons (.tmp rfl) (.cons (.tmp rfl) .nil)) rfl fun W s => ⟨?_, s.ext⟩
  obtain ⟨n1, n2⟩ := named_eq kd
  rw [n1, n2]
  clear n1 n2
  refine tup2 ?_ ?_ <;> first | exact dT (by omega) | exact dF (by omega) | exact dD (by omega)
theorem Fx.call69 : callN Tryz.prog 69 = Bool.true := by kernel_rfl
theorem Fx.call70 : callN Tryz.prog 70 = Bool.true := by kernel_rfl
theorem Fx.call103 : callN Tryz.prog 103 = Bool.true := by kernel_rfl
theorem Fx.call105 : callN Tryz.prog 105 = Bool.true := by kernel_rfl
end Go.Proofs.YtmbiojpcidccjaaGreatDoor
