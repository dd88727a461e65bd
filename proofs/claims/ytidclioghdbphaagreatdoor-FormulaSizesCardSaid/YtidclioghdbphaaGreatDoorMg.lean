/- Texts of the proof, one behind the other. -/
import Derived.Test.YtidclioghdbphaaGreatDoorMf
set_option linter.all false
set_option maxRecDepth 100000
namespace Go.Proofs.YtidclioghdbphaaGreatDoor
open Go.RowKit Go.Par Go.Sx
theorem fck1 {f : Fm} (h : 60 < f.count) : fcheck f = 3 := by unfold fcheck;rw [if_pos (.inl h)]
theorem fck2 {f : Fm} (h : Fm.all shalB f = false) : fcheck f = 3 := by unfold fcheck;rw [if_pos (.inr h)]
theorem fck0 {f : Fm} (h : ¬ 60 < f.count) (h2 : Fm.all shalB f = true) : ¬ (60 < f.count ∨ Fm.all shalB f = false) := fun e => by
 rcases e with e | e
 ·exact h e
 ·rw [h2] at e;cases e
theorem fck3 {f : Fm} (h : ¬ 60 < f.count) (h2 : Fm.all shalB f = true) (h3 : Fm.all namdB f = false) : fcheck f = 9 := by unfold fcheck;rw [if_neg (fck0 h h2),if_pos h3]
theorem fck4 {f : Fm} (h : ¬ 60 < f.count) (h2 : Fm.all shalB f = true) (h3 : Fm.all namdB f = true) (h4 : Fm.all formB f = false) : fcheck f = 6 := by unfold fcheck;rw [if_neg (fck0 h h2),if_neg (by rw [h3];decide),if_pos h4]
theorem fck5 {f : Fm} (h : ¬ 60 < f.count) (h2 : Fm.all shalB f = true) (h3 : Fm.all namdB f = true) (h4 : Fm.all formB f = true) : fcheck f = 0 := by unfold fcheck;rw [if_neg (fck0 h h2),if_neg (by rw [h3];decide),if_neg (by rw [h4];decide)]
set_option maxRecDepth 100000 in
theorem fcheck_any (H : Hp) (G : Gl H) (Gt : Gf H) (f : Fm) (hb : blF 600000 f = true) (cs : List Value) (w : World) (h : Rep H (dFm .u8 f) cs) (hA : Agr H w) : Calls Tryz.prog 15 #[.agg cs.toArray] w fun r w' => r = .returned (.int .i64 (fcheck f : Nat)) ∧ Ext w w' := by
 obtain ⟨op,nm,fd,a,b,ex,args⟩ := f;obtain ⟨p1,c1,p2,c2,rfl,hs1,hs2,hnm,hfd⟩ := fm_open h;refine Sx.enter (H := H) Tryz.func15 rfl Tryz.ntmps15 rfl hA ?_;refine .sr<|.bx Z Z Z fun b1 => .a Z Z<|.nt<|.sq<|.bk<|.sq<|.sr<|.yv (.loadW Z Fx.agg35 (.head _) Z) Z<|.yv (.call Fx.call34 Z (fun W s => count_any H (.mk op nm fd a b ex args) 60 600000 (by decide) hb (.inr (by decide)) (.inl (by decide)) (by decide) _ W h s.agr)) Z<|.yv (.gtr Z Z) Z<|.a Z Z<|.nt<|.cr Z (fun h3 => ?_) (fun h3 => ?_)
 ·have hc : 60 < Fm.count (.mk op nm fd a b ex args) := by have := of_decide_eq_true h3;omega
  refine .sk<|.tN<|.cT Z<|.sr<|.a Z Z<|.nt<|.rt<|.bR<|.tR<|?_
  refine Sx.ret1 (.inl rfl) rfl (.tmp rfl) fun W s => ⟨?_,s.ext⟩
  first
   | (rw [fck1 hc];rfl)
   | (rw [fck2 hs];rfl)
   | (rw [fck3 hc hs hn];rfl)
   | (rw [fck4 hc hs hn hf];rfl)
   | (rw [fck5 hc hs hn hf];rfl)
 have hc : ¬ 60 < Fm.count (.mk op nm fd a b ex args) := fun e => of_decide_eq_false h3 (by omega);refine .rg<|.yv (.loadW Z Fx.agg35 (.head _) Z) Z<|.yv (.call Fx.call35 Z (fun W s => every_any H 36 shalB depB Fx.call36 (fun f hp => shallow_any H f hp) _ (fm_all_dep _ (by omega)) _ W h s.agr)) Z<|.yv (.not Z) Z<|.a Z Z<|.nt<|.cr Z (fun h3 => ?_) (fun h3 => ?_)
 ·have hs : Fm.all shalB (.mk op nm fd a b ex args) = false := by simpa using h3
  refine .sr<|.a Z Z<|.nt<|.rt<|.bR<|.tR<|?_
  refine Sx.ret1 (.inl rfl) rfl (.tmp rfl) fun W s => ⟨?_,s.ext⟩
  first
   | (rw [fck1 hc];rfl)
   | (rw [fck2 hs];rfl)
   | (rw [fck3 hc hs hn];rfl)
   | (rw [fck4 hc hs hn hf];rfl)
   | (rw [fck5 hc hs hn hf];rfl)
 have hs : Fm.all shalB (.mk op nm fd a b ex args) = true := by simpa using h3
 refine .sr<|.yv (.loadW Z Fx.agg35 (.head _) Z) Z<|.yv (.call Fx.call35 Z (fun W s => every_any H 37 namdB (fun _ => true) Fx.call37 (fun f _ => named_any H G Gt f) _ (fm_all_true _) _ W h s.agr)) Z<|.yv (.not Z) Z<|.a Z Z<|.nt<|.cd Z (fun h10 => ?_) (fun h10 => ?_)
 ·have hn : Fm.all namdB (.mk op nm fd a b ex args) = false := by simpa using h10
  refine .sr<|.a Z Z<|.nt<|.rt<|.bR<|.tR<|?_
  refine Sx.ret1 (.inl rfl) rfl (.tmp rfl) fun W s => ⟨?_,s.ext⟩
  first
   | (rw [fck1 hc];rfl)
   | (rw [fck2 hs];rfl)
   | (rw [fck3 hc hs hn];rfl)
   | (rw [fck4 hc hs hn hf];rfl)
   | (rw [fck5 hc hs hn hf];rfl)
 have hn : Fm.all namdB (.mk op nm fd a b ex args) = true := by simpa using h10
 refine .sr<|.yv (.loadW Z Fx.agg35 (.head _) Z) Z<|.yv (.call Fx.call35 Z (fun W s => every_any H 38 formB (fun _ => true) Fx.call38 (fun f _ => formed_any H Gt f) _ (fm_all_true _) _ W h s.agr)) Z<|.yv (.not Z) Z<|.a Z Z<|.nt<|.cd Z (fun h14 => ?_) (fun h14 => ?_)
 ·have hf : Fm.all formB (.mk op nm fd a b ex args) = false := by simpa using h14
  refine .sr<|.a Z Z<|.nt<|.rt<|.bR<|.tR<|?_
  refine Sx.ret1 (.inl rfl) rfl (.tmp rfl) fun W s => ⟨?_,s.ext⟩
  first
   | (rw [fck1 hc];rfl)
   | (rw [fck2 hs];rfl)
   | (rw [fck3 hc hs hn];rfl)
   | (rw [fck4 hc hs hn hf];rfl)
   | (rw [fck5 hc hs hn hf];rfl)
 have hf : Fm.all formB (.mk op nm fd a b ex args) = true := by simpa using h14
 refine .sk<|.bN<|.tN<|.sr<|.a Z Z<|.nt<|.rt<|?_
 refine Sx.ret1 (.inl rfl) rfl (.tmp rfl) fun W s => ⟨?_,s.ext⟩
 first
  | (rw [fck1 hc];rfl)
  | (rw [fck2 hs];rfl)
  | (rw [fck3 hc hs hn];rfl)
  | (rw [fck4 hc hs hn hf];rfl)
  | (rw [fck5 hc hs hn hf];rfl)
theorem tmTs_map : ∀ l,tmTs l = l.map fun e => (e.op,tmT e)
 | [] => by rw [tmTs];rfl
 | e :: r => by rw [tmTs,tmTs_map r];rfl
theorem fmTs_map : ∀ l,fmTs l = l.map fun f => (f.op,fmT f)
 | [] => by rw [fmTs];rfl
 | e :: r => by rw [fmTs,fmTs_map r];rfl
theorem tm_mk {op : UInt8} {nm : Str} {n : Int64} {args : List Ex} : tmT (.mk op nm n args) = tmOp op nm n (args.map fun e => (e.op,tmT e)) := by rw [tmT,tmTs_map]
theorem fm_mk {op : UInt8} {nm fd : Str} {a b : Int64} {ex : List Ex} {args : List Fm} : fmT (.mk op nm fd a b ex args) = fmOp (.mk op nm fd a b ex args) (args.map fun f => (f.op,fmT f)) := by rw [fmT,fmTs_map]
theorem hd0 {α β : Type} {f : α → β} {l : List α} {d : β} (h : 0 < l.length) : (l.map f).headD d = f l[0] := by
 cases l with
 | nil => exact absurd h (Nat.lt_irrefl _)
 | cons a r => rfl
theorem hd1 {α β : Type} {f : α → β} {l : List α} {d : β} (h : 1 < l.length) : ((l.map f).drop 1).headD d = f l[1] := by
 match l,h with
 | _ :: b :: r,_ => rfl
theorem tlv4 {op : UInt8} (h : op = 14 ∨ op = 15) : tlv op = 4 := by unfold tlv;rw [if_pos h]
theorem tlv5 {op : UInt8} (h : op = 11 ∨ op = 12 ∨ op = 13) : tlv op = 5 := by unfold tlv;rw [if_neg (by rcases h with rfl | rfl | rfl <;> decide),if_pos h]
theorem tlv6 {op : UInt8} (h : op = 9) : tlv op = 6 := by subst h;rfl
theorem tlv7 {op : UInt8} (h1 : ¬ op = 14) (h2 : ¬ op = 15) (h3 : ¬ op = 11) (h4 : ¬ op = 12) (h5 : ¬ op = 13) (h6 : ¬ op = 9) : tlv op = 7 := by
 unfold tlv;rw [if_neg (by rintro (h | h);exact h1 h;exact h2 h),if_neg (by rintro (h | h | h);exact h3 h;exact h4 h;exact h5 h),if_neg h6]
theorem tlv_le (op : UInt8) : tlv op ≤ 7 := by
 unfold tlv
 repeat' split
 all_goals omega
section
variable {op : UInt8} {nm : Str} {n : Int64} {args : List Ex}
theorem tm1 (h : op = 1) : tmT (.mk op nm n args) = Lib.itoa n.toInt := by rw [tm_mk];subst h;rfl
theorem tm4 (h : op = 4) : tmT (.mk op nm n args) = [110,111,119] := by rw [tm_mk];subst h;rfl
theorem tm5 (h : op = 5) : tmT (.mk op nm n args) = nm := by rw [tm_mk];subst h;rfl
theorem tm6 (h : op = 6) (h0 : 0 < args.length) : tmT (.mk op nm n args) = (nm ++ ([91] : Str) ++ tmT args[0] ++ ([93] : Str) : Str) := by
 rw [tm_mk];subst h;show (nm ++ ([91] : Str) ++ _ ++ ([93] : Str) : Str) = _;rw [hd0 h0]
theorem tm8 (h : op = 8) : tmT (.mk op nm n args) = (([115,105,122,101,32] : Str) ++ nm) := by rw [tm_mk];subst h;rfl
theorem tm9 (h : op = 9) (h0 : 0 < args.length) : tmT (.mk op nm n args) = (([45] : Str) ++ prnT (decide (tlv args[0].op < 6)) (tmT args[0]) : Str) := by
 rw [tm_mk];subst h;show (([45] : Str) ++ prnT _ _ : Str) = _;rw [hd0 h0]
theorem tmb (h : op = 11 ∨ op = 12 ∨ op = 13 ∨ op = 14 ∨ op = 15) (h0 : 0 < args.length) (h1 : 1 < args.length) : tmT (.mk op nm n args) = (prnT (decide (tlv args[0].op < tlv op)) (tmT args[0]) ++ ([32] : Str) ++ symT op ++ ([32] : Str) ++ prnT (decide (tlv args[1].op < tlv op + 1)) (tmT args[1]) : Str) := by
 rw [tm_mk];unfold tmOp;rw [hd0 h0,hd1 h1];rcases h with rfl | rfl | rfl | rfl | rfl <;> rfl
theorem tmn (h1 : ¬ op = 1) (h4 : ¬ op = 4) (h5 : ¬ op = 5) (h6 : ¬ op = 6) (h8 : ¬ op = 8) (h9 : ¬ op = 9) (hb : ¬ (op = 11 ∨ op = 12 ∨ op = 13 ∨ op = 14 ∨ op = 15)) : tmT (.mk op nm n args) = [95] := by
 rw [tm_mk];unfold tmOp;rw [if_neg h1,if_neg h4,if_neg h5,if_neg h6,if_neg h8,if_neg h9,if_neg hb]
end
theorem prnT_len (b : Bool) (s : Str) : s.length ≤ (prnT b s).length ∧ (prnT b s).length ≤ s.length + 2 := by
 unfold prnT;cases b
 ·rw [if_neg (by decide)];omega
 ·rw [if_pos rfl];simp only [List.length_append,List.length_cons,List.length_nil];omega
theorem tab_len {l : List Str} {m : Nat} (h : ∀ x ∈ l,x.length ≤ m) (i : Nat) : (l.getD i []).length ≤ m := by
 rw [List.getD_eq_getElem?_getD];cases e : l[i]? with
 | none => exact Nat.zero_le _
 | some x => exact h x (List.mem_of_getElem? e)
theorem symT_len (op : UInt8) : (symT op).length ≤ 2 := tab_len (l := fsyms) (by decide) _
theorem wordF_len (op : UInt8) : (wordF op).length ≤ 8 := tab_len (l := fwords) (by decide) _
theorem term_args1 {op : UInt8} {nm : Str} {n : Int64} {args : List Ex} (h : op = 6 ∨ op = 9) (hT : termB (.mk op nm n args) = true) : args.length = 1 ∧ ∀ a ∈ args,termB a = true := by
 rw [term_rec,Bool.and_eq_true,List.all_eq_true] at hT;refine ⟨?_,hT.2⟩;have h1 := hT.1;unfold trmB at h1;simp only [Bool.and_eq_true,decide_eq_true_eq] at h1;have h2 := h1.1.1.1.2;rcases h with rfl | rfl
 ·exact Int.ofNat_inj.1 (h2.symm.trans (by decide))
 ·exact Int.ofNat_inj.1 (h2.symm.trans (by decide))
theorem term_args2 {op : UInt8} {nm : Str} {n : Int64} {args : List Ex} (h : op = 11 ∨ op = 12 ∨ op = 13 ∨ op = 14 ∨ op = 15) (hT : termB (.mk op nm n args) = true) : args.length = 2 ∧ ∀ a ∈ args,termB a = true := by
 rw [term_rec,Bool.and_eq_true,List.all_eq_true] at hT;refine ⟨?_,hT.2⟩;have h1 := hT.1;unfold trmB at h1;simp only [Bool.and_eq_true,decide_eq_true_eq] at h1;have h2 := h1.1.1.1.2;rcases h with rfl | rfl | rfl | rfl | rfl <;> exact Int.ofNat_inj.1 (h2.symm.trans (by decide))
def nlE (e : Ex) : Bool := Ex.all (fun e => decide (e.nm.length ≤ 1000000)) e
theorem tmT_len (e : Ex) (hn : nlE e = true) : (tmT e).length ≤ 1000100 * e.count := by
 induction e using Ex.ind with | _ op nm n args ih
 unfold nlE at hn;rw [all_mk,alls_allE,Bool.and_eq_true,decide_eq_true_eq,List.all_eq_true] at hn;obtain ⟨hn,ha⟩ := hn;have hn' : nm.length ≤ 1000000 := hn
 have hx : ∀ (l : List (UInt8 × Str)),l = args.map (fun e => (e.op,tmT e)) → (l.headD (0,[])).2.length + ((l.drop 1).headD (0,[])).2.length ≤ 1000100 * Ex.counts args := by
  rintro l rfl
  match args,ih,ha with
  | [],_,_ => exact Nat.zero_le _
  | [a],ih,ha =>
   have := ih a (List.mem_cons_self ..) (ha a (List.mem_cons_self ..));rw [Ex.counts,Ex.counts];show (tmT a).length + 0 ≤ _;omega
  | a :: b :: r,ih,ha =>
   have h1 := ih a (List.mem_cons_self ..) (ha a (List.mem_cons_self ..));have h2 := ih b (List.mem_cons_of_mem _ (List.mem_cons_self ..)) (ha b (List.mem_cons_of_mem _ (List.mem_cons_self ..)));rw [Ex.counts,Ex.counts];show (tmT a).length + (tmT b).length ≤ _;omega
 have hx := hx _ rfl;rw [ex_count,tm_mk];unfold tmOp;generalize args.map (fun e => (e.op,tmT e)) = l at hx ⊢;have hi := itoa_len n;have p1 := (prnT_len (decide (tlv (l.headD (0,[])).1 < 6)) (l.headD (0,[])).2).2;have p2 := (prnT_len (decide (tlv (l.headD (0,[])).1 < tlv op)) (l.headD (0,[])).2).2;have p3 := (prnT_len (decide (tlv ((l.drop 1).headD (0,[])).1 < tlv op + 1)) ((l.drop 1).headD (0,[])).2).2;have p4 := symT_len op;generalize Ex.counts args = C at hx ⊢
 repeat' split
 all_goals (try simp only [List.length_append,List.length_cons,List.length_nil]);omega
def Gq (H : Hp) : Prop := ∀ W,Agr H W → Lib.TabIs Tryz.prog W "internal/strconv.uint64pow10" .u64 Lib.pow10Tab
theorem Gq.up {H H' : Hp} (g : Gq H) (u : Up H H') : Gq H' := fun W a => g W ⟨fun b o e => a b o (u b o e),u.lo ▸ a.lo⟩
theorem ext_grow {w : World} (os : Array Obj) : Ext w (Sort.grow w os) :=
 Ext.of_below ⟨rfl,rfl,rfl,by simp [Sort.grow],fun k hk => by simp [Sort.grow,Array.getElem?_append,hk]⟩
theorem formatInt_any (H : Hp) (g : Gq H) (n : Int64) (w : World) (hA : Agr H w) : Calls Tryz.prog 138 #[.int .i64 n.toInt,.int .i64 10] w fun r w' => r = .returned (strV (Lib.itoa n.toInt)) ∧ Ext w w' :=
 (Tryz.strconv_FormatInt_10 n.toInt (by have := n.le_toInt;omega) (by have := n.toInt_lt;omega) w (g w hA)).mono fun _ _ ⟨he,k,os,hw⟩ => ⟨he,hw ▸ ((Ext.refl w).drewN k).trans (ext_grow os)⟩
theorem itoa_any (H : Hp) (g : Gq H) (n : Int64) (w : World) (hA : Agr H w) : Calls Tryz.prog 144 #[.int .i64 n.toInt] w fun r w' => r = .returned (strV (Lib.itoa n.toInt)) ∧ Ext w w' :=
 (Tryz.strconv_Itoa n.toInt (by have := n.le_toInt;omega) (by have := n.toInt_lt;omega) w (g w hA)).mono fun _ _ ⟨he,k,os,hw⟩ => ⟨he,hw ▸ ((Ext.refl w).drewN k).trans (ext_grow os)⟩
set_option maxRecDepth 100000 in
theorem tlv_any (H : Hp) (op : UInt8) (w : World) (hA : Agr H w) : Calls Tryz.prog 140 #[.int .u8 op.toNat] w fun r w' => r = .returned (.int .i64 (tlv op : Nat)) ∧ Ext w w' := by
 refine Sx.enter (H := H) Tryz.func140 rfl Tryz.ntmps140 rfl hA ?_;refine .sr<|.a Z Z<|.nt<|.sq<|.sr<|.m Z Z<|.nt<|.bk<|.sq<|.sr<|.yv (.eql Z Z) Z<|.a Z Z<|.nt<|.cr Z (fun h4 => ?_) (fun h4 => ?_)
 ·have qa : op = 14 := UInt8.toNat_inj.1 (by have := of_decide_eq_true h4;show op.toNat = 14;omega);refine .sk<|.tN<|.cT Z<|.sr<|.a Z Z<|.nt<|.rt<|.bR<|.tR<|?_
  refine Sx.ret1 (.inl rfl) rfl (.tmp rfl) fun W s => ⟨?_,s.ext⟩
  first
   | (rw [tlv4 (.inl qa)];rfl)
   | (rw [tlv4 (.inr qa)];rfl)
   | (rw [tlv5 (.inl qb)];rfl)
   | (rw [tlv5 (.inr (.inl qb))];rfl)
   | (rw [tlv5 (.inr (.inr qb))];rfl)
   | (rw [tlv6 q9];rfl)
   | (rw [tlv7 qa14 qa15 qb11 qb12 qb13 q9];rfl)
 have qa14 : ¬ op = 14 := fun e => of_decide_eq_false h4 (by rw [e];rfl);refine .rg<|.yv (.eql Z Z) Z<|.a Z Z<|.nt<|.cr Z (fun h4 => ?_) (fun h4 => ?_)
 ·have qa : op = 15 := UInt8.toNat_inj.1 (by have := of_decide_eq_true h4;show op.toNat = 15;omega);refine .sr<|.a Z Z<|.nt<|.rt<|.bR<|.tR<|?_
  refine Sx.ret1 (.inl rfl) rfl (.tmp rfl) fun W s => ⟨?_,s.ext⟩
  first
   | (rw [tlv4 (.inl qa)];rfl)
   | (rw [tlv4 (.inr qa)];rfl)
   | (rw [tlv5 (.inl qb)];rfl)
   | (rw [tlv5 (.inr (.inl qb))];rfl)
   | (rw [tlv5 (.inr (.inr qb))];rfl)
   | (rw [tlv6 q9];rfl)
   | (rw [tlv7 qa14 qa15 qb11 qb12 qb13 q9];rfl)
 have qa15 : ¬ op = 15 := fun e => of_decide_eq_false h4 (by rw [e];rfl);refine .sq<|.sr<|.yv (.eql Z Z) Z<|.a Z Z<|.nt<|.cr Z (fun h7 => ?_) (fun h7 => ?_)
 ·have qb : op = 11 := UInt8.toNat_inj.1 (by have := of_decide_eq_true h7;show op.toNat = 11;omega);refine .sk<|.tN<|.cT Z<|.sr<|.a Z Z<|.nt<|.rt<|.bR<|.tR<|?_
  refine Sx.ret1 (.inl rfl) rfl (.tmp rfl) fun W s => ⟨?_,s.ext⟩
  first
   | (rw [tlv4 (.inl qa)];rfl)
   | (rw [tlv4 (.inr qa)];rfl)
   | (rw [tlv5 (.inl qb)];rfl)
   | (rw [tlv5 (.inr (.inl qb))];rfl)
   | (rw [tlv5 (.inr (.inr qb))];rfl)
   | (rw [tlv6 q9];rfl)
   | (rw [tlv7 qa14 qa15 qb11 qb12 qb13 q9];rfl)
 have qb11 : ¬ op = 11 := fun e => of_decide_eq_false h7 (by rw [e];rfl);refine .sr<|.yv (.eql Z Z) Z<|.a Z Z<|.nt<|.cr Z (fun h7 => ?_) (fun h7 => ?_)
 ·have qb : op = 12 := UInt8.toNat_inj.1 (by have := of_decide_eq_true h7;show op.toNat = 12;omega);refine .sk<|.tN<|.cT Z<|.sr<|.a Z Z<|.nt<|.rt<|.bR<|.tR<|?_
  refine Sx.ret1 (.inl rfl) rfl (.tmp rfl) fun W s => ⟨?_,s.ext⟩
  first
   | (rw [tlv4 (.inl qa)];rfl)
   | (rw [tlv4 (.inr qa)];rfl)
   | (rw [tlv5 (.inl qb)];rfl)
   | (rw [tlv5 (.inr (.inl qb))];rfl)
   | (rw [tlv5 (.inr (.inr qb))];rfl)
   | (rw [tlv6 q9];rfl)
   | (rw [tlv7 qa14 qa15 qb11 qb12 qb13 q9];rfl)
 have qb12 : ¬ op = 12 := fun e => of_decide_eq_false h7 (by rw [e];rfl);refine .rg<|.yv (.eql Z Z) Z<|.a Z Z<|.nt<|.cr Z (fun h7 => ?_) (fun h7 => ?_)
 ·have qb : op = 13 := UInt8.toNat_inj.1 (by have := of_decide_eq_true h7;show op.toNat = 13;omega);refine .sr<|.a Z Z<|.nt<|.rt<|.bR<|.tR<|?_
  refine Sx.ret1 (.inl rfl) rfl (.tmp rfl) fun W s => ⟨?_,s.ext⟩
  first
   | (rw [tlv4 (.inl qa)];rfl)
   | (rw [tlv4 (.inr qa)];rfl)
   | (rw [tlv5 (.inl qb)];rfl)
   | (rw [tlv5 (.inr (.inl qb))];rfl)
   | (rw [tlv5 (.inr (.inr qb))];rfl)
   | (rw [tlv6 q9];rfl)
   | (rw [tlv7 qa14 qa15 qb11 qb12 qb13 q9];rfl)
 have qb13 : ¬ op = 13 := fun e => of_decide_eq_false h7 (by rw [e];rfl);refine .sr<|.yv (.eql Z Z) Z<|.a Z Z<|.nt<|.cd Z (fun h11 => ?_) (fun h11 => ?_)
 ·have q9 : op = 9 := UInt8.toNat_inj.1 (by have := of_decide_eq_true h11;show op.toNat = 9;omega);refine .sr<|.a Z Z<|.nt<|.rt<|.bR<|.tR<|?_
  refine Sx.ret1 (.inl rfl) rfl (.tmp rfl) fun W s => ⟨?_,s.ext⟩
  first
   | (rw [tlv4 (.inl qa)];rfl)
   | (rw [tlv4 (.inr qa)];rfl)
   | (rw [tlv5 (.inl qb)];rfl)
   | (rw [tlv5 (.inr (.inl qb))];rfl)
   | (rw [tlv5 (.inr (.inr qb))];rfl)
   | (rw [tlv6 q9];rfl)
   | (rw [tlv7 qa14 qa15 qb11 qb12 qb13 q9];rfl)
 have q9 : ¬ op = 9 := fun e => of_decide_eq_false h11 (by rw [e];rfl);refine .sk<|.bN<|.tN<|.sr<|.a Z Z<|.nt<|.rt<|?_
 refine Sx.ret1 (.inl rfl) rfl (.tmp rfl) fun W s => ⟨?_,s.ext⟩
 first
  | (rw [tlv4 (.inl qa)];rfl)
  | (rw [tlv4 (.inr qa)];rfl)
  | (rw [tlv5 (.inl qb)];rfl)
  | (rw [tlv5 (.inr (.inl qb))];rfl)
  | (rw [tlv5 (.inr (.inr qb))];rfl)
  | (rw [tlv6 q9];rfl)
  | (rw [tlv7 qa14 qa15 qb11 qb12 qb13 q9];rfl)
set_option maxRecDepth 100000 in
theorem termOperand_any (H : Hp) (e : Ex) (k : Nat) (ht : (∀ (cs : List Value) (W : World),Rep H (dEx .u8 e) cs → termB e = true ∨ Ex.op e = 0 → (tmT e).length ≤ 1000000000 → Agr H W → Calls Tryz.prog 89 #[.agg cs.toArray] W fun r W' => r = .returned (strV (tmT e)) ∧ Ext W W')) (cs : List Value) (w : World) (h : Rep H (dEx .u8 e) cs) (hok : termB e = true ∨ e.op = 0) (hl : (tmT e).length ≤ 1000000000) (hA : Agr H w) :
 Calls Tryz.prog 139 #[.agg cs.toArray,.int .i64 (k : Nat)] w fun r w' => r = .returned (strV (prnT (decide (tlv e.op < k)) (tmT e))) ∧ Ext w w' := by
 obtain ⟨op,nm,nn,args⟩ := e;obtain ⟨pp,c,rfl,hs,hnm⟩ := ex_open h;refine Sx.enter (H := H) Tryz.func139 rfl Tryz.ntmps139 rfl hA ?_;refine .sr<|.bx Z Z Z fun b2 => .a Z Z<|.nt<|.sq<|.sr<|.yv (.fieldAddr Z Fx.field76_0) Z<|.yv (.load Z Fx.agg74 (.head _) Z) Z<|.yv (.call Fx.call140 Z (fun W s => tlv_any H op W s.agr)) Z<|.m Z Z<|.yv (.lss Z Z) Z<|.nt<|.cd Z (fun h9 => ?_) (fun h9 => ?_)
 ·have h9 : tlv op < k := by have := of_decide_eq_true h9;omega
  refine .sr<|.yv (.loadW Z Fx.agg76 (.head _) Z) Z<|.yv (.call Fx.call89 Z (fun W s => ht _ W h hok hl s.agr)) Z<|.yv (.app Z Z (by (try simp only [List.length_append,List.length_cons,List.length_nil]);omega)) Z<|.yv (.app Z Z (by (try simp only [List.length_append,List.length_cons,List.length_nil]);omega)) Z<|.a Z Z<|.nt<|.rt<|.tR<|?_
  refine Sx.ret1 (.inl rfl) rfl (.tmp rfl) fun W s => ⟨?_,s.ext⟩
  first
   | (rw [show decide (tlv (Ex.op (.mk op nm nn args)) < k) = true from decide_eq_true h9];rfl)
   | (rw [show decide (tlv (Ex.op (.mk op nm nn args)) < k) = false from decide_eq_false h9];rfl)
 have h9 : ¬ tlv op < k := fun e => of_decide_eq_false h9 (by omega);refine .sk<|.tN<|.sr<|.yv (.loadW Z Fx.agg76 (.head _) Z) Z<|.yv (.call Fx.call89 Z (fun W s => ht _ W h hok hl s.agr)) Z<|.a Z Z<|.nt<|.rt<|?_
 refine Sx.ret1 (.inl rfl) rfl (.tmp rfl) fun W s => ⟨?_,s.ext⟩
 first
  | (rw [show decide (tlv (Ex.op (.mk op nm nn args)) < k) = true from decide_eq_true h9];rfl)
  | (rw [show decide (tlv (Ex.op (.mk op nm nn args)) < k) = false from decide_eq_false h9];rfl)
set_option maxRecDepth 100000 in
theorem termText_any (H : Hp) (G : Gf H) (gq : Gq H) (e : Ex) : (∀ (cs : List Value) (W : World),Rep H (dEx .u8 e) cs → termB e = true ∨ Ex.op e = 0 → (tmT e).length ≤ 1000000000 → Agr H W → Calls Tryz.prog 89 #[.agg cs.toArray] W fun r W' => r = .returned (strV (tmT e)) ∧ Ext W W') := by
 induction e using Ex.ind with | _ op nm nn args ih
 intro cs w h hok hl hA;obtain ⟨pp,c,rfl,hs,hnm⟩ := ex_open h;have hcap := hs.cap;refine Sx.enter (H := H) Tryz.func89 rfl Tryz.ntmps89 rfl hA ?_;refine .sr<|.bx Z Z Z fun b1 => .a Z Z<|.nt<|.sq<|.sr<|.yv (.fieldAddr Z Fx.field76_0) Z<|.yv (.load Z Fx.agg74 (.head _) Z) Z<|.nt<|.bk<|.sr<|.yv (.eql Z Z) Z<|.a Z Z<|.nt<|.cd Z (fun h6 => ?_) (fun h6 => ?_)
 ·have q1 : op = 1 := UInt8.toNat_inj.1 (by have := of_decide_eq_true h6;show op.toNat = 1;omega);refine .sr<|.yv (.fieldAddr Z Fx.field76_2) Z<|.yv (.load Z Fx.agg2 (.head _) Z) Z<|.yv (.call Fx.call138 Z (fun W s => formatInt_any H gq nn W s.agr)) Z<|.a Z Z<|.nt<|.rt<|.bR<|.tR<|?_
  refine Sx.ret1 (.inl rfl) rfl (.tmp rfl) fun W s => ⟨?_,s.ext⟩
  first
   | (rw [tm1 q1])
   | (rw [tm4 q4];rfl)
   | (rw [tm5 q5])
   | (rw [tm6 q6 h0];rfl)
   | (rw [tm8 q8];rfl)
   | (rw [tm9 q9 h0];rfl)
   | (rw [tmb qB h0 h1];rfl)
   | (rw [tmn q1 q4 q5 q6 q8 q9 qB];rfl)
 have q1 : ¬ op = 1 := fun e => of_decide_eq_false h6 (by rw [e];rfl);refine .sr<|.yv (.eql Z Z) Z<|.a Z Z<|.nt<|.cd Z (fun h11 => ?_) (fun h11 => ?_)
 ·have q4 : op = 4 := UInt8.toNat_inj.1 (by have := of_decide_eq_true h11;show op.toNat = 4;omega);refine .sr<|.a Z Z<|.nt<|.rt<|.bR<|.tR<|?_
  refine Sx.ret1 (.inl rfl) rfl (.tmp rfl) fun W s => ⟨?_,s.ext⟩
  first
   | (rw [tm1 q1])
   | (rw [tm4 q4];rfl)
   | (rw [tm5 q5])
   | (rw [tm6 q6 h0];rfl)
   | (rw [tm8 q8];rfl)
   | (rw [tm9 q9 h0];rfl)
   | (rw [tmb qB h0 h1];rfl)
   | (rw [tmn q1 q4 q5 q6 q8 q9 qB];rfl)
 have q4 : ¬ op = 4 := fun e => of_decide_eq_false h11 (by rw [e];rfl);refine .sr<|.yv (.eql Z Z) Z<|.a Z Z<|.nt<|.cd Z (fun h13 => ?_) (fun h13 => ?_)
 ·have q5 : op = 5 := UInt8.toNat_inj.1 (by have := of_decide_eq_true h13;show op.toNat = 5;omega);refine .sr<|.yv (.fieldAddr Z Fx.field76_1) Z<|.yv (.load Z Fx.agg9 (.head _) Z) Z<|.a Z Z<|.nt<|.rt<|.bR<|.tR<|?_
  refine Sx.ret1 (.inl rfl) rfl (.tmp rfl) fun W s => ⟨?_,s.ext⟩
  first
   | (rw [tm1 q1])
   | (rw [tm4 q4];rfl)
   | (rw [tm5 q5])
   | (rw [tm6 q6 h0];rfl)
   | (rw [tm8 q8];rfl)
   | (rw [tm9 q9 h0];rfl)
   | (rw [tmb qB h0 h1];rfl)
   | (rw [tmn q1 q4 q5 q6 q8 q9 qB];rfl)
 have q5 : ¬ op = 5 := fun e => of_decide_eq_false h13 (by rw [e];rfl);refine .sr<|.yv (.eql Z Z) Z<|.a Z Z<|.nt<|.cd Z (fun h17 => ?_) (fun h17 => ?_)
 ·have q6 : op = 6 := UInt8.toNat_inj.1 (by have := of_decide_eq_true h17;show op.toNat = 6;omega);obtain ⟨hla,hta⟩ := term_args1 (.inl q6) (hok.resolve_right (by rw [q6];exact (by decide : ¬ (6 : UInt8) = 0)));have h0 : 0 < args.length := by omega
  obtain ⟨b0,o0,c0,hp0,r0,l0,m0⟩ := hs.elem (map_at h0);cases hp0;rw [tm6 q6 h0] at hl;simp only [List.length_append,List.length_cons,List.length_nil] at hl

  refine .sq<|.fl (trip := [(_,_,_),(_,_,_),(_,_,_),(_,_,_),(_,_,_),(_,_,_),(_,_,_),(_,_,_),(_,_,_),(_,_,_)]) 10 [(0,0),(1,0),(2,0),(3,0),(4,0),(5,0),(6,0),(7,0),(8,0),(9,0)] (by kernel_rfl) (by kernel_rfl) Z<|.yv (.fieldAddr Z Fx.field76_1) Z<|.yv (.load Z Fx.agg9 (.head _) Z) Z<|.yv (.app Z Z (by (try simp only [List.length_append,List.length_cons,List.length_nil]);omega)) Z<|.yv (.fieldAddr Z Fx.field76_3) Z<|.yv (.load Z Fx.agg32 (.head _) Z) Z<|.yv (.indexSl Fx.sl32 Z Z (i := 0) Z (by omega) (q := o0 + 0 * 4) Z) Z<|.yv (.loadMW Z Fx.agg76 m0 l0) Z<|.yv (.call Fx.call89 Z (fun W s => ih _ (List.getElem_mem h0) _ W r0 (.inl (hta _ (List.getElem_mem h0))) (by omega) s.agr)) Z<|.yv (.app Z Z (by (try simp only [List.length_append,List.length_cons,List.length_nil]);omega)) Z<|.yv (.app Z Z (by (try simp only [List.length_append,List.length_cons,List.length_nil]);omega)) Z<|.fn (tl := [_]) Z<|.a Z Z<|.nt<|.rt<|.bR<|.tR<|?_
  refine Sx.ret1 (.inl rfl) rfl (.tmp rfl) fun W s => ⟨?_,s.ext⟩
  first
   | (rw [tm1 q1])
   | (rw [tm4 q4];rfl)
   | (rw [tm5 q5])
   | (rw [tm6 q6 h0];rfl)
   | (rw [tm8 q8];rfl)
   | (rw [tm9 q9 h0];rfl)
   | (rw [tmb qB h0 h1];rfl)
   | (rw [tmn q1 q4 q5 q6 q8 q9 qB];rfl)
 have q6 : ¬ op = 6 := fun e => of_decide_eq_false h17 (by rw [e];rfl);refine .sr<|.yv (.eql Z Z) Z<|.a Z Z<|.nt<|.cd Z (fun h29 => ?_) (fun h29 => ?_)
 ·have q8 : op = 8 := UInt8.toNat_inj.1 (by have := of_decide_eq_true h29;show op.toNat = 8;omega);refine .sr<|.yv (.fieldAddr Z Fx.field76_1) Z<|.yv (.load Z Fx.agg9 (.head _) Z) Z<|.yv (.app Z Z (by (try simp only [List.length_append,List.length_cons,List.length_nil]);omega)) Z<|.a Z Z<|.nt<|.rt<|.bR<|.tR<|?_
  refine Sx.ret1 (.inl rfl) rfl (.tmp rfl) fun W s => ⟨?_,s.ext⟩
  first
   | (rw [tm1 q1])
   | (rw [tm4 q4];rfl)
   | (rw [tm5 q5])
   | (rw [tm6 q6 h0];rfl)
   | (rw [tm8 q8];rfl)
   | (rw [tm9 q9 h0];rfl)
   | (rw [tmb qB h0 h1];rfl)
   | (rw [tmn q1 q4 q5 q6 q8 q9 qB];rfl)
 have q8 : ¬ op = 8 := fun e => of_decide_eq_false h29 (by rw [e];rfl);refine .sr<|.yv (.eql Z Z) Z<|.a Z Z<|.nt<|.cd Z (fun h34 => ?_) (fun h34 => ?_)
 ·have q9 : op = 9 := UInt8.toNat_inj.1 (by have := of_decide_eq_true h34;show op.toNat = 9;omega);obtain ⟨hla,hta⟩ := term_args1 (.inr q9) (hok.resolve_right (by rw [q9];exact (by decide : ¬ (9 : UInt8) = 0)));have h0 : 0 < args.length := by omega
  obtain ⟨b0,o0,c0,hp0,r0,l0,m0⟩ := hs.elem (map_at h0);cases hp0;rw [tm9 q9 h0] at hl;simp only [List.length_append,List.length_cons,List.length_nil] at hl;have pl := prnT_len (decide (tlv args[0].op < 6)) (tmT args[0])

  refine .sr<|.yv (.fieldAddr Z Fx.field76_3) Z<|.yv (.load Z Fx.agg32 (.head _) Z) Z<|.yv (.indexSl Fx.sl32 Z Z (i := 0) Z (by omega) (q := o0 + 0 * 4) Z) Z<|.yv (.loadMW Z Fx.agg76 m0 l0) Z<|.yv (.call Fx.call139 Z (fun W s => termOperand_any H _ 6 (ih _ (List.getElem_mem h0)) _ W r0 (.inl (hta _ (List.getElem_mem h0))) (by omega) s.agr)) Z<|.yv (.app Z Z (by (try simp only [List.length_append,List.length_cons,List.length_nil]);omega)) Z<|.a Z Z<|.nt<|.rt<|.bR<|.tR<|?_
  refine Sx.ret1 (.inl rfl) rfl (.tmp rfl) fun W s => ⟨?_,s.ext⟩
  first
   | (rw [tm1 q1])
   | (rw [tm4 q4];rfl)
   | (rw [tm5 q5])
   | (rw [tm6 q6 h0];rfl)
   | (rw [tm8 q8];rfl)
   | (rw [tm9 q9 h0];rfl)
   | (rw [tmb qB h0 h1];rfl)
   | (rw [tmn q1 q4 q5 q6 q8 q9 qB];rfl)
 have q9 : ¬ op = 9 := fun e => of_decide_eq_false h34 (by rw [e];rfl);refine .cu (X := Bool) [(1,_)] ⟨rfl,trivial⟩ (fun z => [(42,.bool z)]) (fun z => H) (fun z => [.box b1 [.int .u8 op.toNat,strV nm,.int .i64 nn.toInt,.slice pp args.length c] 76]) (fun z => z = decide (op = 11 ∨ op = 12 ∨ op = 13 ∨ op = 14 ∨ op = 15)) ?_ fun z hC => ?_
 ·
  refine .sr<|.yv (.eql Z Z) Z<|.a Z Z<|.nt<|.cr Z (fun h42 => ?_) (fun h42 => ?_)
  ·have qb : op = 11 := UInt8.toNat_inj.1 (by have := of_decide_eq_true h42;show op.toNat = 11;omega);exact .sk<|.tN<|.me _ ⟨rfl,trivial⟩ ⟨rfl,trivial⟩ (fun _ s => s) (by first | (rw [qb];rfl) | (simp only [qb11,qb12,qb13,qb14,false_or];exact k8 (m := 15) (by decide)))
  have qb11 : ¬ op = 11 := fun e => of_decide_eq_false h42 (by rw [e];rfl);refine .sr<|.yv (.eql Z Z) Z<|.a Z Z<|.nt<|.cr Z (fun h42 => ?_) (fun h42 => ?_)
  ·have qb : op = 12 := UInt8.toNat_inj.1 (by have := of_decide_eq_true h42;show op.toNat = 12;omega);exact .sk<|.tN<|.me _ ⟨rfl,trivial⟩ ⟨rfl,trivial⟩ (fun _ s => s) (by first | (rw [qb];rfl) | (simp only [qb11,qb12,qb13,qb14,false_or];exact k8 (m := 15) (by decide)))
  have qb12 : ¬ op = 12 := fun e => of_decide_eq_false h42 (by rw [e];rfl);refine .sr<|.yv (.eql Z Z) Z<|.a Z Z<|.nt<|.cr Z (fun h42 => ?_) (fun h42 => ?_)
  ·have qb : op = 13 := UInt8.toNat_inj.1 (by have := of_decide_eq_true h42;show op.toNat = 13;omega);exact .sk<|.tN<|.me _ ⟨rfl,trivial⟩ ⟨rfl,trivial⟩ (fun _ s => s) (by first | (rw [qb];rfl) | (simp only [qb11,qb12,qb13,qb14,false_or];exact k8 (m := 15) (by decide)))
  have qb13 : ¬ op = 13 := fun e => of_decide_eq_false h42 (by rw [e];rfl);refine .sr<|.yv (.eql Z Z) Z<|.a Z Z<|.nt<|.cr Z (fun h42 => ?_) (fun h42 => ?_)
  ·have qb : op = 14 := UInt8.toNat_inj.1 (by have := of_decide_eq_true h42;show op.toNat = 14;omega);exact .sk<|.tN<|.me _ ⟨rfl,trivial⟩ ⟨rfl,trivial⟩ (fun _ s => s) (by first | (rw [qb];rfl) | (simp only [qb11,qb12,qb13,qb14,false_or];exact k8 (m := 15) (by decide)))
  have qb14 : ¬ op = 14 := fun e => of_decide_eq_false h42 (by rw [e];rfl);exact .rg<|.yv (.eql Z Z) Z<|.a Z Z<|.nt<|.me _ ⟨rfl,trivial⟩ ⟨rfl,trivial⟩ (fun _ s => s) (by first | (rw [qb];rfl) | (simp only [qb11,qb12,qb13,qb14,false_or];exact k8 (m := 15) (by decide)))
 have eqB := hC;refine .cr Z (fun h42 => ?_) (fun h42 => ?_)
 ·have qB : (op = 11 ∨ op = 12 ∨ op = 13 ∨ op = 14 ∨ op = 15) := by rw [h42] at eqB;exact of_decide_eq_true eqB.symm
  obtain ⟨hla,hta⟩ := term_args2 qB (hok.resolve_right (by rintro (h : op = 0);rw [h] at qB;revert qB;decide));have h0 : 0 < args.length := by omega
  have h1 : 1 < args.length := by omega
  obtain ⟨b0,o0,c0,hp0,r0,l0,m0⟩ := hs.elem (map_at h0);cases hp0;obtain ⟨b1,o1,c1,hp1,r1,l1,m1⟩ := hs.elem (map_at h1);cases hp1;rw [tmb qB h0 h1] at hl;simp only [List.length_append,List.length_cons,List.length_nil] at hl;have pl := prnT_len (decide (tlv args[0].op < tlv op)) (tmT args[0]);have pl1 := prnT_len (decide (tlv args[1].op < tlv op + 1)) (tmT args[1]);have psy := symT_len op;have htl := tlv_le op;have hop : op.toNat ≤ 15 := by rcases qB with rfl | rfl | rfl | rfl | rfl <;> decide
  refine .sr<|.yv (.fieldAddr Z Fx.field76_0) Z<|.yv (.load Z Fx.agg74 (.head _) Z) Z<|.yv (.call Fx.call140 Z (fun W s => tlv_any H op W s.agr)) Z<|.a Z Z<|.nt<|.sq<|.fl (trip := [(_,_,_),(_,_,_),(_,_,_),(_,_,_),(_,_,_),(_,_,_),(_,_,_),(_,_,_),(_,_,_),(_,_,_),(_,_,_),(_,_,_),(_,_,_),(_,_,_),(_,_,_),(_,_,_),(_,_,_),(_,_,_),(_,_,_),(_,_,_),(_,_,_)]) 21 [(0,0),(1,0),(2,0),(3,0),(4,0),(5,0),(6,0),(7,0),(8,0),(9,0),(10,0),(11,0),(12,0),(13,0),(14,0),(15,0),(16,0),(17,0),(18,0),(19,0),(20,0)] (by kernel_rfl) (by kernel_rfl) Z<|.yv (.fieldAddr Z Fx.field76_3) Z<|.yv (.load Z Fx.agg32 (.head _) Z) Z<|.yv (.indexSl Fx.sl32 Z Z (i := 0) Z (by omega) (q := o0 + 0 * 4) Z) Z<|.yv (.loadMW Z Fx.agg76 m0 l0) Z<|.m Z Z<|.yv (.call Fx.call139 Z (fun W s => termOperand_any H _ (tlv op) (ih _ (List.getElem_mem h0)) _ W r0 (.inl (hta _ (List.getElem_mem h0))) (by omega) s.agr)) Z<|.yv (.app Z Z (by (try simp only [List.length_append,List.length_cons,List.length_nil]);omega)) Z<|.yv (.fieldAddr Z Fx.field76_0) Z<|.yv (.load Z Fx.agg74 (.head _) Z) Z<|.yv (.indexArr Fx.arr165 Z Z Z (by omega) (q := op.toNat) (by omega)) Z<|.yv (.loadM (k := op.toNat) (v := strV (symT op)) Z Fx.agg9 G.syms (by omega) (by show _ = some (strV (fsyms.getD op.toNat []));exact list_at (by show op.toNat < 22;omega) [])) Z<|.yv (.app Z Z (by (try simp only [List.length_append,List.length_cons,List.length_nil]);omega)) Z<|.yv (.app Z Z (by (try simp only [List.length_append,List.length_cons,List.length_nil]);omega)) Z<|.yv (.fieldAddr Z Fx.field76_3) Z<|.yv (.load Z Fx.agg32 (.head _) Z) Z<|.yv (.indexSl Fx.sl32 Z Z (i := 1) Z (by omega) (q := o0 + 1 * 4) Z) Z<|.yv (.loadMW Z Fx.agg76 m1 l1) Z<|.m Z Z<|.yv (.add Z Z (w6 (by omega))) Z<|.yv (.call Fx.call139 Z (fun W s => termOperand_any H _ (tlv op + 1) (ih _ (List.getElem_mem h1)) _ W r1 (.inl (hta _ (List.getElem_mem h1))) (by omega) s.agr)) Z<|.yv (.app Z Z (by (try simp only [List.length_append,List.length_cons,List.length_nil]);omega)) Z<|.fn (tl := [_]) Z<|.a Z Z<|.nt<|.rt<|.bR<|.tR<|?_
  refine Sx.ret1 (.inl rfl) rfl (.tmp rfl) fun W s => ⟨?_,s.ext⟩
  first
   | (rw [tm1 q1])
   | (rw [tm4 q4];rfl)
   | (rw [tm5 q5])
   | (rw [tm6 q6 h0];rfl)
   | (rw [tm8 q8];rfl)
   | (rw [tm9 q9 h0];rfl)
   | (rw [tmb qB h0 h1];rfl)
   | (rw [tmn q1 q4 q5 q6 q8 q9 qB];rfl)
 have qB : ¬ (op = 11 ∨ op = 12 ∨ op = 13 ∨ op = 14 ∨ op = 15) := by rw [h42] at eqB;exact of_decide_eq_false eqB.symm
 refine .sk<|.bN<|.tN<|.sr<|.a Z Z<|.nt<|.rt<|?_
 refine Sx.ret1 (.inl rfl) rfl (.tmp rfl) fun W s => ⟨?_,s.ext⟩
 first
  | (rw [tm1 q1])
  | (rw [tm4 q4];rfl)
  | (rw [tm5 q5])
  | (rw [tm6 q6 h0];rfl)
  | (rw [tm8 q8];rfl)
  | (rw [tm9 q9 h0];rfl)
  | (rw [tmb qB h0 h1];rfl)
  | (rw [tmn q1 q4 q5 q6 q8 q9 qB];rfl)
theorem join_joi (sep : Str) : ∀ l : List Str,Lib.join l sep = joiT sep l
 | [] => rfl
 | [x] => Lib.join_one x sep
 | x :: y :: r => by
  show _ = x ++ sep ++ joiT sep (y :: r);rw [← join_joi sep (y :: r),Lib.join_cons,Lib.join_cons];simp [Lib.joinTail,List.append_assoc]
theorem joi_len (sep : Str) : ∀ l : List Str,(joiT sep l).length ≤ (l.map List.length).sum + l.length * sep.length
 | [] => Nat.zero_le _
 | [x] => by show x.length ≤ x.length + 0 + 1 * sep.length;omega
 | x :: y :: r => by
  have h := joi_len sep (y :: r);show (x ++ sep ++ joiT sep (y :: r)).length ≤ _;rw [List.length_append,List.length_append,List.map_cons,List.sum_cons,List.length_cons (a := x),Nat.add_mul];omega
theorem joi_ge (sep : Str) : ∀ (l : List Str),∀ x ∈ l,x.length ≤ (joiT sep l).length
 | [y],x,h => by rw [List.mem_singleton.1 h];exact Nat.le_refl _
 | y :: z :: r,x,h => by
  show _ ≤ (y ++ sep ++ joiT sep (z :: r)).length;rw [List.length_append,List.length_append];rcases List.mem_cons.1 h with rfl | h
  ·omega
  ·have := joi_ge sep (z :: r) x h;omega
section
variable {op : UInt8} {nm fd : Str} {a b : Int64} {ex : List Ex} {args : List Fm} {e0 : Ex}
theorem form_all (h : Fm.all formB (.mk op nm fd a b ex args) = true) : formB (.mk op nm fd a b ex args) = true ∧ ∀ g ∈ args,Fm.all formB g = true := by
 rw [fm_allL,Bool.and_eq_true,List.all_eq_true] at h;exact h
theorem form_parts (h : formB (.mk op nm fd a b ex args) = true) : ¬ (fsOf op).lv = 0 ∧ args.length = (fsOf op).ar ∧ exsB (.mk op nm fd a b ex args) = true ∧ bndB (.mk op nm fd a b ex args) = true := by
 unfold formB at h;rw [Bool.and_eq_true,Bool.and_eq_true,Bool.and_eq_true,Bool.and_eq_true,Bool.and_eq_true,decide_eq_true_eq,decide_eq_true_eq] at h;exact ⟨h.1.1.1.1.1,h.1.1.2,h.2,h.1.2⟩
theorem form_op (h : formB (.mk op nm fd a b ex args) = true) : op.toNat ≤ 18 := by
 have h1 := (form_parts h).1;exact Classical.byContradiction fun e => h1 (by unfold fsOf;rw [List.getD_eq_getElem?_getD,List.getElem?_eq_none (by show 19 ≤ op.toNat;omega)];rfl)
theorem form_ex7 (h : formB (.mk op nm fd a b ex args) = true) (q : op = 7) : ex.length ≤ 4 ∧ ∀ e ∈ ex,termB e = true ∨ e.op = 0 := by
 have h1 := (form_parts h).2.2.1;subst q;unfold exsB at h1;rw [if_pos (show (Fm.mk 7 nm fd a b ex args).op = 7 from rfl),Bool.and_eq_true,decide_eq_true_eq,List.all_eq_true] at h1;refine ⟨h1.1,fun e he => ?_⟩;have h2 := h1.2 e he;rw [Bool.or_eq_true] at h2;rcases h2 with h2 | h2
 ·obtain ⟨o,n,m,al⟩ := e;unfold anyB at h2;simp only [Bool.and_eq_true,decide_eq_true_eq] at h2;exact .inr h2.1.1.1
 ·exact .inl h2
theorem form_exn (h : formB (.mk op nm fd a b ex args) = true) (q : ¬ op = 7) : ex.length = (fsOf op).ex ∧ (if op = 3 then cmpB (ex.headD (.mk 0 [] 0 [])) else if op = 5 then termB (ex.headD (.mk 0 [] 0 [])) else if op = 18 then decide ((ex.headD (.mk 0 [] 0 [])).op = 1) && termB (ex.headD (.mk 0 [] 0 [])) && decide ((ex.headD (.mk 0 [] 0 [])).n.toInt ≤ 32) else true) = true := by
 have h1 := (form_parts h).2.2.1;unfold exsB at h1;rw [if_neg (show ¬ (Fm.mk op nm fd a b ex args).op = 7 from q),Bool.and_eq_true,decide_eq_true_eq] at h1;exact h1
theorem form_ex1 (h : formB (.mk op nm fd a b ex args) = true) (q : op = 5 ∨ op = 18) : ∃ e0,ex = [e0] ∧ termB e0 = true := by
 have h1 := form_exn h (by rcases q with rfl | rfl <;> decide);have hl : ex.length = 1 := h1.1.trans (by rcases q with rfl | rfl <;> rfl);obtain ⟨e0,rfl⟩ := List.length_eq_one_iff.1 hl;refine ⟨e0,rfl,?_⟩;have h2 := h1.2;rcases q with rfl | rfl
 ·exact h2
 ·rw [if_neg (by decide),if_neg (by decide),if_pos rfl,Bool.and_eq_true,Bool.and_eq_true] at h2;exact h2.1.2
theorem form_ex3 (h : formB (.mk op nm fd a b ex args) = true) (q : op = 3) : ∃ op0 nm0 m0 args0,ex = [.mk op0 nm0 m0 args0] ∧ (16 ≤ op0.toNat ∧ op0.toNat ≤ 21) ∧ args0.length = 2 ∧ ∀ a ∈ args0,termB a = true := by
 have h1 := form_exn h (by subst q;decide);have hl : ex.length = 1 := h1.1.trans (by subst q;rfl);obtain ⟨⟨op0,nm0,m0,args0⟩,rfl⟩ := List.length_eq_one_iff.1 hl;refine ⟨op0,nm0,m0,args0,rfl,?_⟩;have h2 := h1.2;rw [if_pos q] at h2;change cmpB (.mk op0 nm0 m0 args0) = true at h2;unfold cmpB at h2;simp only [Bool.and_eq_true,decide_eq_true_eq] at h2;rw [termBs_all,List.all_eq_true] at h2;exact ⟨⟨h2.1.1.1.1,h2.1.1.1.2⟩,h2.2.2,h2.2.1⟩
theorem fx3 {op0 : UInt8} {nm0 : Str} {m0 : Int64} {args0 : List Ex} (h : op = 3) (he : ex = [.mk op0 nm0 m0 args0]) (h0 : 0 < args0.length) (h1 : 1 < args0.length) : fmT (.mk op nm fd a b ex args) = (tmT args0[0] ++ ([32] : Str) ++ symT op0 ++ ([32] : Str) ++ tmT args0[1] : Str) := by
 match args0,h1 with
 | x :: y :: r,_ => rw [fm_mk];subst h he;rfl
theorem fx4 (h : op = 4) : fmT (.mk op nm fd a b ex args) = (nm ++ ([46] : Str) ++ fd : Str) := by rw [fm_mk];subst h;rfl
theorem fx5 (h : op = 5) (he : ex = [e0]) : fmT (.mk op nm fd a b ex args) = (wordF op ++ ([32] : Str) ++ nm ++ ([46] : Str) ++ fd ++ ([91] : Str) ++ tmT e0 ++ ([93] : Str) : Str) := by rw [fm_mk];subst h he;rfl
theorem fx6 (h : op = 6) : fmT (.mk op nm fd a b ex args) = (wordF op ++ ([32] : Str) ++ nm : Str) := by rw [fm_mk];subst h;rfl
theorem fx7 (h : op = 7) : fmT (.mk op nm fd a b ex args) = (wordF op ++ ([32] : Str) ++ nm ++ ([46] : Str) ++ fd ++ ([40] : Str) ++ joiT ([44,32] : Str) (ex.map tmT) ++ ([41] : Str) : Str) := by rw [fm_mk];subst h;rfl
def pfW (k : Nat) (f : Fm) : Str := prnT (decide ((fsOf f.op).lv < k)) (fmT f)
theorem fxu (h : op = 8 ∨ op = 12 ∨ op = 13 ∨ op = 14) (h0 : 0 < args.length) : fmT (.mk op nm fd a b ex args) = (wordF op ++ winT (.mk op nm fd a b ex args) ++ ([32] : Str) ++ pfW 5 args[0] : Str) := by
 rw [fm_mk];unfold fmOp pfW;rw [hd0 h0];rcases h with rfl | rfl | rfl | rfl <;> rfl
theorem fxq (h : op = 16 ∨ op = 17) (h0 : 0 < args.length) : fmT (.mk op nm fd a b ex args) = (wordF op ++ amoT (.mk op nm fd a b ex args) ++ ([32] : Str) ++ pfW 5 args[0] : Str) := by
 rw [fm_mk];unfold fmOp pfW;rw [hd0 h0];rcases h with rfl | rfl <;> rfl
theorem fx18 (h : op = 18) (he : ex = [e0]) (h0 : 0 < args.length) : fmT (.mk op nm fd a b ex args) = (wordF op ++ amoT (.mk op nm fd a b ex args) ++ ([32,40] : Str) ++ fmT args[0] ++ ([41,32,62,61,32] : Str) ++ tmT e0 : Str) := by
 rw [fm_mk];unfold fmOp;rw [hd0 h0];subst h he;rfl
theorem fxb (h : op = 15 ∨ op = 9 ∨ op = 10 ∨ op = 11) (h0 : 0 < args.length) (h1 : 1 < args.length) : fmT (.mk op nm fd a b ex args) = (pfW (fsOf op).lv args[0] ++ ([32] : Str) ++ wordF op ++ winT (.mk op nm fd a b ex args) ++ ([32] : Str) ++ pfW ((fsOf op).lv + 1) args[1] : Str) := by
 rw [fm_mk];unfold fmOp pfW;rw [hd0 h0,hd1 h1];rcases h with rfl | rfl | rfl | rfl <;> rfl
theorem fxn (h3 : ¬ op = 3) (h4 : ¬ op = 4) (h5 : ¬ op = 5) (h6 : ¬ op = 6) (h7 : ¬ op = 7) (hu : ¬ (op = 8 ∨ op = 12 ∨ op = 13 ∨ op = 14)) (hq : ¬ (op = 16 ∨ op = 17)) (h18 : ¬ op = 18) (hb : ¬ (op = 15 ∨ op = 9 ∨ op = 10 ∨ op = 11)) : fmT (.mk op nm fd a b ex args) = wordF op := by
 rw [fm_mk];unfold fmOp;rw [if_neg (show ¬ (Fm.mk op nm fd a b ex args).op = 3 from h3),if_neg (show ¬ (Fm.mk op nm fd a b ex args).op = 4 from h4),if_neg (show ¬ (Fm.mk op nm fd a b ex args).op = 5 from h5),if_neg (show ¬ (Fm.mk op nm fd a b ex args).op = 6 from h6),if_neg (show ¬ (Fm.mk op nm fd a b ex args).op = 7 from h7),if_neg (show ¬ ((Fm.mk op nm fd a b ex args).op = 8 ∨ (Fm.mk op nm fd a b ex args).op = 12 ∨ (Fm.mk op nm fd a b ex args).op = 13 ∨ (Fm.mk op nm fd a b ex args).op = 14) from hu),if_neg (show ¬ ((Fm.mk op nm fd a b ex args).op = 16 ∨ (Fm.mk op nm fd a b ex args).op = 17) from hq),if_neg (show ¬ (Fm.mk op nm fd a b ex args).op = 18 from h18),if_neg (show ¬ ((Fm.mk op nm fd a b ex args).op = 15 ∨ (Fm.mk op nm fd a b ex args).op = 9 ∨ (Fm.mk op nm fd a b ex args).op = 10 ∨ (Fm.mk op nm fd a b ex args).op = 11) from hb)]
 rfl
theorem ar1 (h : op = 8 ∨ op = 12 ∨ op = 13 ∨ op = 14 ∨ op = 16 ∨ op = 17 ∨ op = 18) : (fsOf op).ar = 1 := by rcases h with rfl | rfl | rfl | rfl | rfl | rfl | rfl <;> rfl
theorem ar2 (h : op = 15 ∨ op = 9 ∨ op = 10 ∨ op = 11) : (fsOf op).ar = 2 := by rcases h with rfl | rfl | rfl | rfl <;> rfl
theorem win_len : (winT (.mk op nm fd a b ex args)).length ≤ 46 := by
 unfold winT
 split
 ·exact Nat.zero_le _
 ·have h1 := itoa_len (Fm.mk op nm fd a b ex args).a;have h2 := itoa_len (Fm.mk op nm fd a b ex args).b;simp only [List.length_append,List.length_cons,List.length_nil];omega
theorem amo_len : (amoT (.mk op nm fd a b ex args)).length ≤ nm.length + 49 := by
 have h1 := itoa_len (Fm.mk op nm fd a b ex args).a;have h2 := itoa_len (Fm.mk op nm fd a b ex args).b;show (([32] : Str) ++ nm ++ _ ++ _ ++ _ ++ _).length ≤ _;simp only [List.length_append,List.length_cons,List.length_nil];omega
theorem pfW_len (k : Nat) (f : Fm) : (fmT f).length ≤ (pfW k f).length ∧ (pfW k f).length ≤ (fmT f).length + 2 := prnT_len _ _
end
def nlF (f : Fm) : Bool := Fm.all (fun f => decide (f.nm.length ≤ 1000000) && decide (f.fd.length ≤ 1000000) && f.ex.all nlE) f
theorem tmTs_len : ∀ l : List Ex,(∀ e ∈ l,nlE e = true) → ((l.map tmT).map List.length).sum ≤ 1000100 * Ex.counts l
 | [],_ => Nat.zero_le _
 | e :: r,h => by
  rw [List.map_cons,List.map_cons,List.sum_cons,Ex.counts];have h1 := tmT_len e (h e (List.mem_cons_self ..));have h2 := tmTs_len r fun x hx => h x (List.mem_cons_of_mem _ hx);omega
theorem tmAt_len (e : Ex) (h : nlE e = true) : (tmT (ex0 e)).length + (tmT (ex1 e)).length ≤ 1000100 * e.count := by
 obtain ⟨op,nm,n,args⟩ := e;unfold nlE at h;rw [all_mk,alls_allE,Bool.and_eq_true,List.all_eq_true] at h;rw [ex_count];have hz : tmT zE = [95] := tm_mk
 match args,h.2 with
 | [],_ => show (tmT zE).length + (tmT zE).length ≤ _;rw [hz,Ex.counts];decide
 | [x],h =>
  have := tmT_len x (h x (List.mem_cons_self ..));show (tmT x).length + (tmT zE).length ≤ _;rw [hz,Ex.counts,Ex.counts];show _ + 1 ≤ _;omega
 | x :: y :: r,h =>
  have h1 := tmT_len x (h x (List.mem_cons_self ..));have h2 := tmT_len y (h y (List.mem_cons_of_mem _ (List.mem_cons_self ..)));show (tmT x).length + (tmT y).length ≤ _;rw [Ex.counts,Ex.counts];omega
theorem fmOp_len (F : Fm) (l : List (UInt8 × Str)) (C D : Nat) (h1 : F.nm.length ≤ 1000000) (h2 : F.fd.length ≤ 1000000) (he : (tmT (exH F)).length + (tmT (ex0 (exH F))).length + (tmT (ex1 (exH F))).length ≤ 2000200 * D + 3)
 (hj : (joiT ([44,32] : Str) (F.ex.map tmT)).length ≤ 1000102 * D) (hx : (l.headD (0,[])).2.length + ((l.drop 1).headD (0,[])).2.length ≤ 3000200 * C) (w1 : (winT F).length ≤ 46) (w2 : (amoT F).length ≤ F.nm.length + 49) : (fmOp F l).length ≤ 3000200 * (D + C + 1) := by
 have w3 := wordF_len F.op;have w4 := symT_len (exH F).op;have p1 := (prnT_len (decide ((fsOf (l.headD (0,[])).1).lv < 5)) (l.headD (0,[])).2).2;have p2 := (prnT_len (decide ((fsOf (l.headD (0,[])).1).lv < (fsOf F.op).lv)) (l.headD (0,[])).2).2;have p3 := (prnT_len (decide ((fsOf ((l.drop 1).headD (0,[])).1).lv < (fsOf F.op).lv + 1)) ((l.drop 1).headD (0,[])).2).2;unfold fmOp
 repeat' split
 all_goals (try simp only [List.length_append,List.length_cons,List.length_nil]);omega
theorem fmT_len (f : Fm) (hn : nlF f = true) : (fmT f).length ≤ 3000200 * f.count := by
 induction f using Fm.ind with | _ op nm fd a b ex args ih
 unfold nlF at hn;rw [fm_allL,Bool.and_eq_true,Bool.and_eq_true,Bool.and_eq_true,decide_eq_true_eq,decide_eq_true_eq,List.all_eq_true,List.all_eq_true] at hn;obtain ⟨⟨⟨hn,hf⟩,he⟩,ha⟩ := hn;have hn' : nm.length ≤ 1000000 := hn;have hf' : fd.length ≤ 1000000 := hf;have he' : ∀ e ∈ ex,nlE e = true := he
 have hx : ∀ (l : List (UInt8 × Str)),l = args.map (fun f => (f.op,fmT f)) → (l.headD (0,[])).2.length + ((l.drop 1).headD (0,[])).2.length ≤ 3000200 * Fm.counts args := by
  rintro l rfl
  match args,ih,ha with
  | [],_,_ => exact Nat.zero_le _
  | [a],ih,ha =>
   have := ih a (List.mem_cons_self ..) (ha a (List.mem_cons_self ..));rw [Fm.counts,Fm.counts];show (fmT a).length + 0 ≤ _;omega
  | a :: b :: r,ih,ha =>
   have h1 := ih a (List.mem_cons_self ..) (ha a (List.mem_cons_self ..));have h2 := ih b (List.mem_cons_of_mem _ (List.mem_cons_self ..)) (ha b (List.mem_cons_of_mem _ (List.mem_cons_self ..)));rw [Fm.counts,Fm.counts];show (fmT a).length + (fmT b).length ≤ _;omega
 have hx := hx _ rfl
 have he0 : (tmT (exH (.mk op nm fd a b ex args))).length + (tmT (ex0 (exH (.mk op nm fd a b ex args)))).length + (tmT (ex1 (exH (.mk op nm fd a b ex args)))).length ≤ 2000200 * Ex.counts ex + 3 := by
  have hz : tmT zE = [95] := tm_mk
  match ex,he' with
  | [],_ =>
   show (tmT zE).length + (tmT zE).length + (tmT zE).length ≤ _;rw [hz];show 3 ≤ _;omega
  | e :: r,h =>
   have h1 := tmT_len e (h e (List.mem_cons_self ..));have h2 := tmAt_len e (h e (List.mem_cons_self ..));show (tmT e).length + (tmT (ex0 e)).length + (tmT (ex1 e)).length ≤ _;rw [Ex.counts];omega
 have hj := joi_len ([44,32] : Str) (ex.map tmT);have hs := tmTs_len ex he';have hl2 := ex_len ex;rw [List.length_map] at hj;rw [fm_count,fm_mk];have e2 : ([44,32] : Str).length = 2 := rfl;rw [e2] at hj;exact fmOp_len _ _ _ _ hn' hf' he0 (Nat.le_trans hj (by omega)) hx win_len amo_len
theorem fld_s0 (s : Fs) : ∀ W,(Instr.field 157 (.agg (fsC s).toArray) 0).run Tryz.prog W = .ok (.int .u8 (s.lv : Nat)) W := fun _ => by kernel_rfl
theorem fld_s3 (s : Fs) : ∀ W,(Instr.field 157 (.agg (fsC s).toArray) 3).run Tryz.prog W = .ok (.bool s.wn) W := fun _ => by kernel_rfl
section
variable {op : UInt8} {nm fd : Str} {a b : Int64} {ex : List Ex} {args : List Fm}
theorem win_1 (h : (!(fsOf op).wn) = true) : winT (.mk op nm fd a b ex args) = [] := by
 unfold winT;exact if_pos (show (!(fsOf op).wn || decide (b.toInt < 0)) = true by rw [h];rfl)
theorem win_2 (h : (!(fsOf op).wn) = false) (h2 : decide (b.toInt < 0) = true) : winT (.mk op nm fd a b ex args) = [] := by
 unfold winT;exact if_pos (show (!(fsOf op).wn || decide (b.toInt < 0)) = true by rw [h,h2];rfl)
theorem win_3 (h : (!(fsOf op).wn) = false) (h2 : decide (b.toInt < 0) = false) : winT (.mk op nm fd a b ex args) = ([91] : Str) ++ Lib.itoa a.toInt ++ ([44,32] : Str) ++ Lib.itoa b.toInt ++ ([93] : Str) := by
 unfold winT;exact if_neg (show ¬ (!(fsOf op).wn || decide (b.toInt < 0)) = true by rw [h,h2];decide)
end
set_option maxRecDepth 100000 in
theorem window_any (H : Hp) (G : Gf H) (gq : Gq H) (f : Fm) (cs : List Value) (w : World) (h : Rep H (dFm .u8 f) cs) (hA : Agr H w) : Calls Tryz.prog 91 #[.agg cs.toArray] w fun r w' => r = .returned (strV (winT f)) ∧ Ext w w' := by
 obtain ⟨op,nm,fd,a,b,ex,args⟩ := f;obtain ⟨p1,c1,p2,c2,rfl,hs1,hs2,hnm,hfd⟩ := fm_open h;have hi1 := itoa_len a;have hi2 := itoa_len b;refine Sx.enter (H := H) Tryz.func91 rfl Tryz.ntmps91 rfl hA ?_;refine .sr<|.bx Z Z Z fun b1 => .a Z Z<|.nt<|.sq<|.sr<|.yv (.fieldAddr Z Fx.field35_0) Z<|.yv (.load Z Fx.agg31 (.head _) Z) Z<|.yv (.call (v := .agg (fsC (fsOf op)).toArray) Fx.call74 Z (fun W s => fshape_any H G op W s.agr)) Z<|.yv (.fld Z (fld_s3 _)) Z<|.yv (.not Z) Z<|.m Z Z<|.b2 (fun h8 => ?_) (fun h8 => ?_)
 ·try simp only [dt] at h8
  refine .gF Z Z Z Z<|.gF Z Z Z Z<|.gF Z Z Z Z<|.yv (.pickT Z Z) Z<|.nt<|.cT Z<|.sr<|.a Z Z<|.nt<|.rt<|.tR<|?_
  refine Sx.ret1 (.inl rfl) rfl (.tmp rfl) fun W s => ⟨?_,s.ext⟩
  first
   | (rw [win_2 h8 h12];rfl)
   | (rw [win_3 h8 h12];rfl)
   | (rw [win_1 h8];rfl)
 try simp only [df] at h8
 refine .gd Z Z<|.yv (.fieldAddr Z Fx.field35_4) Z<|.gd Z Z<|.yv (.load Z Fx.agg3 (.head _) Z) Z<|.gd Z Z<|.yv (.lss Z Z) Z<|.yv (.pickF Z Z) Z<|.nt<|.cd Z (fun h12 => ?_) (fun h12 => ?_)
 ·skip
  refine .sr<|.a Z Z<|.nt<|.rt<|.tR<|?_
  refine Sx.ret1 (.inl rfl) rfl (.tmp rfl) fun W s => ⟨?_,s.ext⟩
  first
   | (rw [win_2 h8 h12];rfl)
   | (rw [win_3 h8 h12];rfl)
   | (rw [win_1 h8];rfl)
 skip
 refine .sk<|.tN<|.sq<|.fl (trip := [(_,_,_),(_,_,_),(_,_,_),(_,_,_),(_,_,_),(_,_,_),(_,_,_),(_,_,_),(_,_,_),(_,_,_)]) 10 [(0,0),(1,0),(2,0),(3,0),(4,0),(5,0),(6,0),(7,0),(8,0),(9,0)] (by kernel_rfl) (by kernel_rfl) Z<|.yv (.fieldAddr Z Fx.field35_3) Z<|.yv (.load Z Fx.agg3 (.head _) Z) Z<|.yv (.call Fx.call144 Z (fun W s => itoa_any H gq a W s.agr)) Z<|.yv (.app Z Z (by (try simp only [List.length_append,List.length_cons,List.length_nil]);omega)) Z<|.yv (.app Z Z (by (try simp only [List.length_append,List.length_cons,List.length_nil]);omega)) Z<|.yv (.fieldAddr Z Fx.field35_4) Z<|.yv (.load Z Fx.agg3 (.head _) Z) Z<|.yv (.call Fx.call144 Z (fun W s => itoa_any H gq b W s.agr)) Z<|.yv (.app Z Z (by (try simp only [List.length_append,List.length_cons,List.length_nil]);omega)) Z<|.yv (.app Z Z (by (try simp only [List.length_append,List.length_cons,List.length_nil]);omega)) Z<|.fn (tl := [_]) Z<|.a Z Z<|.nt<|.rt<|?_
 refine Sx.ret1 (.inl rfl) rfl (.tmp rfl) fun W s => ⟨?_,s.ext⟩
 first
  | (rw [win_2 h8 h12];rfl)
  | (rw [win_3 h8 h12];rfl)
  | (rw [win_1 h8];rfl)
set_option maxRecDepth 100000 in
theorem among_any (H : Hp) (gq : Gq H) (f : Fm) (cs : List Value) (w : World) (h : Rep H (dFm .u8 f) cs) (hA : Agr H w) : Calls Tryz.prog 93 #[.agg cs.toArray] w fun r w' => r = .returned (strV (amoT f)) ∧ Ext w w' := by
 obtain ⟨op,nm,fd,a,b,ex,args⟩ := f;obtain ⟨p1,c1,p2,c2,rfl,hs1,hs2,hnm,hfd⟩ := fm_open h;have hi1 := itoa_len a;have hi2 := itoa_len b;refine Sx.enter (H := H) Tryz.func93 rfl Tryz.ntmps93 rfl hA ?_;refine .sr<|.bx Z Z Z fun b1 => .a Z Z<|.nt<|.sq<|.fl (trip := [(_,_,_),(_,_,_),(_,_,_),(_,_,_),(_,_,_),(_,_,_),(_,_,_),(_,_,_),(_,_,_),(_,_,_),(_,_,_),(_,_,_),(_,_,_)]) 13 [(0,0),(1,0),(2,0),(3,0),(4,0),(5,0),(6,0),(7,0),(8,0),(9,0),(10,0),(11,0),(12,0)] (by kernel_rfl) (by kernel_rfl) Z<|.yv (.fieldAddr Z Fx.field35_1) Z<|.yv (.load Z Fx.agg9 (.head _) Z) Z<|.yv (.app Z Z (by (try simp only [List.length_append,List.length_cons,List.length_nil]);omega)) Z<|.yv (.app Z Z (by (try simp only [List.length_append,List.length_cons,List.length_nil]);omega)) Z<|.yv (.fieldAddr Z Fx.field35_3) Z<|.yv (.load Z Fx.agg3 (.head _) Z) Z<|.yv (.call Fx.call144 Z (fun W s => itoa_any H gq a W s.agr)) Z<|.yv (.app Z Z (by (try simp only [List.length_append,List.length_cons,List.length_nil]);omega)) Z<|.yv (.app Z Z (by (try simp only [List.length_append,List.length_cons,List.length_nil]);omega)) Z<|.yv (.fieldAddr Z Fx.field35_4) Z<|.yv (.load Z Fx.agg3 (.head _) Z) Z<|.yv (.call Fx.call144 Z (fun W s => itoa_any H gq b W s.agr)) Z<|.yv (.app Z Z (by (try simp only [List.length_append,List.length_cons,List.length_nil]);omega)) Z<|.fn (tl := [_]) Z<|.a Z Z<|.nt<|.rt<|?_
 refine Sx.ret1 (.inl rfl) rfl (.tmp rfl) fun W s => ⟨?_,s.ext⟩
 first
  | (rfl)
set_option maxRecDepth 100000 in
theorem foperand_any (H : Hp) (G : Gf H) {op : UInt8} {nm fd : Str} {a b : Int64} {ex : List Ex} {args : List Fm} (i k : Nat) (hk : i < args.length) (ht : (∀ (cs : List Value) (W : World),Rep H (dFm .u8 args[i]) cs → Fm.all formB args[i] = true → (fmT args[i]).length ≤ 1000000000 → Agr H W → Calls Tryz.prog 48 #[.agg cs.toArray] W fun r W' => r = .returned (strV (fmT args[i])) ∧ Ext W W')) (cs : List Value) (w : World) (h : Rep H (dFm .u8 (.mk op nm fd a b ex args)) cs) (hok : Fm.all formB args[i] = true) (hl : (fmT args[i]).length ≤ 1000000000) (hA : Agr H w) :
 Calls Tryz.prog 92 #[.agg cs.toArray,.int .i64 (i : Nat),.int .u8 (k : Nat)] w fun r w' => r = .returned (strV (pfW k args[i])) ∧ Ext w w' := by
 obtain ⟨p1,c1,p2,c2,rfl,hs1,hs2,hnm,hfd⟩ := fm_open h;have hcap := hs2.cap;obtain ⟨bE,oE,cE,hpE,rE,lE,mE⟩ := hs2.elem (map_at (f := dFm .u8) hk);cases hpE;generalize ef : args[i] = g at rE ht hok hl ⊢;obtain ⟨op0,nm0,fd0,a0,b0,ex0,args0⟩ := g;obtain ⟨q1,d1,q2,d2,rfl,g1,g2,gn,gf⟩ := fm_open rE;clear ef;have ef := @id True trivial;refine Sx.enter (H := H) Tryz.func92 rfl Tryz.ntmps92 rfl hA ?_;refine .sr<|.bx Z Z Z fun b3 => .a Z Z<|.ns<|.yv (.fieldAddr Z Fx.field35_6) Z<|.yv (.load Z Fx.agg33 (.head _) Z) Z<|.m Z Z<|.yv (.indexSl Fx.sl33 Z Z (i := i) Z hk (q := oE + i * 7) Z) Z<|.yv (.loadMW Z Fx.agg35 mE lE) Z<|.al Fx.zero35 Z fun b7 => .sW .head Z Z Fx.size35 (by simp [Value.oneCell',strV]) Z<|.nt<|.sq<|.sr<|.yv (.fieldAddr Z Fx.field35_0) Z<|.yv (.load Z Fx.agg31 (.head _) Z) Z<|.yv (.call (v := .agg (fsC (fsOf _)).toArray) Fx.call74 Z (fun W s => fshape_any H G _ W s.agr)) Z<|.yv (.fld Z (fld_s0 _)) Z<|.m Z Z<|.yv (.lss Z Z) Z<|.nt<|.cd Z (fun h18 => ?_) (fun h18 => ?_)
 ·have h18 : (fsOf op0).lv < k := by have := of_decide_eq_true h18;omega
  refine .sr<|.yv (.loadW Z Fx.agg35 (.head _) Z) Z<|.yv (.call Fx.call48 Z (fun W s => ht _ W rE hok hl s.agr)) Z<|.yv (.app Z Z (by (try simp only [List.length_append,List.length_cons,List.length_nil]);omega)) Z<|.yv (.app Z Z (by (try simp only [List.length_append,List.length_cons,List.length_nil]);omega)) Z<|.a Z Z<|.nt<|.rt<|.tR<|?_
  refine Sx.ret1 (.inl rfl) rfl (.tmp rfl) fun W s => ⟨?_,s.ext⟩
  first
   | (unfold pfW;rw [show decide ((fsOf (Fm.op (.mk op0 nm0 fd0 a0 b0 ex0 args0))).lv < k) = true from decide_eq_true h18];rfl)
   | (unfold pfW;rw [show decide ((fsOf (Fm.op (.mk op0 nm0 fd0 a0 b0 ex0 args0))).lv < k) = false from decide_eq_false h18];rfl)
 have h18 : ¬ (fsOf op0).lv < k := fun e => of_decide_eq_false h18 (by omega);refine .sk<|.tN<|.sr<|.yv (.loadW Z Fx.agg35 (.head _) Z) Z<|.yv (.call Fx.call48 Z (fun W s => ht _ W rE hok hl s.agr)) Z<|.a Z Z<|.nt<|.rt<|?_
 refine Sx.ret1 (.inl rfl) rfl (.tmp rfl) fun W s => ⟨?_,s.ext⟩
 first
  | (unfold pfW;rw [show decide ((fsOf (Fm.op (.mk op0 nm0 fd0 a0 b0 ex0 args0))).lv < k) = true from decide_eq_true h18];rfl)
  | (unfold pfW;rw [show decide ((fsOf (Fm.op (.mk op0 nm0 fd0 a0 b0 ex0 args0))).lv < k) = false from decide_eq_false h18];rfl)
theorem wu8 {n : Nat} (h : n < 255) : IntKind.u8.wrap ((n : Int) + 1) = ((n + 1 : Nat) : Int) := by
 have key : ∀ i ∈ List.range 256,IntKind.u8.wrap (i : Int) = (i : Int) := by decide +kernel
 exact key (n + 1) (List.mem_range.2 (by omega))
theorem take_snocE {l : List Ex} {k : Nat} (h : k < l.length) : l.take (k + 1) = l.take k ++ [l[k]] := by rw [List.take_succ,List.getElem?_eq_getElem h];rfl
theorem join_W (W : World) (b o c : Nat) (xs : List Str) (h : ∀ (j : Nat) x,xs[j]? = some x → W.cell? ⟨b,o + j,none⟩ = some (strV x)) (hb : b < W.heap.size) (hN : xs.length ≤ 140737488355328) (hc : xs.length ≤ c) (hl : (joiT ([44,32] : Str) xs).length ≤ 140737488355328) :
 Calls Tryz.prog 90 #[.slice (some ⟨b,o,none⟩) xs.length c,strV [44,32]] W fun e w' => e = .returned (strV (joiT ([44,32] : Str) xs)) ∧ Ext W w' := by
 have e1 : ((xs.map fun l => (⟨l.toArray⟩ : ByteArray)).map (·.data.toList)) = xs := by simp [Function.comp_def]
 have h2 := Tryz.strings_Join b o c (xs.map fun l => (⟨l.toArray⟩ : ByteArray)) ⟨#[44,32]⟩ W (fun j x e => by
  rw [List.getElem?_map] at e;cases e2 : xs[j]? with
  | none => rw [e2] at e;cases e
  | some y => rw [e2] at e;cases e;exact h j y e2) hb (by simpa using hN) (by simpa using hc) (by rw [e1,join_joi];exact hl)
 rw [e1,List.length_map,join_joi] at h2;exact h2.mono fun e w' ⟨a,k⟩ => ⟨a,Ext.of_below k⟩
theorem join_row {H : Hp} {w0 W : World} {bs : List Res} {r : Value} {T : TypeId} (xs : List Str) {n : Nat} (hn : xs.length = n) (s : St H w0 bs W) (hm : Res.row T 1 r n (xs.map strV) ∈ bs) (hN : xs.length ≤ 1000) (hl : (joiT ([44,32] : Str) xs).length ≤ 140737488355328) :
 Calls Tryz.prog 90 #[r,strV [44,32]] W fun e w' => e = .returned (strV (joiT ([44,32] : Str) xs)) ∧ Ext W w' := by
 have ho : W.ownsRow w0.heap.size T 1 r n (xs.map strV) := (s.own _ hm).1;subst hn;rcases ho.2 with ⟨hr,h0⟩ | ⟨g,cap,cur,hr,_,hg,hc,_⟩
 ·obtain rfl := List.eq_nil_of_length_eq_zero h0;subst hr;exact (Tryz.strings_Join_none none 0 ⟨#[44,32]⟩ W).mono fun e w' ⟨h1,h2⟩ => ⟨h1,h2 ▸ Ext.refl W⟩
 ·subst hr;refine join_W W g 0 cap xs (fun j x e => ?_) ?_ (by omega) hc hl
  ·have := World.ownsRow.cells ho (g := g) rfl j (strV x) (by rw [List.getElem?_map,e];rfl);rw [Addr.add_lit,Nat.zero_add] at this;rw [Nat.zero_add];exact this
  ·exact (Array.getElem?_eq_some_iff.1 hg).1
set_option maxHeartbeats 4000000 in
set_option maxRecDepth 100000 in
theorem ftext_any (H : Hp) (G : Gf H) (gq : Gq H) (f : Fm) : (∀ (cs : List Value) (W : World),Rep H (dFm .u8 f) cs → Fm.all formB f = true → (fmT f).length ≤ 1000000000 → Agr H W → Calls Tryz.prog 48 #[.agg cs.toArray] W fun r W' => r = .returned (strV (fmT f)) ∧ Ext W W') := by
 induction f using Fm.ind with | _ op nm fd a b ex args ih
 intro cs w h hok hl hA;obtain ⟨p1,c1,p2,c2,rfl,hs1,hs2,hnm,hfd⟩ := fm_open h;have hcap1 := hs1.cap;have hcap2 := hs2.cap;obtain ⟨hF,hG⟩ := form_all hok;have hop := form_op hF;have hwl := wordF_len op;have hwn := win_len (op := op) (nm := nm) (fd := fd) (a := a) (b := b) (ex := ex) (args := args);have ham := amo_len (op := op) (nm := nm) (fd := fd) (a := a) (b := b) (ex := ex) (args := args);refine Sx.enter (H := H) Tryz.func48 rfl Tryz.ntmps48 rfl hA ?_;refine .sr<|.bx Z Z Z fun b1 => .a Z Z<|.ns<|.yv (.fieldAddr Z Fx.field35_0) Z<|.yv (.load Z Fx.agg31 (.head _) Z) Z<|.yv (.indexArr Fx.arr163 Z Z Z (by omega) (q := op.toNat) (by omega)) Z<|.yv (.loadM (k := op.toNat) (v := strV (wordF op)) Z Fx.agg9 G.words (by omega) (by show _ = some (strV (fwords.getD op.toNat []));exact list_at (by show op.toNat < 19;omega) [])) Z<|.a Z Z<|.nt<|.sq<|.sr<|.yv (.fieldAddr Z Fx.field35_0) Z<|.yv (.load Z Fx.agg31 (.head _) Z) Z<|.nt<|.bk<|.sr<|.yv (.eql Z Z) Z<|.a Z Z<|.nt<|.cd Z (fun h15 => ?_) (fun h15 => ?_)
 ·have q3 : op = 3 := UInt8.toNat_inj.1 (by have := of_decide_eq_true h15;show op.toNat = 3;omega);obtain ⟨op0,nm0,m0,args0,he,ho0,hla,hta⟩ := form_ex3 hF q3;have h0 : 0 < args0.length := by omega
  have h1 : 1 < args0.length := by omega
  rw [fx3 q3 he h0 h1] at hl;simp only [List.length_append,List.length_cons,List.length_nil] at hl;subst he;obtain ⟨bX,oX,cX,hpX,rX,lX,mX⟩ := hs1.elem (i := 0) (d := dEx .u8 (.mk op0 nm0 m0 args0)) rfl;cases hpX;obtain ⟨p0,c0,rfl,hs0,hn0⟩ := ex_open rX;have hcap0 := hs0.cap;obtain ⟨bA,oA,cA,hpA,rA,lA,mA⟩ := hs0.elem (map_at (f := dEx .u8) h0);cases hpA;obtain ⟨bB,oB,cB,hpB,rB,lB,mB⟩ := hs0.elem (map_at (f := dEx .u8) h1);cases hpB;have psy := symT_len op0;refine .sr<|.yv (.fieldAddr Z Fx.field35_5) Z<|.yv (.load Z Fx.agg32 (.head _) Z) Z<|.yv (.indexSl Fx.sl32 Z Z (i := 0) Z (by first | omega | exact Nat.succ_pos _) (q := oX + 0 * 4) Z) Z<|.yv (.loadMW Z Fx.agg76 mX Z) Z<|.al Fx.zero76 Z fun b4 => .sW .head Z Z Fx.size76 (by simp [Value.oneCell',strV]) Z<|.nt<|.sq<|.fl (trip := [(_,_,_),(_,_,_),(_,_,_),(_,_,_),(_,_,_),(_,_,_),(_,_,_),(_,_,_),(_,_,_),(_,_,_),(_,_,_),(_,_,_),(_,_,_),(_,_,_),(_,_,_),(_,_,_),(_,_,_),(_,_,_)]) 18 [(0,0),(1,0),(2,0),(3,0),(4,0),(5,0),(6,0),(7,0),(8,0),(9,0),(10,0),(11,0),(12,0),(13,0),(14,0),(15,0),(16,0),(17,0)] (by kernel_rfl) (by kernel_rfl) Z<|.yv (.fieldAddr Z Fx.field76_3) Z<|.yv (.load Z Fx.agg32 (.head _) Z) Z<|.yv (.indexSl Fx.sl32 Z Z (i := 0) Z (by first | omega | exact Nat.succ_pos _) (q := oA + 0 * 4) Z) Z<|.yv (.loadMW Z Fx.agg76 mA lA) Z<|.yv (.call Fx.call89 Z (fun W s => termText_any H G gq _ _ W rA (.inl (hta _ (List.getElem_mem h0))) (by omega) s.agr)) Z<|.yv (.app Z Z (by (try simp only [List.length_append,List.length_cons,List.length_nil]);omega)) Z<|.yv (.fieldAddr Z Fx.field76_0) Z<|.yv (.load Z Fx.agg74 (.head _) Z) Z<|.yv (.indexArr Fx.arr165 Z Z Z (by omega) (q := op0.toNat) (by omega)) Z<|.yv (.loadM (k := op0.toNat) (v := strV (symT op0)) Z Fx.agg9 G.syms (by omega) (by show _ = some (strV (fsyms.getD op0.toNat []));exact list_at (by show op0.toNat < 22;omega) [])) Z<|.yv (.app Z Z (by (try simp only [List.length_append,List.length_cons,List.length_nil]);omega)) Z<|.yv (.app Z Z (by (try simp only [List.length_append,List.length_cons,List.length_nil]);omega)) Z<|.yv (.fieldAddr Z Fx.field76_3) Z<|.yv (.load Z Fx.agg32 (.head _) Z) Z<|.yv (.indexSl Fx.sl32 Z Z (i := 1) Z (by first | omega | exact Nat.succ_pos _) (q := oA + 1 * 4) Z) Z<|.yv (.loadMW Z Fx.agg76 mB lB) Z<|.yv (.call Fx.call89 Z (fun W s => termText_any H G gq _ _ W rB (.inl (hta _ (List.getElem_mem h1))) (by omega) s.agr)) Z<|.yv (.app Z Z (by (try simp only [List.length_append,List.length_cons,List.length_nil]);omega)) Z<|.fn (tl := [_]) Z<|.a Z Z<|.nt<|.rt<|.bR<|.tR<|?_
  refine Sx.ret1 (.inl rfl) rfl (.tmp rfl) fun W s => ⟨?_,s.ext⟩
  first
   | (rw [fx3 q3 rfl h0 h1];rfl)
   | (rw [fx4 q4];rfl)
   | (rw [fx5 q5 rfl];rfl)
   | (rw [fx6 q6];rfl)
   | (rw [fx7 q7];rfl)
   | (rw [fxu qU h0];rfl)
   | (rw [fxq qQ h0];rfl)
   | (rw [fx18 q18 rfl h0];rfl)
   | (rw [fxb qB h0 h1];rfl)
   | (rw [fxn q3 q4 q5 q6 q7 qU qQ q18 qB])
 have q3 : ¬ op = 3 := fun e => of_decide_eq_false h15 (by rw [e];rfl);refine .sr<|.yv (.eql Z Z) Z<|.a Z Z<|.nt<|.cd Z (fun h39 => ?_) (fun h39 => ?_)
 ·have q4 : op = 4 := UInt8.toNat_inj.1 (by have := of_decide_eq_true h39;show op.toNat = 4;omega);refine .sr<|.yv (.fieldAddr Z Fx.field35_1) Z<|.yv (.load Z Fx.agg9 (.head _) Z) Z<|.yv (.app Z Z (by (try simp only [List.length_append,List.length_cons,List.length_nil]);omega)) Z<|.yv (.fieldAddr Z Fx.field35_2) Z<|.yv (.load Z Fx.agg9 (.head _) Z) Z<|.yv (.app Z Z (by (try simp only [List.length_append,List.length_cons,List.length_nil]);omega)) Z<|.a Z Z<|.nt<|.rt<|.bR<|.tR<|?_
  refine Sx.ret1 (.inl rfl) rfl (.tmp rfl) fun W s => ⟨?_,s.ext⟩
  first
   | (rw [fx3 q3 rfl h0 h1];rfl)
   | (rw [fx4 q4];rfl)
   | (rw [fx5 q5 rfl];rfl)
   | (rw [fx6 q6];rfl)
   | (rw [fx7 q7];rfl)
   | (rw [fxu qU h0];rfl)
   | (rw [fxq qQ h0];rfl)
   | (rw [fx18 q18 rfl h0];rfl)
   | (rw [fxb qB h0 h1];rfl)
   | (rw [fxn q3 q4 q5 q6 q7 qU qQ q18 qB])
 have q4 : ¬ op = 4 := fun e => of_decide_eq_false h39 (by rw [e];rfl);refine .sr<|.yv (.eql Z Z) Z<|.a Z Z<|.nt<|.cd Z (fun h47 => ?_) (fun h47 => ?_)
 ·have q5 : op = 5 := UInt8.toNat_inj.1 (by have := of_decide_eq_true h47;show op.toNat = 5;omega);obtain ⟨e0,he,hte⟩ := form_ex1 hF (.inl q5);rw [fx5 q5 he] at hl;simp only [List.length_append,List.length_cons,List.length_nil] at hl;subst he;obtain ⟨bX,oX,cX,hpX,rX,lX,mX⟩ := hs1.elem (i := 0) (d := dEx .u8 e0) rfl;cases hpX

  refine .sq<|.fl (trip := [(_,_,_),(_,_,_),(_,_,_),(_,_,_),(_,_,_),(_,_,_),(_,_,_),(_,_,_),(_,_,_),(_,_,_),(_,_,_),(_,_,_),(_,_,_),(_,_,_),(_,_,_),(_,_,_),(_,_,_)]) 17 [(0,0),(1,0),(2,0),(3,0),(4,0),(5,0),(6,0),(7,0),(8,0),(9,0),(10,0),(11,0),(12,0),(13,0),(14,0),(15,0),(16,0)] (by kernel_rfl) (by kernel_rfl) Z<|.m Z Z<|.yv (.app Z Z (by (try simp only [List.length_append,List.length_cons,List.length_nil]);omega)) Z<|.yv (.fieldAddr Z Fx.field35_1) Z<|.yv (.load Z Fx.agg9 (.head _) Z) Z<|.yv (.app Z Z (by (try simp only [List.length_append,List.length_cons,List.length_nil]);omega)) Z<|.yv (.app Z Z (by (try simp only [List.length_append,List.length_cons,List.length_nil]);omega)) Z<|.yv (.fieldAddr Z Fx.field35_2) Z<|.yv (.load Z Fx.agg9 (.head _) Z) Z<|.yv (.app Z Z (by (try simp only [List.length_append,List.length_cons,List.length_nil]);omega)) Z<|.yv (.app Z Z (by (try simp only [List.length_append,List.length_cons,List.length_nil]);omega)) Z<|.yv (.fieldAddr Z Fx.field35_5) Z<|.yv (.load Z Fx.agg32 (.head _) Z) Z<|.yv (.indexSl Fx.sl32 Z Z (i := 0) Z (by first | omega | exact Nat.succ_pos _) (q := oX + 0 * 4) Z) Z<|.yv (.loadMW Z Fx.agg76 mX lX) Z<|.yv (.call Fx.call89 Z (fun W s => termText_any H G gq _ _ W rX (.inl hte) (by omega) s.agr)) Z<|.yv (.app Z Z (by (try simp only [List.length_append,List.length_cons,List.length_nil]);omega)) Z<|.yv (.app Z Z (by (try simp only [List.length_append,List.length_cons,List.length_nil]);omega)) Z<|.fn (tl := [_]) Z<|.a Z Z<|.nt<|.rt<|.bR<|.tR<|?_
  refine Sx.ret1 (.inl rfl) rfl (.tmp rfl) fun W s => ⟨?_,s.ext⟩
  first
   | (rw [fx3 q3 rfl h0 h1];rfl)
   | (rw [fx4 q4];rfl)
   | (rw [fx5 q5 rfl];rfl)
   | (rw [fx6 q6];rfl)
   | (rw [fx7 q7];rfl)
   | (rw [fxu qU h0];rfl)
   | (rw [fxq qQ h0];rfl)
   | (rw [fx18 q18 rfl h0];rfl)
   | (rw [fxb qB h0 h1];rfl)
   | (rw [fxn q3 q4 q5 q6 q7 qU qQ q18 qB])
 have q5 : ¬ op = 5 := fun e => of_decide_eq_false h47 (by rw [e];rfl);refine .sr<|.yv (.eql Z Z) Z<|.a Z Z<|.nt<|.cd Z (fun h66 => ?_) (fun h66 => ?_)
 ·have q6 : op = 6 := UInt8.toNat_inj.1 (by have := of_decide_eq_true h66;show op.toNat = 6;omega);refine .sr<|.m Z Z<|.yv (.app Z Z (by (try simp only [List.length_append,List.length_cons,List.length_nil]);omega)) Z<|.yv (.fieldAddr Z Fx.field35_1) Z<|.yv (.load Z Fx.agg9 (.head _) Z) Z<|.yv (.app Z Z (by (try simp only [List.length_append,List.length_cons,List.length_nil]);omega)) Z<|.a Z Z<|.nt<|.rt<|.bR<|.tR<|?_
  refine Sx.ret1 (.inl rfl) rfl (.tmp rfl) fun W s => ⟨?_,s.ext⟩
  first
   | (rw [fx3 q3 rfl h0 h1];rfl)
   | (rw [fx4 q4];rfl)
   | (rw [fx5 q5 rfl];rfl)
   | (rw [fx6 q6];rfl)
   | (rw [fx7 q7];rfl)
   | (rw [fxu qU h0];rfl)
   | (rw [fxq qQ h0];rfl)
   | (rw [fx18 q18 rfl h0];rfl)
   | (rw [fxb qB h0 h1];rfl)
   | (rw [fxn q3 q4 q5 q6 q7 qU qQ q18 qB])
 have q6 : ¬ op = 6 := fun e => of_decide_eq_false h66 (by rw [e];rfl);refine .sr<|.yv (.eql Z Z) Z<|.a Z Z<|.nt<|.cd Z (fun h73 => ?_) (fun h73 => ?_)
 ·have q7 : op = 7 := UInt8.toNat_inj.1 (by have := of_decide_eq_true h73;show op.toNat = 7;omega);obtain ⟨hle,hte⟩ := form_ex7 hF q7;rw [fx7 q7] at hl;simp only [List.length_append,List.length_cons,List.length_nil] at hl

  refine .sq<|?_
  refine Sx.row0 9 1 ?_;refine .rg<|.a Z Z<|.nt<|.sq<|.sr<|.yv (.fieldAddr Z Fx.field35_5) Z<|.yv (.load Z Fx.agg32 (.tail _<|.head _) Z) Z<|.yv (.lenSl Fx.sl32 Z) Z<|.m Z Z<|.nt<|.bk<|.lp (X := Nat × Value × List Value) [(1,_),(3,_),(76,_),(77,_)] ⟨rfl,rfl,rfl,rfl,trivial⟩ [_] (fun z => [(5,z.2.1),(78,.int .i64 (z.1 : Nat))]) (fun z => H) (fun z => [.row 9 1 z.2.1 z.1 z.2.2]) (fun z => z.1 ≤ ex.length ∧ z.2.2 = ((ex.take z.1).map tmT).map strV) (fun z => ex.length - z.1) (0,.slice none 0 0,[]) (fun _ s => s) ⟨rfl,rfl,trivial⟩ ⟨Nat.zero_le _,rfl⟩ fun z hC => ?_
  obtain ⟨k,rv,xs⟩ := z;obtain ⟨hk0,hxs⟩ := hC;dsimp only at hk0 hxs ⊢;subst hxs;refine .sr<|.yv (.lss Z Z) Z<|.nt<|.sq<|.cd Z (fun h79 => ?_) (fun h79 => ?_)
  ·try simp only [dt] at h79
   have hk : k < ex.length := by omega
   obtain ⟨bX,oX,cX,hpX,rX,lX,mX⟩ := hs1.elem (map_at (f := dEx .u8) hk);cases hpX;have hj := joi_ge ([44,32] : Str) (ex.map tmT) (tmT ex[k]) (List.mem_map.2 ⟨_,List.getElem_mem hk,rfl⟩);exact .sk<|.tN<|.sq<|.bk<|.sr<|.yv (.indexSl Fx.sl32 Z Z (i := k) Z hk (q := oX + k * 4) Z) Z<|.yv (.loadMW Z Fx.agg76 mX lX) Z<|.al Fx.zero76 Z fun b7 => .sV .head Z Z Fx.size76 lX rX.one Z<|.nt<|.rg<|.m Z Z<|.yv (.loadW Z Fx.agg76 (.head _) lX) Z<|.yv (.call Fx.call89 Z (fun W s => termText_any H G gq _ _ W rX (hte _ (List.getElem_mem hk)) (by omega) s.agr)) Z<|.bl Z (Fx.bsl71_1 _) Z fun b85 => .ap (news := [strV (tmT ex[k])]) Fx.row71 Z (fun _ => (.tail<|.tail<|.head)) Z (.box (.head _) z0) Z (by simp [Value.oneCell',strV]) (by simp [maxLen];omega) (by omega) Z fun r86 _ => .a Z Z<|.nl<|.bN<|.tN<|.rg<|.yv (.add Z Z (w6 (by omega))) Z<|.m Z Z<|.nt<|.ag (x := (k,rv,((ex.take k).map tmT).map strV)) (k + 1,r86,(((ex.take k).map tmT).map strV) ++ [strV (tmT ex[k])]) ⟨rfl,rfl,trivial⟩ ⟨rfl,rfl,rfl,rfl,trivial⟩ (fun _ s => s.pick [2,3] [_,_] Z Z) ⟨hk,by rw [take_snocE hk,List.map_append,List.map_append];rfl⟩ (by omega)
  try simp only [df] at h79
  obtain rfl : k = ex.length := by omega
  rw [List.take_length];refine .ex<|.tE<|.tE<|.bE<|.tN<|.sq<|.fl (trip := [(_,_,_),(_,_,_),(_,_,_),(_,_,_),(_,_,_),(_,_,_),(_,_,_),(_,_,_),(_,_,_),(_,_,_),(_,_,_),(_,_,_),(_,_,_),(_,_,_)]) 14 [(0,0),(1,0),(2,0),(3,0),(4,0),(5,0),(6,0),(7,0),(8,0),(9,0),(10,0),(11,0),(12,0),(13,0)] (by kernel_rfl) (by kernel_rfl) Z<|.m Z Z<|.yv (.app Z Z (by (try simp only [List.length_append,List.length_cons,List.length_nil]);omega)) Z<|.yv (.fieldAddr Z Fx.field35_1) Z<|.yv (.load Z Fx.agg9 (.tail _<|.head _) Z) Z<|.yv (.app Z Z (by (try simp only [List.length_append,List.length_cons,List.length_nil]);omega)) Z<|.yv (.app Z Z (by (try simp only [List.length_append,List.length_cons,List.length_nil]);omega)) Z<|.yv (.fieldAddr Z Fx.field35_2) Z<|.yv (.load Z Fx.agg9 (.tail _<|.head _) Z) Z<|.yv (.app Z Z (by (try simp only [List.length_append,List.length_cons,List.length_nil]);omega)) Z<|.yv (.app Z Z (by (try simp only [List.length_append,List.length_cons,List.length_nil]);omega)) Z<|.m Z Z<|.yv (.call Fx.call90 Z (fun W s => join_row (ex.map tmT) (List.length_map ..) s (.head _) (by rw [List.length_map];omega) (by omega))) Z<|.yv (.app Z Z (by (try simp only [List.length_append,List.length_cons,List.length_nil]);omega)) Z<|.yv (.app Z Z (by (try simp only [List.length_append,List.length_cons,List.length_nil]);omega)) Z<|.fn (tl := [_]) Z<|.a Z Z<|.nt<|.rt<|.bR<|.tR<|?_
  refine Sx.ret1 (.inl rfl) rfl (.tmp rfl) fun W s => ⟨?_,s.ext⟩
  first
   | (rw [fx3 q3 rfl h0 h1];rfl)
   | (rw [fx4 q4];rfl)
   | (rw [fx5 q5 rfl];rfl)
   | (rw [fx6 q6];rfl)
   | (rw [fx7 q7];rfl)
   | (rw [fxu qU h0];rfl)
   | (rw [fxq qQ h0];rfl)
   | (rw [fx18 q18 rfl h0];rfl)
   | (rw [fxb qB h0 h1];rfl)
   | (rw [fxn q3 q4 q5 q6 q7 qU qQ q18 qB])
 have q7 : ¬ op = 7 := fun e => of_decide_eq_false h73 (by rw [e];rfl);refine .cu (X := Bool) [(1,_),(3,_),(14,_)] ⟨rfl,rfl,rfl,trivial⟩ (fun z => [(102,.bool z)]) (fun z => H) (fun z => [.box b1 [.int .u8 op.toNat,strV nm,strV fd,.int .i64 a.toInt,.int .i64 b.toInt,.slice p1 ex.length c1,.slice p2 args.length c2] 35]) (fun z => z = decide (op = 8 ∨ op = 12 ∨ op = 13 ∨ op = 14)) ?_ fun z hC => ?_
 ·
  refine .sr<|.yv (.eql Z Z) Z<|.a Z Z<|.nt<|.cr Z (fun h102 => ?_) (fun h102 => ?_)
  ·have qu : op = 8 := UInt8.toNat_inj.1 (by have := of_decide_eq_true h102;show op.toNat = 8;omega);exact .sk<|.tN<|.me _ ⟨rfl,trivial⟩ ⟨rfl,rfl,rfl,trivial⟩ (fun _ s => s) (by first | (rw [qu];rfl) | (simp only [qu8,qu12,qu13,false_or];exact k8 (m := 14) (by decide)))
  have qu8 : ¬ op = 8 := fun e => of_decide_eq_false h102 (by rw [e];rfl);refine .sr<|.yv (.eql Z Z) Z<|.a Z Z<|.nt<|.cr Z (fun h102 => ?_) (fun h102 => ?_)
  ·have qu : op = 12 := UInt8.toNat_inj.1 (by have := of_decide_eq_true h102;show op.toNat = 12;omega);exact .sk<|.tN<|.me _ ⟨rfl,trivial⟩ ⟨rfl,rfl,rfl,trivial⟩ (fun _ s => s) (by first | (rw [qu];rfl) | (simp only [qu8,qu12,qu13,false_or];exact k8 (m := 14) (by decide)))
  have qu12 : ¬ op = 12 := fun e => of_decide_eq_false h102 (by rw [e];rfl);refine .sr<|.yv (.eql Z Z) Z<|.a Z Z<|.nt<|.cr Z (fun h102 => ?_) (fun h102 => ?_)
  ·have qu : op = 13 := UInt8.toNat_inj.1 (by have := of_decide_eq_true h102;show op.toNat = 13;omega);exact .sk<|.tN<|.me _ ⟨rfl,trivial⟩ ⟨rfl,rfl,rfl,trivial⟩ (fun _ s => s) (by first | (rw [qu];rfl) | (simp only [qu8,qu12,qu13,false_or];exact k8 (m := 14) (by decide)))
  have qu13 : ¬ op = 13 := fun e => of_decide_eq_false h102 (by rw [e];rfl);exact .rg<|.yv (.eql Z Z) Z<|.a Z Z<|.nt<|.me _ ⟨rfl,trivial⟩ ⟨rfl,rfl,rfl,trivial⟩ (fun _ s => s) (by first | (rw [qu];rfl) | (simp only [qu8,qu12,qu13,false_or];exact k8 (m := 14) (by decide)))
 have eqU := hC;refine .cr Z (fun h102 => ?_) (fun h102 => ?_)
 ·have qU : (op = 8 ∨ op = 12 ∨ op = 13 ∨ op = 14) := by rw [h102] at eqU;exact of_decide_eq_true eqU.symm
  have har := (form_parts hF).2.1;rw [ar1 ((by rcases qU with h | h | h | h <;> simp [h]))] at har;have h0 : 0 < args.length := by omega
  have hok0 := hG _ (List.getElem_mem h0);rw [fxu qU h0] at hl;simp only [List.length_append,List.length_cons,List.length_nil] at hl;have pl := pfW_len 5 args[0]

  refine .sq<|.fl (trip := [(_,_,_),(_,_,_),(_,_,_),(_,_,_),(_,_,_),(_,_,_),(_,_,_),(_,_,_)]) 8 [(0,0),(1,0),(2,0),(3,0),(4,0),(5,0),(6,0),(7,0)] (by kernel_rfl) (by kernel_rfl) Z<|.m Z Z<|.yv (.loadW Z Fx.agg35 (.head _) Z) Z<|.yv (.call Fx.call91 Z (fun W s => window_any H G gq _ _ W h s.agr)) Z<|.yv (.app Z Z (by (try simp only [List.length_append,List.length_cons,List.length_nil]);omega)) Z<|.yv (.app Z Z (by (try simp only [List.length_append,List.length_cons,List.length_nil]);omega)) Z<|.yv (.loadW Z Fx.agg35 (.head _) Z) Z<|.yv (.call Fx.call92 Z (fun W s => foperand_any H G 0 5 h0 (ih _ (List.getElem_mem h0)) _ W h hok0 (by omega) s.agr)) Z<|.yv (.app Z Z (by (try simp only [List.length_append,List.length_cons,List.length_nil]);omega)) Z<|.fn (tl := [_]) Z<|.a Z Z<|.nt<|.rt<|.bR<|.tR<|?_
  refine Sx.ret1 (.inl rfl) rfl (.tmp rfl) fun W s => ⟨?_,s.ext⟩
  first
   | (rw [fx3 q3 rfl h0 h1];rfl)
   | (rw [fx4 q4];rfl)
   | (rw [fx5 q5 rfl];rfl)
   | (rw [fx6 q6];rfl)
   | (rw [fx7 q7];rfl)
   | (rw [fxu qU h0];rfl)
   | (rw [fxq qQ h0];rfl)
   | (rw [fx18 q18 rfl h0];rfl)
   | (rw [fxb qB h0 h1];rfl)
   | (rw [fxn q3 q4 q5 q6 q7 qU qQ q18 qB])
 have qU : ¬ (op = 8 ∨ op = 12 ∨ op = 13 ∨ op = 14) := by rw [h102] at eqU;exact of_decide_eq_false eqU.symm
 refine .cu (X := Bool) [(1,_),(3,_),(14,_)] ⟨rfl,rfl,rfl,trivial⟩ (fun z => [(115,.bool z)]) (fun z => H) (fun z => [.box b1 [.int .u8 op.toNat,strV nm,strV fd,.int .i64 a.toInt,.int .i64 b.toInt,.slice p1 ex.length c1,.slice p2 args.length c2] 35]) (fun z => z = decide (op = 16 ∨ op = 17)) ?_ fun z hC => ?_
 ·
  refine .sr<|.yv (.eql Z Z) Z<|.a Z Z<|.nt<|.cr Z (fun h115 => ?_) (fun h115 => ?_)
  ·have qq : op = 16 := UInt8.toNat_inj.1 (by have := of_decide_eq_true h115;show op.toNat = 16;omega);exact .sk<|.tN<|.me _ ⟨rfl,trivial⟩ ⟨rfl,rfl,rfl,trivial⟩ (fun _ s => s) (by first | (rw [qq];rfl) | (simp only [qq16,false_or];exact k8 (m := 17) (by decide)))
  have qq16 : ¬ op = 16 := fun e => of_decide_eq_false h115 (by rw [e];rfl);exact .rg<|.yv (.eql Z Z) Z<|.a Z Z<|.nt<|.me _ ⟨rfl,trivial⟩ ⟨rfl,rfl,rfl,trivial⟩ (fun _ s => s) (by first | (rw [qq];rfl) | (simp only [qq16,false_or];exact k8 (m := 17) (by decide)))
 have eqQ := hC;refine .cr Z (fun h115 => ?_) (fun h115 => ?_)
 ·have qQ : (op = 16 ∨ op = 17) := by rw [h115] at eqQ;exact of_decide_eq_true eqQ.symm
  have har := (form_parts hF).2.1;rw [ar1 ((by rcases qQ with h | h <;> simp [h]))] at har;have h0 : 0 < args.length := by omega
  have hok0 := hG _ (List.getElem_mem h0);rw [fxq qQ h0] at hl;simp only [List.length_append,List.length_cons,List.length_nil] at hl;have pl := pfW_len 5 args[0]

  refine .sq<|.fl (trip := [(_,_,_),(_,_,_),(_,_,_),(_,_,_),(_,_,_),(_,_,_),(_,_,_),(_,_,_)]) 8 [(0,0),(1,0),(2,0),(3,0),(4,0),(5,0),(6,0),(7,0)] (by kernel_rfl) (by kernel_rfl) Z<|.m Z Z<|.yv (.loadW Z Fx.agg35 (.head _) Z) Z<|.yv (.call Fx.call93 Z (fun W s => among_any H gq _ _ W h s.agr)) Z<|.yv (.app Z Z (by (try simp only [List.length_append,List.length_cons,List.length_nil]);omega)) Z<|.yv (.app Z Z (by (try simp only [List.length_append,List.length_cons,List.length_nil]);omega)) Z<|.yv (.loadW Z Fx.agg35 (.head _) Z) Z<|.yv (.call Fx.call92 Z (fun W s => foperand_any H G 0 5 h0 (ih _ (List.getElem_mem h0)) _ W h hok0 (by omega) s.agr)) Z<|.yv (.app Z Z (by (try simp only [List.length_append,List.length_cons,List.length_nil]);omega)) Z<|.fn (tl := [_]) Z<|.a Z Z<|.nt<|.rt<|.bR<|.tR<|?_
  refine Sx.ret1 (.inl rfl) rfl (.tmp rfl) fun W s => ⟨?_,s.ext⟩
  first
   | (rw [fx3 q3 rfl h0 h1];rfl)
   | (rw [fx4 q4];rfl)
   | (rw [fx5 q5 rfl];rfl)
   | (rw [fx6 q6];rfl)
   | (rw [fx7 q7];rfl)
   | (rw [fxu qU h0];rfl)
   | (rw [fxq qQ h0];rfl)
   | (rw [fx18 q18 rfl h0];rfl)
   | (rw [fxb qB h0 h1];rfl)
   | (rw [fxn q3 q4 q5 q6 q7 qU qQ q18 qB])
 have qQ : ¬ (op = 16 ∨ op = 17) := by rw [h115] at eqQ;exact of_decide_eq_false eqQ.symm
 refine .sr<|.yv (.eql Z Z) Z<|.a Z Z<|.nt<|.cd Z (fun h126 => ?_) (fun h126 => ?_)
 ·have q18 : op = 18 := UInt8.toNat_inj.1 (by have := of_decide_eq_true h126;show op.toNat = 18;omega);obtain ⟨e0,he,hte⟩ := form_ex1 hF (.inr q18);have har := (form_parts hF).2.1;rw [ar1 ((by simp [q18]))] at har;have h0 : 0 < args.length := by omega
  have hok0 := hG _ (List.getElem_mem h0);rw [fx18 q18 he h0] at hl;simp only [List.length_append,List.length_cons,List.length_nil] at hl;obtain ⟨bE,oE,cE,hpE,rE,lE,mE⟩ := hs2.elem (map_at (f := dFm .u8) h0);cases hpE;subst he;obtain ⟨bX,oX,cX,hpX,rX,lX,mX⟩ := hs1.elem (i := 0) (d := dEx .u8 e0) rfl;cases hpX

  refine .sq<|.fl (trip := [(_,_,_),(_,_,_),(_,_,_),(_,_,_),(_,_,_),(_,_,_),(_,_,_),(_,_,_),(_,_,_),(_,_,_),(_,_,_),(_,_,_),(_,_,_),(_,_,_),(_,_,_),(_,_,_),(_,_,_),(_,_,_)]) 18 [(0,0),(1,0),(2,0),(3,0),(4,0),(5,0),(6,0),(7,0),(8,0),(9,0),(10,0),(11,0),(12,0),(13,0),(14,0),(15,0),(16,0),(17,0)] (by kernel_rfl) (by kernel_rfl) Z<|.m Z Z<|.yv (.loadW Z Fx.agg35 (.head _) Z) Z<|.yv (.call Fx.call93 Z (fun W s => among_any H gq _ _ W h s.agr)) Z<|.yv (.app Z Z (by (try simp only [List.length_append,List.length_cons,List.length_nil]);omega)) Z<|.yv (.app Z Z (by (try simp only [List.length_append,List.length_cons,List.length_nil]);omega)) Z<|.yv (.fieldAddr Z Fx.field35_6) Z<|.yv (.load Z Fx.agg33 (.head _) Z) Z<|.yv (.indexSl Fx.sl33 Z Z (i := 0) Z (by omega) (q := oE + 0 * 7) Z) Z<|.yv (.loadMW Z Fx.agg35 mE lE) Z<|.yv (.call Fx.call48 Z (fun W s => ih _ (List.getElem_mem h0) _ W rE hok0 (by omega) s.agr)) Z<|.yv (.app Z Z (by (try simp only [List.length_append,List.length_cons,List.length_nil]);omega)) Z<|.yv (.app Z Z (by (try simp only [List.length_append,List.length_cons,List.length_nil]);omega)) Z<|.yv (.fieldAddr Z Fx.field35_5) Z<|.yv (.load Z Fx.agg32 (.head _) Z) Z<|.yv (.indexSl Fx.sl32 Z Z (i := 0) Z (by first | omega | exact Nat.succ_pos _) (q := oX + 0 * 4) Z) Z<|.yv (.loadMW Z Fx.agg76 mX lX) Z<|.yv (.call Fx.call89 Z (fun W s => termText_any H G gq _ _ W rX (.inl hte) (by omega) s.agr)) Z<|.yv (.app Z Z (by (try simp only [List.length_append,List.length_cons,List.length_nil]);omega)) Z<|.fn (tl := [_]) Z<|.a Z Z<|.nt<|.rt<|.bR<|.tR<|?_
  refine Sx.ret1 (.inl rfl) rfl (.tmp rfl) fun W s => ⟨?_,s.ext⟩
  first
   | (rw [fx3 q3 rfl h0 h1];rfl)
   | (rw [fx4 q4];rfl)
   | (rw [fx5 q5 rfl];rfl)
   | (rw [fx6 q6];rfl)
   | (rw [fx7 q7];rfl)
   | (rw [fxu qU h0];rfl)
   | (rw [fxq qQ h0];rfl)
   | (rw [fx18 q18 rfl h0];rfl)
   | (rw [fxb qB h0 h1];rfl)
   | (rw [fxn q3 q4 q5 q6 q7 qU qQ q18 qB])
 have q18 : ¬ op = 18 := fun e => of_decide_eq_false h126 (by rw [e];rfl);refine .cu (X := Bool) [(1,_),(3,_)] ⟨rfl,rfl,trivial⟩ (fun z => [(146,.bool z)]) (fun z => H) (fun z => [.box b1 [.int .u8 op.toNat,strV nm,strV fd,.int .i64 a.toInt,.int .i64 b.toInt,.slice p1 ex.length c1,.slice p2 args.length c2] 35]) (fun z => z = decide (op = 15 ∨ op = 9 ∨ op = 10 ∨ op = 11)) ?_ fun z hC => ?_
 ·
  refine .sr<|.yv (.eql Z Z) Z<|.a Z Z<|.nt<|.cr Z (fun h146 => ?_) (fun h146 => ?_)
  ·have qb : op = 15 := UInt8.toNat_inj.1 (by have := of_decide_eq_true h146;show op.toNat = 15;omega);exact .sk<|.tN<|.me _ ⟨rfl,trivial⟩ ⟨rfl,rfl,trivial⟩ (fun _ s => s) (by first | (rw [qb];rfl) | (simp only [qb15,qb9,qb10,false_or];exact k8 (m := 11) (by decide)))
  have qb15 : ¬ op = 15 := fun e => of_decide_eq_false h146 (by rw [e];rfl);refine .sr<|.yv (.eql Z Z) Z<|.a Z Z<|.nt<|.cr Z (fun h146 => ?_) (fun h146 => ?_)
  ·have qb : op = 9 := UInt8.toNat_inj.1 (by have := of_decide_eq_true h146;show op.toNat = 9;omega);exact .sk<|.tN<|.me _ ⟨rfl,trivial⟩ ⟨rfl,rfl,trivial⟩ (fun _ s => s) (by first | (rw [qb];rfl) | (simp only [qb15,qb9,qb10,false_or];exact k8 (m := 11) (by decide)))
  have qb9 : ¬ op = 9 := fun e => of_decide_eq_false h146 (by rw [e];rfl);refine .sr<|.yv (.eql Z Z) Z<|.a Z Z<|.nt<|.cr Z (fun h146 => ?_) (fun h146 => ?_)
  ·have qb : op = 10 := UInt8.toNat_inj.1 (by have := of_decide_eq_true h146;show op.toNat = 10;omega);exact .sk<|.tN<|.me _ ⟨rfl,trivial⟩ ⟨rfl,rfl,trivial⟩ (fun _ s => s) (by first | (rw [qb];rfl) | (simp only [qb15,qb9,qb10,false_or];exact k8 (m := 11) (by decide)))
  have qb10 : ¬ op = 10 := fun e => of_decide_eq_false h146 (by rw [e];rfl);exact .rg<|.yv (.eql Z Z) Z<|.a Z Z<|.nt<|.me _ ⟨rfl,trivial⟩ ⟨rfl,rfl,trivial⟩ (fun _ s => s) (by first | (rw [qb];rfl) | (simp only [qb15,qb9,qb10,false_or];exact k8 (m := 11) (by decide)))
 have eqB := hC;refine .cr Z (fun h146 => ?_) (fun h146 => ?_)
 ·have qB : (op = 15 ∨ op = 9 ∨ op = 10 ∨ op = 11) := by rw [h146] at eqB;exact of_decide_eq_true eqB.symm
  have har := (form_parts hF).2.1;rw [ar2 qB] at har;have h0 : 0 < args.length := by omega
  have h1 : 1 < args.length := by omega
  have hok0 := hG _ (List.getElem_mem h0);have hok1 := hG _ (List.getElem_mem h1);rw [fxb qB h0 h1] at hl;simp only [List.length_append,List.length_cons,List.length_nil] at hl;have pl := pfW_len (fsOf op).lv args[0];have pl1 := pfW_len ((fsOf op).lv + 1) args[1];have hlv : (fsOf op).lv ≤ 4 := by rcases qB with rfl | rfl | rfl | rfl <;> decide
  refine .sr<|.yv (.fieldAddr Z Fx.field35_0) Z<|.yv (.load Z Fx.agg31 (.head _) Z) Z<|.yv (.call (v := .agg (fsC (fsOf op)).toArray) Fx.call74 Z (fun W s => fshape_any H G op W s.agr)) Z<|.yv (.fld Z (fld_s0 _)) Z<|.a Z Z<|.nt<|.sq<|.fl (trip := [(_,_,_),(_,_,_),(_,_,_),(_,_,_),(_,_,_),(_,_,_),(_,_,_),(_,_,_),(_,_,_),(_,_,_),(_,_,_),(_,_,_),(_,_,_),(_,_,_),(_,_,_)]) 15 [(0,0),(1,0),(2,0),(3,0),(4,0),(5,0),(6,0),(7,0),(8,0),(9,0),(10,0),(11,0),(12,0),(13,0),(14,0)] (by kernel_rfl) (by kernel_rfl) Z<|.yv (.loadW Z Fx.agg35 (.head _) Z) Z<|.m Z Z<|.yv (.call Fx.call92 Z (fun W s => foperand_any H G 0 (fsOf op).lv h0 (ih _ (List.getElem_mem h0)) _ W h hok0 (by omega) s.agr)) Z<|.yv (.app Z Z (by (try simp only [List.length_append,List.length_cons,List.length_nil]);omega)) Z<|.m Z Z<|.yv (.app Z Z (by (try simp only [List.length_append,List.length_cons,List.length_nil]);omega)) Z<|.yv (.loadW Z Fx.agg35 (.head _) Z) Z<|.yv (.call Fx.call91 Z (fun W s => window_any H G gq _ _ W h s.agr)) Z<|.yv (.app Z Z (by (try simp only [List.length_append,List.length_cons,List.length_nil]);omega)) Z<|.yv (.app Z Z (by (try simp only [List.length_append,List.length_cons,List.length_nil]);omega)) Z<|.yv (.loadW Z Fx.agg35 (.head _) Z) Z<|.m Z Z<|.yv (.add Z Z (c := (((fsOf op).lv + 1 : Nat) : Int)) (wu8 (by omega))) Z<|.yv (.call Fx.call92 Z (fun W s => foperand_any H G 1 ((fsOf op).lv + 1) h1 (ih _ (List.getElem_mem h1)) _ W h hok1 (by omega) s.agr)) Z<|.yv (.app Z Z (by (try simp only [List.length_append,List.length_cons,List.length_nil]);omega)) Z<|.fn (tl := [_]) Z<|.a Z Z<|.nt<|.rt<|.bR<|.tR<|?_
  refine Sx.ret1 (.inl rfl) rfl (.tmp rfl) fun W s => ⟨?_,s.ext⟩
  first
   | (rw [fx3 q3 rfl h0 h1];rfl)
   | (rw [fx4 q4];rfl)
   | (rw [fx5 q5 rfl];rfl)
   | (rw [fx6 q6];rfl)
   | (rw [fx7 q7];rfl)
   | (rw [fxu qU h0];rfl)
   | (rw [fxq qQ h0];rfl)
   | (rw [fx18 q18 rfl h0];rfl)
   | (rw [fxb qB h0 h1];rfl)
   | (rw [fxn q3 q4 q5 q6 q7 qU qQ q18 qB])
 have qB : ¬ (op = 15 ∨ op = 9 ∨ op = 10 ∨ op = 11) := by rw [h146] at eqB;exact of_decide_eq_false eqB.symm
 refine .sk<|.bN<|.tN<|.sr<|.m Z Z<|.a Z Z<|.nt<|.rt<|?_
 refine Sx.ret1 (.inl rfl) rfl (.tmp rfl) fun W s => ⟨?_,s.ext⟩
 first
  | (rw [fx3 q3 rfl h0 h1];rfl)
  | (rw [fx4 q4];rfl)
  | (rw [fx5 q5 rfl];rfl)
  | (rw [fx6 q6];rfl)
  | (rw [fx7 q7];rfl)
  | (rw [fxu qU h0];rfl)
  | (rw [fxq qQ h0];rfl)
  | (rw [fx18 q18 rfl h0];rfl)
  | (rw [fxb qB h0 h1];rfl)
  | (rw [fxn q3 q4 q5 q6 q7 qU qQ q18 qB])
theorem rep_nlE {H : Hp} {e : Ex} : ∀ {cs : List Value},Rep H (dEx .u8 e) cs → nlE e = true := by
 induction e using Ex.ind with | _ op nm n args ih
 intro cs h;obtain ⟨p,c,rfl,hs,hn⟩ := ex_open h;unfold nlE;rw [all_mk,alls_allE,Bool.and_eq_true,decide_eq_true_eq,List.all_eq_true];refine ⟨hn,fun a ha => ?_⟩;obtain ⟨i,hi,rfl⟩ := List.getElem_of_mem ha;obtain ⟨bE,oE,cE,hpE,rE,lE,mE⟩ := hs.elem (map_at (f := dEx .u8) hi);exact ih _ (List.getElem_mem hi) rE
theorem rep_nlF {H : Hp} {f : Fm} : ∀ {cs : List Value},Rep H (dFm .u8 f) cs → nlF f = true := by
 induction f using Fm.ind with | _ op nm fd a b ex args ih
 intro cs h;obtain ⟨p1,c1,p2,c2,rfl,hs1,hs2,hnm,hfd⟩ := fm_open h;unfold nlF;rw [fm_allL,Bool.and_eq_true,Bool.and_eq_true,Bool.and_eq_true,decide_eq_true_eq,decide_eq_true_eq,List.all_eq_true,List.all_eq_true];refine ⟨⟨⟨hnm,hfd⟩,fun e he => ?_⟩,fun g hg => ?_⟩
 ·obtain ⟨i,hi,rfl⟩ := List.getElem_of_mem he;obtain ⟨bE,oE,cE,hpE,rE,lE,mE⟩ := hs1.elem (map_at (f := dEx .u8) hi);exact rep_nlE rE
 ·obtain ⟨i,hi,rfl⟩ := List.getElem_of_mem hg;obtain ⟨bE,oE,cE,hpE,rE,lE,mE⟩ := hs2.elem (map_at (f := dFm .u8) hi);exact ih _ (List.getElem_mem hi) rE
theorem fck_ok {f : Fm} (h : fcheck f = 0) : f.count ≤ 60 ∧ Fm.all formB f = true := by
 unfold fcheck at h
 split at h
 ·cases h
 ·rename_i h1
  split at h
  ·cases h
  ·split at h
   ·cases h
   ·rename_i h3;exact ⟨Nat.le_of_not_lt fun e => h1 (.inl e),by simpa using h3⟩
set_option maxRecDepth 100000 in
theorem fText_any (H : Hp) (GL : Gl H) (G : Gf H) (gq : Gq H) (f : Fm) (hb : blF 600000 f = true) (cs : List Value) (w : World) (h : Rep H (dFm .u8 f) cs) (hA : Agr H w) : Calls Tryz.prog 19 #[.agg cs.toArray] w fun r w' => r = .returned (strV (textF f)) ∧ Ext w w' := by
 obtain ⟨op,nm,fd,a,b,ex,args⟩ := f;obtain ⟨p1,c1,p2,c2,rfl,hs1,hs2,hnm,hfd⟩ := fm_open h;refine Sx.enter (H := H) Tryz.func19 rfl Tryz.ntmps19 rfl hA ?_;refine .sr<|.bx Z Z Z fun b1 => .a Z Z<|.nt<|.sq<|.sr<|.yv (.loadW Z Fx.agg35 (.head _) Z) Z<|.yv (.call Fx.call15 Z (fun W s => fcheck_any H GL G (.mk op nm fd a b ex args) hb _ W h s.agr)) Z<|.yv (.neq Z Z) Z<|.nt<|.cd Z (fun h5 => ?_) (fun h5 => ?_)
 ·have hc : ¬ fcheck (.mk op nm fd a b ex args) = 0 := fun e => of_decide_eq_true h5 (by rw [e];rfl);refine .sr<|.a Z Z<|.nt<|.rt<|.tR<|?_
  refine Sx.ret1 (.inl rfl) rfl (.tmp rfl) fun W s => ⟨?_,s.ext⟩
  first
   | (unfold textF;rw [if_neg hc];rfl)
   | (unfold textF;rw [if_pos hc])
 have hc : fcheck (.mk op nm fd a b ex args) = 0 := by have := of_decide_eq_false h5;omega
 obtain ⟨hk,hF⟩ := fck_ok hc;refine .sk<|.tN<|.sr<|.yv (.loadW Z Fx.agg35 (.head _) Z) Z<|.yv (.call Fx.call48 Z (fun W s => ftext_any H G gq (.mk op nm fd a b ex args) _ W h hF (Nat.le_trans (fmT_len _ (rep_nlF h)) (by omega)) s.agr)) Z<|.a Z Z<|.nt<|.rt<|?_
 refine Sx.ret1 (.inl rfl) rfl (.tmp rfl) fun W s => ⟨?_,s.ext⟩
 first
  | (unfold textF;rw [if_neg hc];rfl)
  | (unfold textF;rw [if_pos hc])
theorem u8d (c k : UInt8) : decide (((c.toNat : Nat) : Int) = (k.toNat : Nat)) = decide (c = k) := by
 rw [Bool.eq_iff_iff,decide_eq_true_eq,decide_eq_true_eq];exact ⟨fun h => UInt8.toNat_inj.1 (by omega),fun h => by rw [h]⟩
set_option maxRecDepth 100000 in
theorem blank_any (c : UInt8) (w : World) : Calls Tryz.prog 147 #[byteV c] w fun r w' => r = .returned (.bool (blkB c)) ∧ Ext w w' := by
 refine Sx.enter (H := (⟨fun _ => none,0⟩ : Hp)) Tryz.func147 rfl Tryz.ntmps147 rfl ⟨fun _ _ e => (by cases e),Nat.zero_le _⟩ ?_;refine .sr<|.a Z Z<|.ns<|.m Z Z<|.yv (.cast (.eql Z Z) (congrArg Value.bool (u8d c 32))) Z<|.m Z Z<|.b2 (fun h5 => ?_) (fun h5 => ?_)
 ·skip
  refine .gF Z Z Z Z<|.gF Z Z Z Z<|.yv (.pickT Z Z) Z<|.m Z Z<|.gF Z Z Z Z<|.gF Z Z Z Z<|.yv (.pickT Z Z) Z<|.m Z Z<|.gF Z Z Z Z<|.gF Z Z Z Z<|.yv (.pickT Z Z) Z<|.a Z Z<|.nt<|.rt<|?_
  refine Sx.ret1 (.inl rfl) rfl (.tmp rfl) fun W s => ⟨?_,s.ext⟩
  first
   | (unfold blkB;rw [h5];rfl)
   | (unfold blkB;rw [h5,h9];rfl)
   | (unfold blkB;rw [h5,h9,h13];rfl)
 skip
 refine .gd Z Z<|.yv (.move Z) Z<|.gd Z Z<|.yv (.cast (.eql Z Z) (congrArg Value.bool (u8d c 9))) Z<|.yv (.pickF Z Z) Z<|.m Z Z<|.b2 (fun h9 => ?_) (fun h9 => ?_)
 ·skip
  refine .gF Z Z Z Z<|.gF Z Z Z Z<|.yv (.pickT Z Z) Z<|.m Z Z<|.gF Z Z Z Z<|.gF Z Z Z Z<|.yv (.pickT Z Z) Z<|.a Z Z<|.nt<|.rt<|?_
  refine Sx.ret1 (.inl rfl) rfl (.tmp rfl) fun W s => ⟨?_,s.ext⟩
  first
   | (unfold blkB;rw [h5];rfl)
   | (unfold blkB;rw [h5,h9];rfl)
   | (unfold blkB;rw [h5,h9,h13];rfl)
 skip
 refine .gd Z Z<|.yv (.move Z) Z<|.gd Z Z<|.yv (.cast (.eql Z Z) (congrArg Value.bool (u8d c 10))) Z<|.yv (.pickF Z Z) Z<|.m Z Z<|.b2 (fun h13 => ?_) (fun h13 => ?_)
 ·skip
  refine .gF Z Z Z Z<|.gF Z Z Z Z<|.yv (.pickT Z Z) Z<|.a Z Z<|.nt<|.rt<|?_
  refine Sx.ret1 (.inl rfl) rfl (.tmp rfl) fun W s => ⟨?_,s.ext⟩
  first
   | (unfold blkB;rw [h5];rfl)
   | (unfold blkB;rw [h5,h9];rfl)
   | (unfold blkB;rw [h5,h9,h13];rfl)
 skip
 refine .gd Z Z<|.yv (.move Z) Z<|.gd Z Z<|.yv (.cast (.eql Z Z) (congrArg Value.bool (u8d c 13))) Z<|.yv (.pickF Z Z) Z<|.a Z Z<|.nt<|.rt<|?_
 refine Sx.ret1 (.inl rfl) rfl (.tmp rfl) fun W s => ⟨?_,s.ext⟩
 first
  | (unfold blkB;rw [h5];rfl)
  | (unfold blkB;rw [h5,h9];rfl)
  | (unfold blkB;rw [h5,h9,h13];rfl)
def notNl (c : UInt8) : Bool := !decide (c = 10)
theorem u8n (c k : UInt8) : decide (¬ ((c.toNat : Nat) : Int) = (k.toNat : Nat)) = !decide (c = k) := by rw [← u8d,decide_not]
set_option maxRecDepth 100000 in
theorem skip1_any (c : UInt8) (w : World) : Calls Tryz.prog 149 #[byteV c] w fun r w' => r = .returned (.bool (notNl c)) ∧ Ext w w' := by
 refine Sx.enter (H := (⟨fun _ => none,0⟩ : Hp)) Tryz.func149 rfl Tryz.ntmps149 rfl ⟨fun _ _ e => (by cases e),Nat.zero_le _⟩ ?_;refine .sr<|.a Z Z<|.ns<|.m Z Z<|.yv (.cast (.neq Z Z) (congrArg Value.bool (u8n c 10))) Z<|.a Z Z<|.nt<|.rt<|?_
 exact Sx.ret1 (.inl rfl) rfl (.tmp rfl) fun W s => ⟨rfl,s.ext⟩
theorem pre_cons (q : UInt8 → Bool) (c : UInt8) (r : Str) : pre q (c :: r) = if q c then pre q r + 1 else 0 := by
 unfold pre;rw [List.takeWhile_cons]
 split <;> simp
theorem skip_b : ∀ (m : Str),skipS false (m.drop (pre blkB m)) = skipS false m
 | [] => rfl
 | c :: r => by
  rw [pre_cons]
  split
  ·rename_i h;rw [List.drop_succ_cons,skip_b r,skipS_blk h]
  ·rfl
theorem skip_c : ∀ (m : Str),skipS false (m.drop (pre notNl m)) = skipS true m
 | [] => by rw [List.drop_nil,skipS_nil,skipS_nil]
 | c :: r => by
  rw [pre_cons]
  split
  ·rename_i h;unfold notNl at h;rw [List.drop_succ_cons,skip_c r,skipS_com (by simpa using h)]
  ·rename_i h;have e : c = 10 := by unfold notNl at h;simpa using h
   subst e;rw [List.drop_zero,skipS_end]
theorem pre_hd (q : UInt8 → Bool) : ∀ (m : Str) (c : UInt8) (r : Str),m.drop (pre q m) = c :: r → q c = false
 | [],c,r,h => by cases h
 | x :: m,c,r,h => by
  rw [pre_cons] at h
  split at h
  ·exact pre_hd q m c r (by simpa using h)
  ·rename_i hx;rw [List.drop_zero] at h;injection h with h1 _
   subst h1;simpa using hx
theorem skip_two {m : Str} (h : hasP m [47,47] = true) : skipS false (m.drop (pre notNl m)) = skipS false m ∧ 1 ≤ pre notNl m := by
 rw [hasP_pre] at h;obtain ⟨r,rfl⟩ := List.isPrefixOf_iff_prefix.1 h;refine ⟨?_,?_⟩
 ·rw [skip_c];exact (skipS_two r).symm
 ·show 1 ≤ pre notNl (47 :: 47 :: r);rw [pre_cons,if_pos (by decide)];omega
theorem skip_stop {m : Str} (h : hasP (m.drop (pre blkB m)) [47,47] = false) : skipS false m = m.drop (pre blkB m) := by
 rw [← skip_b];cases e : m.drop (pre blkB m) with
 | nil => rw [skipS_nil]
 | cons c r =>
  refine skipS_stop (pre_hd _ _ _ _ e) ?_;rintro ⟨rfl,h2⟩;rw [e] at h;cases r with
  | nil => cases h2
  | cons d r =>
   obtain rfl : d = 47 := Option.some.inj h2;rw [hasP_pre] at h;rw [show ([47,47] : Str).isPrefixOf (47 :: 47 :: r) = true by simp [List.isPrefixOf]] at h;cases h
theorem skipN_at {t : Str} {o : Nat} (ho : o ≤ t.length) (h : skipS false t = t.drop o) : skipN t = o := by
 unfold skipN;rw [h,List.length_drop];omega
set_option maxRecDepth 100000 in
theorem lskip_any (t : Str) (hl : t.length ≤ 9223372036854775807) (w : World) : Calls Tryz.prog 96 #[strV t] w fun r w' => r = .returned (.int .i64 (skipN t : Nat)) ∧ Ext w w' := by
 refine Sx.enter (H := (⟨fun _ => none,0⟩ : Hp)) Tryz.func96 rfl Tryz.ntmps96 rfl ⟨fun _ _ e => (by cases e),Nat.zero_le _⟩ ?_;refine .sr<|.a Z Z<|.ns<|.a Z Z<|.nt<|.bk<|.lp (X := Nat) [(0,_)] ⟨rfl,trivial⟩ [] (fun o => [(3,.int .i64 (o : Nat))]) (fun o => (⟨fun _ => none,0⟩ : Hp)) (fun o => []) (fun o => o ≤ t.length ∧ skipS false (t.drop o) = skipS false t) (fun o => t.length - o) 0 (fun _ s => s) ⟨rfl,trivial⟩ ⟨Nat.zero_le _,rfl⟩ fun o hC => ?_
 obtain ⟨ho,hs⟩ := hC;have hp1 := pre_le blkB (t.drop o);rw [List.length_drop] at hp1;replace hp1 : (o + (pre blkB (t.drop o))) ≤ t.length := by omega
 refine .bk<|.sr<|.m Z Z<|.m Z Z<|.m Z Z<|.yv (.dropS Fx.str9 Z Z (lo := o) Z ho) Z<|.yv (.call Fx.call146 Z (fun W s => prefix_any 147 blkB Fx.call147 blank_any _ (by rw [List.length_drop];omega) W)) Z<|.yv (.add Z Z (c := (((o + (pre blkB (t.drop o))) : Nat) : Int)) ((w6 (by omega)).trans (by omega))) Z<|.a Z Z<|.nt<|.sq<|.sr<|.m Z Z<|.m Z Z<|.yv (.dropS Fx.str9 Z Z (lo := (o + (pre blkB (t.drop o)))) Z hp1) Z<|.yv (.call Fx.call148 Z (fun W s => hasPrefix_any _ [47,47] W)) Z<|.yv (.not Z) Z<|.nt<|.cd Z (fun h14 => ?_) (fun h14 => ?_)
 ·have hh : hasP (t.drop (o + (pre blkB (t.drop o)))) [47,47] = false := by simpa using h14
  refine .sr<|.m Z Z<|.a Z Z<|.nt<|.rt<|.tR<|.bR<|.tR<|.bR<|?_
  exact Sx.ret1 (.inl rfl) rfl (.tmp rfl) fun W s => ⟨by rw [skipN_at hp1 (by rw [← hs,← List.drop_drop];exact skip_stop (by rw [List.drop_drop];exact hh))],s.ext⟩
 have hh : hasP (t.drop (o + (pre blkB (t.drop o)))) [47,47] = true := by simpa using h14
 obtain ⟨hs2,hg2⟩ := skip_two hh;have hp2 := pre_le notNl (t.drop (o + (pre blkB (t.drop o))));rw [List.length_drop] at hp2;exact .sk<|.tN<|.rg<|.m Z Z<|.m Z Z<|.m Z Z<|.yv (.dropS Fx.str9 Z Z (lo := (o + (pre blkB (t.drop o)))) Z hp1) Z<|.yv (.call Fx.call146 Z (fun W s => prefix_any 149 notNl Fx.call149 skip1_any _ (by rw [List.length_drop];omega) W)) Z<|.yv (.add Z Z (c := (((o + (pre blkB (t.drop o))) + (pre notNl (t.drop (o + (pre blkB (t.drop o))))) : Nat) : Int)) ((w6 (by omega)).trans (by omega))) Z<|.a Z Z<|.nl<|.bN<|.tN<|.ag ((o + (pre blkB (t.drop o))) + (pre notNl (t.drop (o + (pre blkB (t.drop o)))))) ⟨rfl,trivial⟩ ⟨rfl,trivial⟩ (fun _ s => s) ⟨by omega,by rw [← List.drop_drop,hs2,← List.drop_drop,skip_b,hs]⟩ (by omega)
set_option maxRecDepth 100000 in
theorem lex_any (H : Hp) (t : Str) (w : World) (hA : Agr H w) : Calls Tryz.prog 54 #[strV t] w fun r w' => ∃ (b : Nat) (H' : Hp),MemAt H' b 0 [strV t] ∧ r = .returned (.func (.func 95) #[] #[.pointer (some ⟨b,0,none⟩)]) ∧ Grow H w H' w' := by
 refine Sx.enter (H := H) Tryz.func54 rfl Tryz.ntmps54 rfl hA ?_;refine .sr<|.bx Z Z Z fun b1 => .a Z Z<|.ns<|.yv (.mkF Z Z) Z<|.a Z Z<|.nt<|.rt<|?_
 refine Sx.freezeBox fun H1 u1 m1 => ?_;exact Sx.ret1 (.inl rfl) rfl (.tmp rfl) fun W s => ⟨b1,H1,m1,rfl,u1.grow s⟩
abbrev TkS := {x : Tk // x.t.length ≤ 1000000}
set_option maxRecDepth 100000 in
theorem lex_seq (H : Hp) (G : Gl H) (t : Str) (hl : t.length ≤ 1000000000000000000) (hs : ∀ x ∈ lexR t,x.t.length ≤ 1000000) (b : Nat) (hm : MemAt H b 0 [strV t]) (w : World) (hA : Agr H w) :
 SeqStopsK Fence.wide 8 Tryz.prog 95 #[.pointer (some ⟨b,0,none⟩)] (fun x : TkS => #[.agg (cTk .u8 x.1).toArray]) (KpH H) (fun xs => xs.map (·.1) = lexR t) (fun _ => True) (t.length + 1) w := by
 refine Sx.seqStops (lb := [.pointer (some ⟨b,0,none⟩)]) Tryz.func95 rfl Tryz.ntmps95 rfl (fun W hW => hA.ext hW) ?_;intro l Jg Jx W hJs hJxs hY hJ0;refine .sr<|.yv (.loadM Z Fx.agg9 hm (k := 0) Z Z) Z<|.yv (.call Fx.call96 Z (fun W s => lskip_any t (by omega) W)) Z<|.a Z Z<|.nt<|.bk<|.lj (X := Nat × List TkS) (fun z => [(0,.func (.yield l) #[] #[]),(1,.pointer (some ⟨b,0,none⟩)),(3,.int .i64 (z.1 : Nat))]) (fun z => Jg z.2) (fun z => z.1 ≤ t.length ∧ z.2.length ≤ z.1 ∧ z.2.map (·.1) ++ toks z.1 (t.drop z.1) = lexR t) (fun z => t.length - z.1) (skipN t,[]) ⟨skipN_le t,Nat.zero_le _,(lexR_toks t).symm⟩ ⟨rfl,rfl,rfl,trivial⟩ hJ0 fun z w1 hC hJ1 => ?_
 obtain ⟨o,pre1⟩ := z;obtain ⟨ho,hpl,htk⟩ := hC;dsimp only at ho hpl htk hJ1 ⊢;refine .sq<|.sr<|.m Z Z<|.yv (.loadM Z Fx.agg9 hm (k := 0) Z Z) Z<|.yv (.lenS Fx.str9 Z) Z<|.yv (.lss Z Z) Z<|.nt<|.cd Z (fun h11 => ?_) (fun h11 => ?_)
 ·try simp only [dt] at h11
  have hlt : o < t.length := by omega
  have hm0 : t.drop o ≠ [] := by intro e;have := congrArg List.length e;rw [List.length_drop] at this;simp at this;omega
  have hrk := readK_bnd hm0;rw [List.length_drop] at hrk;have hx5 : ((t.drop o).take (readK (t.drop o)).2).length ≤ 1000000 := hs ⟨(readK (t.drop o)).1,(t.drop o).take (readK (t.drop o)).2,o⟩ (by rw [← htk,toks_cons hm0];simp);refine .sk<|.tN<|.sq<|.bk<|.sr<|.yv (.loadM Z Fx.agg9 hm (k := 0) Z Z) Z<|.m Z Z<|.yv (.dropS Fx.str9 Z Z (lo := o) Z (by omega)) Z<|.yv (.call Fx.call97 Z (fun W s => read_any H G (t.drop o) (by rw [List.length_drop];omega) hm0 W s.agr)) Z<|.m Z Z<|.yv (.extract Z Z) Z<|.yv (.extract Z Z) Z<|.a Z Z<|.a Z Z<|.nt<|.sq<|.sq<|.rgW 8<|.mI Z Z<|.mI Z Z<|.yvI (.loadM Z Fx.agg9 hm (k := 0) Z Z) Z<|.mI Z Z<|.mI Z Z<|.mI Z Z<|.yvI (.add Z Z (c := ((o + (readK (t.drop o)).2 : Nat) : Int)) ((w6 (by omega)).trans (by omega))) Z<|.yvI (.cast (.midS Fx.str9 Z Z Z (lo := o) (hi := o + (readK (t.drop o)).2) Z Z (by omega) (by omega)) (by rw [List.drop_take,Nat.add_sub_cancel_left])) Z<|.mI Z Z<|.yvI (.build Z (Fx.bld108_0_1_2 _ _ _)) Z<|.yd Z Z Z (fun W s => hY pre1 ⟨⟨(readK (t.drop o)).1,(t.drop o).take (readK (t.drop o)).2,o⟩,hx5⟩ W (hJs _ _ _ hJ1 s.ext) (by omega)) (fun w2 hj2 => ?_) (fun w2 hj2 => ?_)
  ·have hsd := skipN_le ((t.drop o).drop (readK (t.drop o)).2);rw [List.length_drop,List.length_drop] at hsd;exact .yvI (.not Z) Z<|.nlI<|.tN<|.cF Z<|.sk<|.tN<|.rg<|.m Z Z<|.m Z Z<|.yv (.add Z Z (c := ((o + (readK (t.drop o)).2 : Nat) : Int)) ((w6 (by omega)).trans (by omega))) Z<|.a Z Z<|.nl<|.bN<|.tN<|.rg<|.m Z Z<|.yv (.loadM Z Fx.agg9 hm (k := 0) Z Z) Z<|.m Z Z<|.yv (.cast (.dropS Fx.str9 Z Z (lo := o + (readK (t.drop o)).2) Z (by omega)) (by rw [← List.drop_drop];rfl)) Z<|.yv (.call Fx.call96 Z (fun W s => lskip_any ((t.drop o).drop (readK (t.drop o)).2) (by rw [List.length_drop,List.length_drop];omega) W)) Z<|.yv (.add Z Z (c := ((o + (readK (t.drop o)).2 + skipN ((t.drop o).drop (readK (t.drop o)).2) : Nat) : Int)) ((w6 (by omega)).trans (by omega))) Z<|.a Z Z<|.nt<|.aj (x := (o,pre1)) (o + (readK (t.drop o)).2 + skipN ((t.drop o).drop (readK (t.drop o)).2),pre1 ++ [⟨⟨(readK (t.drop o)).1,(t.drop o).take (readK (t.drop o)).2,o⟩,hx5⟩]) ⟨by dsimp only;omega,by dsimp only;rw [List.length_append];simp;omega,by dsimp only;rw [← htk,List.map_append,List.append_assoc];congr 1;rw [toks_cons hm0,show (t.drop o).drop ((readK (t.drop o)).2 + skipN ((t.drop o).drop (readK (t.drop o)).2)) = t.drop (o + (readK (t.drop o)).2 + skipN ((t.drop o).drop (readK (t.drop o)).2)) by rw [Nat.add_assoc];exact List.drop_drop];rfl⟩ (by dsimp only;omega) hj2 ⟨rfl,rfl,rfl,trivial⟩
  refine .yvI (.not Z) Z<|.nlI<|.tN<|.cT Z<|.rt<|.tR<|.bR<|.tR<|.tR<|.bR<|?_
  refine Sx.retN (.inl rfl) rfl .nil rfl fun W s => ⟨⟨_,rfl⟩,.inr ⟨_,trivial,hJxs _ _ _ hj2 s.ext⟩⟩
 try simp only [df] at h11
 have hoe : o = t.length := by omega
 refine .ex<|.tE<|.tE<|.bE<|?_
 refine Sx.retN (.inr rfl) rfl .nil rfl fun W s => ⟨⟨_,rfl⟩,.inl ⟨pre1,?_,hJs _ _ _ hJ1 s.ext⟩⟩;rw [← htk,hoe,List.drop_length,toks_nil,List.append_nil]
theorem fld_sh0 (a b c d e f g : Value) : ∀ W,(Instr.field 157 (.agg [a,b,c,d,e,f,g].toArray) 0).run Tryz.prog W = .ok a W := fun _ => by kernel_rfl
set_option maxHeartbeats 1000000 in
set_option maxRecDepth 100000 in
theorem join_f {H : Hp} {w0 W : World} {bs : List Res} {b : Nat} {l : Tks} {tp : Option Addr} {tc : Nat} {ro rv : Value} {xo xv : List Value} {AR : List Res} {q : Rq} {op : List Ov} {x : Vb} {dn : Bool} (K : Tkf H l tp tc) (Wq : Fwf l ⟨q,op,x,true,dn⟩) (S : Sq H ⟨q,op,x,true,dn⟩ xo xv AR) (G : Gf H) (h0 : q.er = 0) (hw : q.wrd l = true) (s : St H w0 (.box b [.slice tp l.length tc,.int .i64 (q.i : Nat),ro,rv,.bool true,.bool dn,.bool x.2,.int .i64 (q.off : Nat),.int .i64 (q.er : Nat)] 102 :: .row 97 11 (ro) (op.length) (xo) :: .row 179 13 (rv) (x.1.length) (xv) :: (AR ++ bs)) W) :
 Calls Tryz.prog 101 #[.pointer (some ⟨b,0,none⟩)] W (Get w0 bs b l tp tc H (joiP l ⟨q,op,x,true,dn⟩)) := by
 have hq : q.i < l.length := Wq.i;have hcap := K.rep.cap;obtain ⟨hn1,hn2⟩ := wf_len Wq K.few;dsimp only at hn1 hn2;have hne : op ≠ [] := Wq.ne;refine Sx.enterS Tryz.func101 rfl Tryz.ntmps101 rfl s ?_;obtain ⟨o,r,rfl⟩ := list1 (l := op) (by cases op with | nil => exact (hne rfl).elim | cons a t => exact Nat.succ_pos _);dsimp only [List.length_cons] at hn1;obtain ⟨xr,s1,s2,e2,hlo,ho1,ho2⟩ := Ops.top S.ops;try dsimp only at e2
 subst e2;refine Sx.rowCase (size := 11) (r := ro) (e := 97) (.tail _<|.head _) (Nat.succ_pos _) fun g c e hkc => ?_;subst e;refine .sq<|.sr<|.m Z Z<|.cs (X := Unit) Fx.call105 Z (fun W s => top_f K hq (g := g) (k := r.length) (c := c) (by omega) (s.pickT (hd := [_,_,_]) (tl := (AR ++ bs)) (hd' := [_,_,_]) [0,1,2] Z Z)) Z fun _ _ => .yv (.nilCheck Z) Z<|.yv (.fieldAddr Z Fx.field97_2) Z<|.yv (.loadR1 Z Fx.agg4 (.tail _<|.head _) (app_at hlo Z)) Z<|.nt<|.cd Z (fun h8 => ?_) (fun h8 => ?_)
 ·skip
  refine .sr<|.m Z Z<|.cs (X := Unit) Fx.call104 Z (fun W s => fail_f K hq 8 (s.pickT (hd := [_,_,_]) (tl := (AR ++ bs)) (hd' := [_,_,_]) [0,1,2] Z Z)) Z fun _ _ => .nt<|.rt<|.tR<|?_
  refine Sx.retN (.inl rfl) rfl .nil rfl fun W s => ?_;have e0 : joiP l (⟨q,o :: r,x,true,dn⟩ : Ps) = (⟨q,o :: r,x,true,dn⟩ : Ps).at (q.fail l 8) := by unfold joiP;rw [if_pos (show (topO (⟨q,o :: r,x,true,dn⟩ : Ps)).tm = true from h8)]
  rw [e0];exact ⟨(_,_,_,_,_,AR),⟨.refl,⟨S.ops,S.vls⟩⟩,rfl,s.pickT (hd := [_,_,_]) (tl := (AR ++ bs)) (hd' := [_,_,_]) [0,1,2] rfl rfl⟩
 skip
 refine .sk<|.tN<|.sr<|.al Fx.zero35 Z fun b2 => .nt<|.sq<|.bk<|.sr<|.m Z Z<|.cs (X := Unit) Fx.call107 Z (fun W s => accept_f K hq [115,105,110,99,101] (s.pickT (hd := [_,_,_,_]) (tl := (AR ++ bs)) (hd' := [_,_,_,_]) [1,0,2,3] Z Z)) Z fun _ _ => .a Z Z<|.nt<|.cd Z (fun h11 => ?_) (fun h11 => ?_)
 ·have a11 : Rq.ac l [115,105,110,99,101] q = true := h11;rw [acF_T a11];refine .rg<|.m Z Z<|.cs (X := Unit) Fx.call154 Z (fun W s => window_f K (wi_ac K.gd.last hq a11) 15 (s.pickT (hd := [_,_,_,_]) (tl := (AR ++ bs)) (hd' := [_,_,_,_]) [0,1,2,3] Z Z)) Z fun _ _ => .sW (.tail<|.head) Z Z Fx.size35 (by simp [Value.oneCell',strV]) Z<|.nl<|.bN<|.tN<|.sr<|.yv (.fieldAddr Z Fx.field35_0) Z<|.yv (.load Z Fx.agg31 (.tail _<|.head _) Z) Z<|.yv (.call (v := .agg (fsC (fsOf 15)).toArray) Fx.call74 Z fun W s => fshape_any H G 15 W s.agr) Z<|.yv (.fld Z (fld_sh0 _ _ _ _ _ _ _)) Z<|.yv (.conv Z Fx.int5 Fx.int3 (c := ((4 : Nat) : Int)) (by decide +kernel)) Z<|?_
  have Wj : Fwf l ⟨(Rq.wiS l q.nx),o :: r,x,true,dn⟩ := wf_at (q := ⟨q,o :: r,x,true,dn⟩) (c := (Rq.wiS l q.nx)) Wq (wi_wi K.gd.last (wi_ac K.gd.last hq a11)) (Nat.le_trans (Nat.le_succ _) (Mq.wiS (q := q.nx)).i);refine .a Z Z<|.ns<|.m Z Z<|.m Z Z<|.cs (X := Hp × Value × Value × List Value × List Value × List Res) Fx.call102 Z (fun W s => reduce_f K Wj S.at 4 (by omega) (St.mid (a := [_,_,_]) (d := [_]) (s.pickT (hd := [_,_,_,_]) (tl := (AR ++ bs)) (hd' := [_,_,_,_]) [0,2,3,1] Z Z))) Z fun z9 hz9 => ?_
  obtain ⟨H1,ro,rv,xo,xv,AR⟩ := z9;obtain ⟨u1,S⟩ := hz9;dsimp only at u1 S ⊢;refine Sx.reSt (fun W s => St.mid (a := [_,_,_]) (d := AR) (c := [_]) s) ?_;obtain ⟨op7,x7,e7⟩ : ∃ op7 x7,redP 4 (⟨(Rq.wiS l q.nx),o :: r,x,true,dn⟩ : Ps) = ⟨(Rq.wiS l q.nx),op7,x7,true,dn⟩ := ⟨_,_,rfl⟩;rw [e7] at S ⊢;dsimp only at S ⊢;have W7 : Fwf l ⟨(Rq.wiS l q.nx),op7,x7,true,dn⟩ := by rw [← e7];exact wf_red (by omega) Wj rfl
  obtain ⟨hm1,hm2⟩ := wf_len W7 K.few;dsimp only at hm1 hm2;have hne7 : op7 ≠ [] := W7.ne;refine .nt<|.rg<|.m Z Z<|.m Z Z<|.yv (.loadW Z Fx.agg35 (.tail _<|.tail _<|.tail _<|.head _) Z) Z<|.yv (.build Z (Fx.bld97_0_1_4 _ _ _ _ _ _ _ _ _)) Z<|.cs (X := Option Addr × Nat) Fx.call109 Z (fun W s => push_f (K.up u1.up) (wi_wi K.gd.last (wi_ac K.gd.last hq a11)) (by simp [Value.oneCell',strV]) (Nat.le_trans hm1 (by decide)) (fun _ => S.ops.tm hne7) (s.pickT (hd := [_,_,_,_]) (tl := (AR ++ bs)) (hd' := [_,_,_,_]) [0,1,2,3] Z Z)) Z fun p9 _ => .nl<|?_
  refine Sx.retN (.inr rfl) rfl .nil rfl fun W s => ?_
  have e0 : joiP l (⟨q,o :: r,x,true,dn⟩ : Ps) = pushS ⟨6,4,false,0,q.jnF l 4⟩ (⟨(Rq.wiS l q.nx),op7,x7,true,dn⟩ : Ps) := by
   obtain ⟨j1,j2,j3,_,_⟩ := jn_lv (l := l) (r := q) (k := 4) (by decide) a11;unfold joiP;rw [if_neg (show ¬ (topO (⟨q,o :: r,x,true,dn⟩ : Ps)).tm = true by rw [show (topO (⟨q,o :: r,x,true,dn⟩ : Ps)).tm = false from h8];decide),j1,j2,j3,← e7]
   rfl
  rw [e0];exact ⟨(_,_,_,_,_,AR),⟨u1,⟨.cons S.ops (by show ¬ (6 : UInt8) = 5;decide) (FmR.zero rfl rfl (Nat.zero_le _) (Nat.zero_le _)),S.vls⟩⟩,rfl,s.pickT (hd := [_,_,_,_]) (tl := (AR ++ bs)) (hd' := [_,_,_]) [0,1,2] rfl rfl⟩
 have a11 : Rq.ac l [115,105,110,99,101] q = false := h11;rw [acF_F a11];refine .sr<|.m Z Z<|.cs (X := Unit) Fx.call107 Z (fun W s => accept_f K hq [97,110,100] (s.pickT (hd := [_,_,_,_]) (tl := (AR ++ bs)) (hd' := [_,_,_,_]) [0,1,2,3] Z Z)) Z fun _ _ => .a Z Z<|.nt<|.cd Z (fun h16 => ?_) (fun h16 => ?_)
 ·have a16 : Rq.ac l [97,110,100] q = true := h16;rw [acF_T a16];refine .rg<|.yv (.build Z (Fx.bld35_0 _)) Z<|.sW (.tail<|.head) Z Z Fx.size35 (by simp [Value.oneCell',strV]) Z<|.nl<|.bN<|.tN<|.sr<|.yv (.fieldAddr Z Fx.field35_0) Z<|.yv (.load Z Fx.agg31 (.tail _<|.head _) Z) Z<|.yv (.call (v := .agg (fsC (fsOf 9)).toArray) Fx.call74 Z fun W s => fshape_any H G 9 W s.agr) Z<|.yv (.fld Z (fld_sh0 _ _ _ _ _ _ _)) Z<|.yv (.conv Z Fx.int5 Fx.int3 (c := ((3 : Nat) : Int)) (by decide +kernel)) Z<|?_
  have Wj : Fwf l ⟨q.nx,o :: r,x,true,dn⟩ := wf_at (q := ⟨q,o :: r,x,true,dn⟩) (c := q.nx) Wq (wi_ac K.gd.last hq a16) (Nat.le_succ _);refine .a Z Z<|.ns<|.m Z Z<|.m Z Z<|.cs (X := Hp × Value × Value × List Value × List Value × List Res) Fx.call102 Z (fun W s => reduce_f K Wj S.at 3 (by omega) (St.mid (a := [_,_,_]) (d := [_]) (s.pickT (hd := [_,_,_,_]) (tl := (AR ++ bs)) (hd' := [_,_,_,_]) [0,2,3,1] Z Z))) Z fun z9 hz9 => ?_
  obtain ⟨H1,ro,rv,xo,xv,AR⟩ := z9;obtain ⟨u1,S⟩ := hz9;dsimp only at u1 S ⊢;refine Sx.reSt (fun W s => St.mid (a := [_,_,_]) (d := AR) (c := [_]) s) ?_;obtain ⟨op7,x7,e7⟩ : ∃ op7 x7,redP 3 (⟨q.nx,o :: r,x,true,dn⟩ : Ps) = ⟨q.nx,op7,x7,true,dn⟩ := ⟨_,_,rfl⟩;rw [e7] at S ⊢;dsimp only at S ⊢;have W7 : Fwf l ⟨q.nx,op7,x7,true,dn⟩ := by rw [← e7];exact wf_red (by omega) Wj rfl
  obtain ⟨hm1,hm2⟩ := wf_len W7 K.few;dsimp only at hm1 hm2;have hne7 : op7 ≠ [] := W7.ne;refine .nt<|.rg<|.m Z Z<|.m Z Z<|.yv (.loadW Z Fx.agg35 (.tail _<|.tail _<|.tail _<|.head _) Z) Z<|.yv (.build Z (Fx.bld97_0_1_4 _ _ _ _ _ _ _ _ _)) Z<|.cs (X := Option Addr × Nat) Fx.call109 Z (fun W s => push_f (K.up u1.up) (wi_ac K.gd.last hq a16) (by simp [Value.oneCell',strV]) (Nat.le_trans hm1 (by decide)) (fun _ => S.ops.tm hne7) (s.pickT (hd := [_,_,_,_]) (tl := (AR ++ bs)) (hd' := [_,_,_,_]) [0,1,2,3] Z Z)) Z fun p9 _ => .nl<|?_
  refine Sx.retN (.inr rfl) rfl .nil rfl fun W s => ?_
  have e0 : joiP l (⟨q,o :: r,x,true,dn⟩ : Ps) = pushS ⟨6,3,false,0,q.jnF l 3⟩ (⟨q.nx,op7,x7,true,dn⟩ : Ps) := by
   obtain ⟨j1,j2,j3,_,_⟩ := jn_lv (l := l) (r := q) (k := 3) (by decide) a16;unfold joiP;rw [if_neg (show ¬ (topO (⟨q,o :: r,x,true,dn⟩ : Ps)).tm = true by rw [show (topO (⟨q,o :: r,x,true,dn⟩ : Ps)).tm = false from h8];decide),j1,j2,j3,← e7]
   rfl
  rw [e0];exact ⟨(_,_,_,_,_,AR),⟨u1,⟨.cons S.ops (by show ¬ (6 : UInt8) = 5;decide) (FmR.zero rfl rfl (Nat.zero_le _) (Nat.zero_le _)),S.vls⟩⟩,rfl,s.pickT (hd := [_,_,_,_]) (tl := (AR ++ bs)) (hd' := [_,_,_]) [0,1,2] rfl rfl⟩
 have a16 : Rq.ac l [97,110,100] q = false := h16;rw [acF_F a16];refine .sr<|.m Z Z<|.cs (X := Unit) Fx.call107 Z (fun W s => accept_f K hq [111,114] (s.pickT (hd := [_,_,_,_]) (tl := (AR ++ bs)) (hd' := [_,_,_,_]) [0,1,2,3] Z Z)) Z fun _ _ => .a Z Z<|.nt<|.cd Z (fun h20 => ?_) (fun h20 => ?_)
 ·have a20 : Rq.ac l [111,114] q = true := h20;rw [acF_T a20];refine .rg<|.yv (.build Z (Fx.bld35_0 _)) Z<|.sW (.tail<|.head) Z Z Fx.size35 (by simp [Value.oneCell',strV]) Z<|.nl<|.bN<|.tN<|.sr<|.yv (.fieldAddr Z Fx.field35_0) Z<|.yv (.load Z Fx.agg31 (.tail _<|.head _) Z) Z<|.yv (.call (v := .agg (fsC (fsOf 10)).toArray) Fx.call74 Z fun W s => fshape_any H G 10 W s.agr) Z<|.yv (.fld Z (fld_sh0 _ _ _ _ _ _ _)) Z<|.yv (.conv Z Fx.int5 Fx.int3 (c := ((2 : Nat) : Int)) (by decide +kernel)) Z<|?_
  have Wj : Fwf l ⟨q.nx,o :: r,x,true,dn⟩ := wf_at (q := ⟨q,o :: r,x,true,dn⟩) (c := q.nx) Wq (wi_ac K.gd.last hq a20) (Nat.le_succ _);refine .a Z Z<|.ns<|.m Z Z<|.m Z Z<|.cs (X := Hp × Value × Value × List Value × List Value × List Res) Fx.call102 Z (fun W s => reduce_f K Wj S.at 2 (by omega) (St.mid (a := [_,_,_]) (d := [_]) (s.pickT (hd := [_,_,_,_]) (tl := (AR ++ bs)) (hd' := [_,_,_,_]) [0,2,3,1] Z Z))) Z fun z9 hz9 => ?_
  obtain ⟨H1,ro,rv,xo,xv,AR⟩ := z9;obtain ⟨u1,S⟩ := hz9;dsimp only at u1 S ⊢;refine Sx.reSt (fun W s => St.mid (a := [_,_,_]) (d := AR) (c := [_]) s) ?_;obtain ⟨op7,x7,e7⟩ : ∃ op7 x7,redP 2 (⟨q.nx,o :: r,x,true,dn⟩ : Ps) = ⟨q.nx,op7,x7,true,dn⟩ := ⟨_,_,rfl⟩;rw [e7] at S ⊢;dsimp only at S ⊢;have W7 : Fwf l ⟨q.nx,op7,x7,true,dn⟩ := by rw [← e7];exact wf_red (by omega) Wj rfl
  obtain ⟨hm1,hm2⟩ := wf_len W7 K.few;dsimp only at hm1 hm2;have hne7 : op7 ≠ [] := W7.ne;refine .nt<|.rg<|.m Z Z<|.m Z Z<|.yv (.loadW Z Fx.agg35 (.tail _<|.tail _<|.tail _<|.head _) Z) Z<|.yv (.build Z (Fx.bld97_0_1_4 _ _ _ _ _ _ _ _ _)) Z<|.cs (X := Option Addr × Nat) Fx.call109 Z (fun W s => push_f (K.up u1.up) (wi_ac K.gd.last hq a20) (by simp [Value.oneCell',strV]) (Nat.le_trans hm1 (by decide)) (fun _ => S.ops.tm hne7) (s.pickT (hd := [_,_,_,_]) (tl := (AR ++ bs)) (hd' := [_,_,_,_]) [0,1,2,3] Z Z)) Z fun p9 _ => .nl<|?_
  refine Sx.retN (.inr rfl) rfl .nil rfl fun W s => ?_
  have e0 : joiP l (⟨q,o :: r,x,true,dn⟩ : Ps) = pushS ⟨6,2,false,0,q.jnF l 2⟩ (⟨q.nx,op7,x7,true,dn⟩ : Ps) := by
   obtain ⟨j1,j2,j3,_,_⟩ := jn_lv (l := l) (r := q) (k := 2) (by decide) a20;unfold joiP;rw [if_neg (show ¬ (topO (⟨q,o :: r,x,true,dn⟩ : Ps)).tm = true by rw [show (topO (⟨q,o :: r,x,true,dn⟩ : Ps)).tm = false from h8];decide),j1,j2,j3,← e7]
   rfl
  rw [e0];exact ⟨(_,_,_,_,_,AR),⟨u1,⟨.cons S.ops (by show ¬ (6 : UInt8) = 5;decide) (FmR.zero rfl rfl (Nat.zero_le _) (Nat.zero_le _)),S.vls⟩⟩,rfl,s.pickT (hd := [_,_,_,_]) (tl := (AR ++ bs)) (hd' := [_,_,_]) [0,1,2] rfl rfl⟩
 have a20 : Rq.ac l [111,114] q = false := h20;rw [acF_F a20];refine .sr<|.m Z Z<|.cs (X := Unit) Fx.call107 Z (fun W s => accept_f K hq [105,109,112,108,105,101,115] (s.pickT (hd := [_,_,_,_]) (tl := (AR ++ bs)) (hd' := [_,_,_,_]) [0,1,2,3] Z Z)) Z fun _ _ => .a Z Z<|.nt<|.cd Z (fun h24 => ?_) (fun h24 => ?_)
 ·have a24 : Rq.ac l [105,109,112,108,105,101,115] q = true := h24;rw [acF_T a24];refine .rg<|.yv (.build Z (Fx.bld35_0 _)) Z<|.sW (.tail<|.head) Z Z Fx.size35 (by simp [Value.oneCell',strV]) Z<|.nl<|.bN<|.tN<|.sr<|.yv (.fieldAddr Z Fx.field35_0) Z<|.yv (.load Z Fx.agg31 (.tail _<|.head _) Z) Z<|.yv (.call (v := .agg (fsC (fsOf 11)).toArray) Fx.call74 Z fun W s => fshape_any H G 11 W s.agr) Z<|.yv (.fld Z (fld_sh0 _ _ _ _ _ _ _)) Z<|.yv (.conv Z Fx.int5 Fx.int3 (c := ((1 : Nat) : Int)) (by decide +kernel)) Z<|?_
  have Wj : Fwf l ⟨q.nx,o :: r,x,true,dn⟩ := wf_at (q := ⟨q,o :: r,x,true,dn⟩) (c := q.nx) Wq (wi_ac K.gd.last hq a24) (Nat.le_succ _);refine .a Z Z<|.ns<|.m Z Z<|.m Z Z<|.cs (X := Hp × Value × Value × List Value × List Value × List Res) Fx.call102 Z (fun W s => reduce_f K Wj S.at 1 (by omega) (St.mid (a := [_,_,_]) (d := [_]) (s.pickT (hd := [_,_,_,_]) (tl := (AR ++ bs)) (hd' := [_,_,_,_]) [0,2,3,1] Z Z))) Z fun z9 hz9 => ?_
  obtain ⟨H1,ro,rv,xo,xv,AR⟩ := z9;obtain ⟨u1,S⟩ := hz9;dsimp only at u1 S ⊢;refine Sx.reSt (fun W s => St.mid (a := [_,_,_]) (d := AR) (c := [_]) s) ?_;obtain ⟨op7,x7,e7⟩ : ∃ op7 x7,redP 1 (⟨q.nx,o :: r,x,true,dn⟩ : Ps) = ⟨q.nx,op7,x7,true,dn⟩ := ⟨_,_,rfl⟩;rw [e7] at S ⊢;dsimp only at S ⊢;have W7 : Fwf l ⟨q.nx,op7,x7,true,dn⟩ := by rw [← e7];exact wf_red (by omega) Wj rfl
  obtain ⟨hm1,hm2⟩ := wf_len W7 K.few;dsimp only at hm1 hm2;have hne7 : op7 ≠ [] := W7.ne;refine .nt<|.rg<|.m Z Z<|.m Z Z<|.yv (.loadW Z Fx.agg35 (.tail _<|.tail _<|.tail _<|.head _) Z) Z<|.yv (.build Z (Fx.bld97_0_1_4 _ _ _ _ _ _ _ _ _)) Z<|.cs (X := Option Addr × Nat) Fx.call109 Z (fun W s => push_f (K.up u1.up) (wi_ac K.gd.last hq a24) (by simp [Value.oneCell',strV]) (Nat.le_trans hm1 (by decide)) (fun _ => S.ops.tm hne7) (s.pickT (hd := [_,_,_,_]) (tl := (AR ++ bs)) (hd' := [_,_,_,_]) [0,1,2,3] Z Z)) Z fun p9 _ => .nl<|?_
  refine Sx.retN (.inr rfl) rfl .nil rfl fun W s => ?_
  have e0 : joiP l (⟨q,o :: r,x,true,dn⟩ : Ps) = pushS ⟨6,1,false,0,q.jnF l 1⟩ (⟨q.nx,op7,x7,true,dn⟩ : Ps) := by
   obtain ⟨j1,j2,j3,_,_⟩ := jn_lv (l := l) (r := q) (k := 1) (by decide) a24;unfold joiP;rw [if_neg (show ¬ (topO (⟨q,o :: r,x,true,dn⟩ : Ps)).tm = true by rw [show (topO (⟨q,o :: r,x,true,dn⟩ : Ps)).tm = false from h8];decide),j1,j2,j3,← e7]
   rfl
  rw [e0];exact ⟨(_,_,_,_,_,AR),⟨u1,⟨.cons S.ops (by show ¬ (6 : UInt8) = 5;decide) (FmR.zero rfl rfl (Nat.zero_le _) (Nat.zero_le _)),S.vls⟩⟩,rfl,s.pickT (hd := [_,_,_,_]) (tl := (AR ++ bs)) (hd' := [_,_,_]) [0,1,2] rfl rfl⟩
 have a24 : Rq.ac l [105,109,112,108,105,101,115] q = false := h24;exact absurd hw (by unfold Rq.wrd;rw [is_ac0 h0,is_ac0 h0,is_ac0 h0,is_ac0 h0,a11,a16,a20,a24];decide)
theorem app_at4 {xr cs : List Value} {n j : Nat} {u : Value} (hl : xr.length = n) (h : cs[4 + j]? = some u) : (xr ++ cs)[n + 4 + j]? = some u := by rw [Nat.add_assoc];exact app_at hl h
theorem Ops.inv5 {H : Hp} {o : Ov} {r : List Ov} {xr : List Value} {s1 s2 : Value} {AR : List Res} (h : Ops H (o :: r) (xr ++ oC o s1 s2) AR) (hk : o.kd = 5) : ∃ AR1 xe,AR = .row 76 4 s1 o.f.ex.length xe :: AR1 ∧ Ops H r xr AR1 ∧ s2 = .slice none 0 0 ∧ RepZ H 4 (o.f.ex.map (dEx .u8)) xe ∧ o.f.args = [] ∧ o.f.nm.length ≤ 1000000 ∧ o.f.fd.length ≤ 1000000 := by
 generalize hx : xr ++ oC o s1 s2 = xo at h;cases h with
 | cons h k f => exact absurd hk k
 | arg h k a b c z s =>
  obtain ⟨e1,e2⟩ := List.append_inj' hx rfl;subst e1;simp only [List.cons.injEq,and_true,true_and] at e2;obtain ⟨rfl,rfl⟩ := e2;exact ⟨_,_,rfl,h,rfl,z,a,b,c⟩
theorem zx_rep (H : Hp) : Rep H (dEx .u8 zE) [.int .u8 0,.string ⟨#[]⟩,.int .i64 0,.slice none 0 0] := ex_shut (op := 0) (nm := []) (n := 0) (args := []) (by decide) (Rep.empty (p := none) (c := 0) (by decide))
theorem row_put {H : Hp} {z k : Nat} {ds : List D} {d0 d : D} {xs news vs : List Value} (hz : RepZ H z ds xs) (hn : RepZ H z [d0] news) (hd : Rep H d vs) (hl : vs.length = z) (hk : ds.length = k) : RepZ H z (ds ++ [d]) (setsL (xs ++ news) (k * z) vs) := by
 subst hk;have h := RepZ.put hd hl (hz.app hn) (i := ds.length) (by simp)
 rwa [List.set_append_right _ _ (Nat.le_refl _),Nat.sub_self,List.set_cons_zero] at h
set_option maxHeartbeats 4000000 in
set_option maxRecDepth 100000 in
theorem closing_f {H : Hp} {w0 W : World} {bs : List Res} {b : Nat} {l : Tks} {tp : Option Addr} {tc : Nat} {ro rv : Value} {xo xv : List Value} {AR : List Res} {q : Rq} {op : List Ov} {x : Vb} {dn : Bool} (K : Tkf H l tp tc) (Wq : Fwf l ⟨q,op,x,true,dn⟩) (S : Sq H ⟨q,op,x,true,dn⟩ xo xv AR) (hfew : ∀ o ∈ op,o.f.ex.length ≤ 600000) (s : St H w0 (.box b [.slice tp l.length tc,.int .i64 (q.i : Nat),ro,rv,.bool true,.bool dn,.bool x.2,.int .i64 (q.off : Nat),.int .i64 (q.er : Nat)] 102 :: .row 97 11 (ro) (op.length) (xo) :: .row 179 13 (rv) (x.1.length) (xv) :: (AR ++ bs)) W) :
 Calls Tryz.prog 103 #[.pointer (some ⟨b,0,none⟩)] W (Get w0 bs b l tp tc H (clgP l ⟨q,op,x,true,dn⟩)) := by
 have hq : q.i < l.length := Wq.i;have hcap := K.rep.cap;obtain ⟨hn1,hn2⟩ := wf_len Wq K.few;dsimp only at hn1 hn2;have hne : op ≠ [] := Wq.ne;obtain ⟨o,r,rfl⟩ := list1 (l := op) (by cases op with | nil => exact (hne rfl).elim | cons a t => exact Nat.succ_pos _);dsimp only [List.length_cons] at hn1;have hfx := hfew o (List.mem_cons_self ..);have hv1 : 1 ≤ x.1.length := by have := Wq.vs;dsimp only at this;rw [this];exact Nat.le_add_left _ _
 obtain ⟨vs,bd⟩ := x;dsimp only at hv1 hn2;obtain ⟨v,V,rfl⟩ := list1 hv1;dsimp only [List.length_cons] at hn2;obtain ⟨yr,t0,t1,t2,e4,VS1,V1⟩ := VR.inv S.vls;try dsimp only at e4
 subst e4;have l1 := VS1.len;refine Sx.enterS Tryz.func103 rfl Tryz.ntmps103 rfl s ?_;obtain ⟨xr,s1,s2,e2,hlo,ho1,ho2⟩ := Ops.top S.ops;try dsimp only at e2
 subst e2;refine Sx.rowCase (size := 11) (r := ro) (e := 97) (.tail _<|.head _) (Nat.succ_pos _) fun g c e hkc => ?_;subst e;refine .sr<|.m Z Z<|.cs (X := Unit) Fx.call105 Z (fun W s => top_f K hq (g := g) (k := r.length) (c := c) (by omega) (s.pickT (hd := [_,_,_]) (tl := (AR ++ bs)) (hd' := [_,_,_]) [0,1,2] Z Z)) Z fun _ _ => .a Z Z<|.nt<|.bk<|.cu (X := Bool) [(0,_),(2,_)] ⟨rfl,rfl,trivial⟩ (fun z => [(9,.bool z)]) (fun z => H) (fun z => (.box b [.slice tp l.length tc,.int .i64 (q.i : Nat),(.slice (some ⟨g,0,none⟩) (o :: r).length c),rv,.bool true,.bool dn,.bool bd,.int .i64 (q.off : Nat),.int .i64 (q.er : Nat)] 102 :: .row 97 11 ((.slice (some ⟨g,0,none⟩) (o :: r).length c)) ((o :: r).length) ((xr ++ oC o s1 s2)) :: .row 179 13 (rv) (V.length + 1) ((yr ++ vC v t0 t1 t2)) :: (AR ++ bs))) (fun z => z = (decide (o.kd = 1) && decide ((tkf l q.i).k = 0))) ?_ fun z hC => ?_
 ·
  refine .rg<|.m Z Z<|.yv (.nilCheck Z) Z<|.yv (.fieldAddr Z Fx.field97_0) Z<|.yv (.loadR1 Z Fx.agg95 (.tail _<|.head _) (app_at hlo Z)) Z<|.yv (.eql Z Z) Z<|.m Z Z<|.b2 (fun h15 => ?_) (fun h15 => ?_)
  ·have hg : o.kd = 1 := UInt8.toNat_inj.1 (by have := of_decide_eq_true h15;show o.kd.toNat = 1;omega);exact .gd Z Z<|.yv (.move Z) Z<|.gd Z Z<|.cs (X := Unit) Fx.call98 Z (fun W s => token_f K hq  (s.pickT (hd := [_,_,_]) (tl := (AR ++ bs)) (hd' := [_,_,_]) [0,1,2] Z Z)) Z fun _ _ => .gd Z Z<|.yv (.fld Z (fld_f0 _ _ _)) Z<|.gd Z Z<|.yv (.eql Z Z) Z<|.yv (.pickT Z Z) Z<|.a Z Z<|.nt<|.me _ ⟨rfl,trivial⟩ ⟨rfl,rfl,trivial⟩ (fun _ s => s) (by first | (rw [decide_eq_true hg,Bool.true_and];exact k80) | (rw [decide_eq_false hg];rfl))
  have hg : ¬ o.kd = 1 := fun e => of_decide_eq_false h15 (by rw [e];rfl);exact .gF Z Z Z Z<|.gF Z Z Z Z<|.gF Z Z Z Z<|.gF Z Z Z Z<|.yv (.pickF Z Z) Z<|.a Z Z<|.nt<|.me _ ⟨rfl,trivial⟩ ⟨rfl,rfl,trivial⟩ (fun _ s => s) (by first | (rw [decide_eq_true hg,Bool.true_and];exact k80) | (rw [decide_eq_false hg];rfl))
 have e9 := hC;refine .cd Z (fun h9 => ?_) (fun h9 => ?_)
 ·rw [h9] at e9;have y9 := Bool.and_eq_true _ _ |>.mp e9.symm
  refine .rg<|.m Z Z<|.yv (.nilCheck Z) Z<|.yv (.fieldAddr Z Fx.field102_5) Z<|.st .head Z Z Fx.size4 Z (nb Z) Z<|.nl<|.bN<|?_
  refine Sx.retN (.inr rfl) rfl .nil rfl fun W s => ?_;have e0 : clgP l (⟨q,o :: r,(v :: V,bd),true,dn⟩ : Ps) = ⟨q,o :: r,(v :: V,bd),true,true⟩ := by unfold clgP;exact if_pos ⟨of_decide_eq_true y9.1,of_decide_eq_true y9.2⟩
  rw [e0];exact ⟨(_,_,_,_,_,AR),⟨.refl,⟨S.ops,S.vls⟩⟩,rfl,s.pickT (hd := [_,_,_]) (tl := (AR ++ bs)) (hd' := [_,_,_]) [0,1,2] rfl rfl⟩
 rw [h9] at e9;refine .cu (X := Bool) [(0,_),(2,_)] ⟨rfl,rfl,trivial⟩ (fun z => [(24,.bool z)]) (fun z => H) (fun z => (.box b [.slice tp l.length tc,.int .i64 ((if z then Rq.nx q else q).i : Nat),(.slice (some ⟨g,0,none⟩) (o :: r).length c),rv,.bool true,.bool dn,.bool bd,.int .i64 ((if z then Rq.nx q else q).off : Nat),.int .i64 ((if z then Rq.nx q else q).er : Nat)] 102 :: .row 97 11 ((.slice (some ⟨g,0,none⟩) (o :: r).length c)) ((o :: r).length) ((xr ++ oC o s1 s2)) :: .row 179 13 (rv) (V.length + 1) ((yr ++ vC v t0 t1 t2)) :: (AR ++ bs))) (fun z => z = (decide (o.kd = 2) && Rq.ac l [41] q)) ?_ fun z hC => ?_
 ·
  refine .rg<|.m Z Z<|.yv (.nilCheck Z) Z<|.yv (.fieldAddr Z Fx.field97_0) Z<|.yv (.loadR1 Z Fx.agg95 (.tail _<|.head _) (app_at hlo Z)) Z<|.yv (.eql Z Z) Z<|.m Z Z<|.b2 (fun h30 => ?_) (fun h30 => ?_)
  ·have hg : o.kd = 2 := UInt8.toNat_inj.1 (by have := of_decide_eq_true h30;show o.kd.toNat = 2;omega);exact .gd Z Z<|.yv (.move Z) Z<|.gd Z Z<|.cs (X := Unit) Fx.call107 Z (fun W s => accept_f K hq [41] (s.pickT (hd := [_,_,_]) (tl := (AR ++ bs)) (hd' := [_,_,_]) [0,1,2] Z Z)) Z fun _ _ => .yv (.pickT Z Z) Z<|.a Z Z<|.nt<|.me _ ⟨rfl,trivial⟩ ⟨rfl,rfl,trivial⟩ (fun _ s => s) (by first | rw [decide_eq_true hg,Bool.true_and] | (rw [decide_eq_false hg];rfl))
  have hg : ¬ o.kd = 2 := fun e => of_decide_eq_false h30 (by rw [e];rfl);exact .gF Z Z Z Z<|.gF Z Z Z Z<|.yv (.pickF Z Z) Z<|.a Z Z<|.nt<|.me _ ⟨rfl,trivial⟩ ⟨rfl,rfl,trivial⟩ (fun _ s => s) (by first | rw [decide_eq_true hg,Bool.true_and] | (rw [decide_eq_false hg];rfl))
 have e24 := hC;refine .cd Z (fun h24 => ?_) (fun h24 => ?_)
 ·rw [h24] at e24;have y24 := Bool.and_eq_true _ _ |>.mp e24.symm
  have hk : o.kd = 2 := of_decide_eq_true y24.1;rw [if_pos h24];have hk5 : o.kd ≠ 5 := by rw [hk];decide
  obtain ⟨SO,FO⟩ := Ops.inv2 S.ops hk5;refine .sr<|.m Z Z<|.cs (X := Nat × Nat) Fx.call116 Z (fun W s => pop_f K (wi_ac K.gd.last hq y24.2) V1.one (by omega) l1 (s.pickT (hd := [_,_,_]) (tl := (AR ++ bs)) (hd' := [_,_,_]) [0,2,1] Z Z)) Z fun p1 _ => .al Fx.zero179 Z fun b3 => .sW .head Z Z Fx.size179 V1.one Z<|.ns<|.yv (.fieldAddr Z Fx.field179_1) Z<|.st .head Z Z Fx.size4 Z (nb Z) Z<|.nt<|.rg<|.m Z Z<|.yv (.loadW Z Fx.agg179 (.head _) Z) Z<|.cs (X := (Nat × Nat) × (Option Addr × Nat)) Fx.call156 Z (fun W s => close_f K (wi_ac K.gd.last hq y24.2) (VlR.one (v := (⟨v.tm,false,v.e,v.f⟩ : Vl)) ⟨V1.e,V1.f⟩) (by omega) (by omega) hlo (s.pickT (hd := [_,_,_,_]) (tl := (AR ++ bs)) (hd' := [_,_,_,_]) [1,3,2,0] Z Z)) Z fun p9 _ => .nl<|.bN<|?_
  refine Sx.retN (.inr rfl) rfl .nil rfl fun W s => ?_;have e0 : clgP l (⟨q,o :: r,(v :: V,bd),true,dn⟩ : Ps) = ⟨q.nx,r,((⟨v.tm,false,v.e,v.f⟩ : Vl) :: V,bd),true,dn⟩ := clg_par rfl hk y24.2;rw [e0];exact ⟨(_,_,_,_,_,AR),⟨.refl,⟨SO,.cons VS1 (v := (⟨v.tm,false,v.e,v.f⟩ : Vl)) ⟨V1.e,V1.f⟩⟩⟩,rfl,s.pickT (hd := [_,_,_,_]) (tl := (AR ++ bs)) (hd' := [_,_,_]) [0,1,2] rfl rfl⟩
 rw [h24] at e24;rw [if_neg (by rw [h24];decide)];refine .cu (X := Bool) [(0,_),(2,_)] ⟨rfl,rfl,trivial⟩ (fun z => [(40,.bool z)]) (fun z => H) (fun z => (.box b [.slice tp l.length tc,.int .i64 ((if z then Rq.nx q else q).i : Nat),(.slice (some ⟨g,0,none⟩) (o :: r).length c),rv,.bool true,.bool dn,.bool bd,.int .i64 ((if z then Rq.nx q else q).off : Nat),.int .i64 ((if z then Rq.nx q else q).er : Nat)] 102 :: .row 97 11 ((.slice (some ⟨g,0,none⟩) (o :: r).length c)) ((o :: r).length) ((xr ++ oC o s1 s2)) :: .row 179 13 (rv) (V.length + 1) ((yr ++ vC v t0 t1 t2)) :: (AR ++ bs))) (fun z => z = (decide (o.kd = 3) && Rq.ac l [41] q)) ?_ fun z hC => ?_
 ·
  refine .rg<|.m Z Z<|.yv (.nilCheck Z) Z<|.yv (.fieldAddr Z Fx.field97_0) Z<|.yv (.loadR1 Z Fx.agg95 (.tail _<|.head _) (app_at hlo Z)) Z<|.yv (.eql Z Z) Z<|.m Z Z<|.b2 (fun h46 => ?_) (fun h46 => ?_)
  ·have hg : o.kd = 3 := UInt8.toNat_inj.1 (by have := of_decide_eq_true h46;show o.kd.toNat = 3;omega);exact .gd Z Z<|.yv (.move Z) Z<|.gd Z Z<|.cs (X := Unit) Fx.call107 Z (fun W s => accept_f K hq [41] (s.pickT (hd := [_,_,_]) (tl := (AR ++ bs)) (hd' := [_,_,_]) [0,1,2] Z Z)) Z fun _ _ => .yv (.pickT Z Z) Z<|.a Z Z<|.nt<|.me _ ⟨rfl,trivial⟩ ⟨rfl,rfl,trivial⟩ (fun _ s => s) (by first | rw [decide_eq_true hg,Bool.true_and] | (rw [decide_eq_false hg];rfl))
  have hg : ¬ o.kd = 3 := fun e => of_decide_eq_false h46 (by rw [e];rfl);exact .gF Z Z Z Z<|.gF Z Z Z Z<|.yv (.pickF Z Z) Z<|.a Z Z<|.nt<|.me _ ⟨rfl,trivial⟩ ⟨rfl,rfl,trivial⟩ (fun _ s => s) (by first | rw [decide_eq_true hg,Bool.true_and] | (rw [decide_eq_false hg];rfl))
 have e40 := hC;refine .cd Z (fun h40 => ?_) (fun h40 => ?_)
 ·rw [h40] at e40;have y40 := Bool.and_eq_true _ _ |>.mp e40.symm
  have hk : o.kd = 3 := of_decide_eq_true y40.1;rw [if_pos h40];have hk5 : o.kd ≠ 5 := by rw [hk];decide
  obtain ⟨SO,FO⟩ := Ops.inv2 S.ops hk5;refine .sr<|.m Z Z<|.cs (X := Unit) Fx.call114 Z (fun W s => expect_f K (wi_ac K.gd.last hq y40.2) [62,61] (s.pickT (hd := [_,_,_]) (tl := (AR ++ bs)) (hd' := [_,_,_]) [0,1,2] Z Z)) Z fun _ _ => .ns<|.m Z Z<|.m Z Z<|.cs (X := Unit) Fx.call110 Z (fun W s => number_f K (wi_ex K.gd.last (wi_ac K.gd.last hq y40.2))  (s.pickT (hd := [_,_,_]) (tl := (AR ++ bs)) (hd' := [_,_,_]) [0,1,2] Z Z)) Z fun _ _ => .yv (.build Z (Fx.bld76_0_2 _ _)) Z<|.bl Z (Fx.bsl32_1 _ _ _ _) Z fun b56 => ?_
  refine Sx.freezeBoxN fun H2 u2 m2 => ?_;refine .yv (.nilCheck Z) Z<|.yv (.fieldAddr Z Fx.field97_4) Z<|.yv (.fieldAddr Z Fx.field35_5) Z<|.s1Q (set_row (n := r.length * 11) (j := 9) (cs' := oC o (.slice (some ⟨b56,0,none⟩) 1 1) s2) hlo Z) Z Z Fx.size32 Z (.tail<|.head) (by rw [List.length_append,hlo];show r.length * 11 + 9 < r.length * 11 + 11;omega)<|.ns<|.m Z Z<|.m Z Z<|.cs (X := Nat × Nat) Fx.call57 Z (fun W s => formula_f (K.up u2.up) (wi_nb K.gd.last (wi_ex K.gd.last (wi_ac K.gd.last hq y40.2))) V1.one V1.e.nm (by omega) l1 (s.pickT (hd := [_,_,_]) (tl := (AR ++ bs)) (hd' := [_,_,_]) [0,2,1] Z Z)) Z fun p1 _ => ?_
  obtain ⟨q1,q2,ef,FR⟩ := fm_lay V1;rw [ef];refine .bl Z (Fx.bsl33_1 _ _ _ _ _ _ _) Z fun b63 => ?_;refine Sx.freezeBoxN fun H3 u3 m3 => ?_;refine .yv (.nilCheck Z) Z<|.yv (.fieldAddr Z Fx.field97_4) Z<|.yv (.fieldAddr Z Fx.field35_6) Z<|.s1Q (set_row (n := r.length * 11) (j := 10) (cs' := oC o (.slice (some ⟨b56,0,none⟩) 1 1) (.slice (some ⟨b63,0,none⟩) 1 1)) hlo Z) Z Z Fx.size33 Z (.tail<|.tail<|.head) (by rw [List.length_append,hlo];show r.length * 11 + 10 < r.length * 11 + 11;omega)<|.nt<|.rg<|.m Z Z<|.m Z Z<|.yv (.nilCheck Z) Z<|.yv (.fieldAddr Z Fx.field97_4) Z<|.yv (.loadR (vs := (cFm .u8 o.f.op o.f.nm o.f.fd o.f.a o.f.b (.slice (some ⟨b56,0,none⟩) 1 1) (.slice (some ⟨b63,0,none⟩) 1 1))) Z Fx.agg35 (.tail _<|.tail _<|.head _) Z (fun j u h => by rw [Nat.add_assoc];exact app_at hlo (by rw [Nat.add_comm 4 j];exact h))) Z<|.yv (.build Z (Fx.bld179_1_3 _ _ _ _ _ _ _ _)) Z<|?_
  have VN : VlR H3 (⟨false,true,zE,(o.f.wEx [(.mk 1 [] ((q.nx.exS l [62,61]).nbV l) [])]).wAr [v.fm]⟩ : Vl) (.slice none 0 0) (.slice (some ⟨b56,0,none⟩) 1 1) (.slice (some ⟨b63,0,none⟩) 1 1) := ⟨ExR.zero rfl (Nat.zero_le _),⟨(Rep.mk (n := 1) (c := 1) m2 (.single (ExR.zero (e := (.mk 1 [] ((q.nx.exS l [62,61]).nbV l) [])) rfl (Nat.zero_le _)).rep rfl) rfl (Nat.le_refl _) (by decide)).up u3.up,(Rep.mk m3 (.single ((FR.up u2.up).up u3.up).rep rfl) rfl (Nat.le_refl _) (by decide)),FO.nm,FO.fd⟩⟩;refine .cs (X := (Nat × Nat) × (Option Addr × Nat)) Fx.call156 Z (fun W s => close_f ((K.up u2.up).up u3.up) (wi_nb K.gd.last (wi_ex K.gd.last (wi_ac K.gd.last hq y40.2))) VN.one (by omega) (by omega) hlo (s.pickT (hd := [_,_,_]) (tl := (AR ++ bs)) (hd' := [_,_,_]) [0,2,1] Z Z)) Z fun p9 _ => .nl<|.bN<|?_
  refine Sx.retN (.inr rfl) rfl .nil rfl fun W s => ?_;have e0 : clgP l (⟨q,o :: r,(v :: V,bd),true,dn⟩ : Ps) = ⟨((q.nx.exS l [62,61]).nbS l),r,((⟨false,true,zE,(o.f.wEx [(.mk 1 [] ((q.nx.exS l [62,61]).nbV l) [])]).wAr [v.fm]⟩ : Vl) :: V,bd || v.noF),true,dn⟩ := clg_cnt rfl hk y40.2;rw [e0];exact ⟨(_,_,_,_,_,AR),⟨(u2.trans u3),⟨(SO.up u2.up).up u3.up,.cons ((VS1.up u2.up).up u3.up) VN⟩⟩,rfl,s.pickT (hd := [_,_,_]) (tl := (AR ++ bs)) (hd' := [_,_,_]) [0,1,2] rfl rfl⟩
 rw [h40] at e40;rw [if_neg (by rw [h40];decide)];refine .cu (X := Bool) [(0,_),(2,_)] ⟨rfl,rfl,trivial⟩ (fun z => [(74,.bool z)]) (fun z => H) (fun z => (.box b [.slice tp l.length tc,.int .i64 ((if z then Rq.nx q else q).i : Nat),(.slice (some ⟨g,0,none⟩) (o :: r).length c),rv,.bool true,.bool dn,.bool bd,.int .i64 ((if z then Rq.nx q else q).off : Nat),.int .i64 ((if z then Rq.nx q else q).er : Nat)] 102 :: .row 97 11 ((.slice (some ⟨g,0,none⟩) (o :: r).length c)) ((o :: r).length) ((xr ++ oC o s1 s2)) :: .row 179 13 (rv) (V.length + 1) ((yr ++ vC v t0 t1 t2)) :: (AR ++ bs))) (fun z => z = (decide (o.kd = 4) && Rq.ac l [93] q)) ?_ fun z hC => ?_
 ·
  refine .rg<|.m Z Z<|.yv (.nilCheck Z) Z<|.yv (.fieldAddr Z Fx.field97_0) Z<|.yv (.loadR1 Z Fx.agg95 (.tail _<|.head _) (app_at hlo Z)) Z<|.yv (.eql Z Z) Z<|.m Z Z<|.b2 (fun h80 => ?_) (fun h80 => ?_)
  ·have hg : o.kd = 4 := UInt8.toNat_inj.1 (by have := of_decide_eq_true h80;show o.kd.toNat = 4;omega);exact .gd Z Z<|.yv (.move Z) Z<|.gd Z Z<|.cs (X := Unit) Fx.call107 Z (fun W s => accept_f K hq [93] (s.pickT (hd := [_,_,_]) (tl := (AR ++ bs)) (hd' := [_,_,_]) [0,1,2] Z Z)) Z fun _ _ => .yv (.pickT Z Z) Z<|.a Z Z<|.nt<|.me _ ⟨rfl,trivial⟩ ⟨rfl,rfl,trivial⟩ (fun _ s => s) (by first | rw [decide_eq_true hg,Bool.true_and] | (rw [decide_eq_false hg];rfl))
  have hg : ¬ o.kd = 4 := fun e => of_decide_eq_false h80 (by rw [e];rfl);exact .gF Z Z Z Z<|.gF Z Z Z Z<|.yv (.pickF Z Z) Z<|.a Z Z<|.nt<|.me _ ⟨rfl,trivial⟩ ⟨rfl,rfl,trivial⟩ (fun _ s => s) (by first | rw [decide_eq_true hg,Bool.true_and] | (rw [decide_eq_false hg];rfl))
 have e74 := hC;refine .cd Z (fun h74 => ?_) (fun h74 => ?_)
 ·rw [h74] at e74;have y74 := Bool.and_eq_true _ _ |>.mp e74.symm
  have hk : o.kd = 4 := of_decide_eq_true y74.1;rw [if_pos h74];have hk5 : o.kd ≠ 5 := by rw [hk];decide
  obtain ⟨SO,FO⟩ := Ops.inv2 S.ops hk5;refine .sr<|.m Z Z<|.cs (X := Nat × Nat) Fx.call155 Z (fun W s => term_f K (wi_ac K.gd.last hq y74.2) V1.one (by omega) l1 (s.pickT (hd := [_,_,_]) (tl := (AR ++ bs)) (hd' := [_,_,_]) [0,2,1] Z Z)) Z fun p1 _ => .bl Z (Fx.bsl32_1 _ _ _ _) Z fun b86 => ?_
  refine Sx.freezeBoxN fun H2 u2 m2 => ?_;refine .a Z Z<|.nt<|.sq<|.sr<|.m Z Z<|.yv (.nilCheck Z) Z<|.yv (.fieldAddr Z Fx.field97_3) Z<|.yv (.loadR1 Z Fx.agg74 (.tail _<|.tail _<|.head _) (app_at hlo Z)) Z<|.yv (.eql Z Z) Z<|.nt<|.cd Z (fun h91 => ?_) (fun h91 => ?_)
  ·have ho6 : o.op = 6 := UInt8.toNat_inj.1 (by have := of_decide_eq_true h91;show o.op.toNat = 6;omega);refine .sr<|.m Z Z<|.m Z Z<|.yv (.nilCheck Z) Z<|.yv (.fieldAddr Z Fx.field97_4) Z<|.yv (.fieldAddr Z Fx.field35_1) Z<|.yv (.loadR1 Z Fx.agg9 (.tail _<|.tail _<|.head _) (app_at4 (j := 1) hlo Z)) Z<|.m Z Z<|.yv (.build Z (Fx.bld76_0_1_3 _ _ _ _ _)) Z<|.yv (.build Z (Fx.bld179_0_2 _ _ _ _ _)) Z<|?_
   have VN : VlR H2 (tmv (.mk 6 o.f.nm 0 [v.e])) (.slice (some ⟨b86,0,none⟩) 1 1) (.slice none 0 0) (.slice none 0 0) := ⟨⟨(Rep.mk m2 (.single (V1.e.up u2.up).rep rfl) rfl (Nat.le_refl _) (by decide)),FO.nm⟩,FmR.zero rfl rfl (Nat.zero_le _) (Nat.zero_le _)⟩;refine .cs (X := (Nat × Nat) × (Option Addr × Nat)) Fx.call156 Z (fun W s => close_f (K.up u2.up) (wi_ac K.gd.last hq y74.2) VN.one (by omega) (by omega) hlo (s.pickT (hd := [_,_,_]) (tl := (AR ++ bs)) (hd' := [_,_,_]) [0,2,1] Z Z)) Z fun p9 _ => .nt<|.rt<|.tR<|.bR<|?_
   refine Sx.retN (.inl rfl) rfl .nil rfl fun W s => ?_;have e0 : clgP l (⟨q,o :: r,(v :: V,bd),true,dn⟩ : Ps) = ⟨q.nx,r,((tmv (.mk 6 o.f.nm 0 [v.e])) :: V,bd || !v.tm),true,dn⟩ := clg_get rfl hk ho6 y74.2;rw [e0];exact ⟨(_,_,_,_,_,AR),⟨u2,⟨SO.up u2.up,.cons (VS1.up u2.up) VN⟩⟩,rfl,s.pickT (hd := [_,_,_]) (tl := (AR ++ bs)) (hd' := [_,_,_]) [0,1,2] rfl rfl⟩
  have ho6 : ¬ o.op = 6 := fun e => of_decide_eq_false h91 (by rw [e];rfl);refine .sk<|.tN<|.sr<|.m Z Z<|.m Z Z<|.yv (.nilCheck Z) Z<|.yv (.fieldAddr Z Fx.field97_4) Z<|.yv (.fieldAddr Z Fx.field35_5) Z<|.s1Q (set_row (n := r.length * 11) (j := 9) (cs' := oC o (.slice (some ⟨b86,0,none⟩) 1 1) s2) hlo Z) Z Z Fx.size32 Z (.tail<|.tail<|.head) (by rw [List.length_append,hlo];show r.length * 11 + 9 < r.length * 11 + 11;omega)<|.nt<|.rg<|.m Z Z<|.m Z Z<|.yv (.nilCheck Z) Z<|.yv (.fieldAddr Z Fx.field97_4) Z<|.yv (.loadR (vs := (cFm .u8 o.f.op o.f.nm o.f.fd o.f.a o.f.b (.slice (some ⟨b86,0,none⟩) 1 1) s2)) Z Fx.agg35 (.tail _<|.tail _<|.head _) Z (fun j u h => by rw [Nat.add_assoc];exact app_at hlo (by rw [Nat.add_comm 4 j];exact h))) Z<|.yv (.build Z (Fx.bld179_3 _ _ _ _ _ _ _)) Z<|?_
  have VN : VlR H2 (fmv (o.f.wEx [v.e])) (.slice none 0 0) (.slice (some ⟨b86,0,none⟩) 1 1) s2 := ⟨ExR.zero rfl (Nat.zero_le _),⟨(Rep.mk m2 (.single (V1.e.up u2.up).rep rfl) rfl (Nat.le_refl _) (by decide)),FO.ar.up u2.up,FO.nm,FO.fd⟩⟩;refine .cs (X := (Nat × Nat) × (Option Addr × Nat)) Fx.call156 Z (fun W s => close_f (K.up u2.up) (wi_ac K.gd.last hq y74.2) VN.one (by omega) (by omega) hlo (s.pickT (hd := [_,_,_]) (tl := (AR ++ bs)) (hd' := [_,_,_]) [0,2,1] Z Z)) Z fun p9 _ => .nl<|.bN<|?_
  refine Sx.retN (.inr rfl) rfl .nil rfl fun W s => ?_;have e0 : clgP l (⟨q,o :: r,(v :: V,bd),true,dn⟩ : Ps) = ⟨q.nx,r,((fmv (o.f.wEx [v.e])) :: V,bd || !v.tm),true,dn⟩ := clg_has rfl hk ho6 y74.2;rw [e0];exact ⟨(_,_,_,_,_,AR),⟨u2,⟨SO.up u2.up,.cons (VS1.up u2.up) VN⟩⟩,rfl,s.pickT (hd := [_,_,_]) (tl := (AR ++ bs)) (hd' := [_,_,_]) [0,1,2] rfl rfl⟩
 rw [h74] at e74;rw [if_neg (by rw [h74];decide)];refine .cu (X := Bool) [(0,_),(2,_)] ⟨rfl,rfl,trivial⟩ (fun z => [(114,.bool z)]) (fun z => H) (fun z => (.box b [.slice tp l.length tc,.int .i64 ((if z then Rq.nx q else q).i : Nat),(.slice (some ⟨g,0,none⟩) (o :: r).length c),rv,.bool true,.bool dn,.bool bd,.int .i64 ((if z then Rq.nx q else q).off : Nat),.int .i64 ((if z then Rq.nx q else q).er : Nat)] 102 :: .row 97 11 ((.slice (some ⟨g,0,none⟩) (o :: r).length c)) ((o :: r).length) ((xr ++ oC o s1 s2)) :: .row 179 13 (rv) (V.length + 1) ((yr ++ vC v t0 t1 t2)) :: (AR ++ bs))) (fun z => z = (decide (o.kd = 5) && Rq.ac l [44] q)) ?_ fun z hC => ?_
 ·
  refine .rg<|.m Z Z<|.yv (.nilCheck Z) Z<|.yv (.fieldAddr Z Fx.field97_0) Z<|.yv (.loadR1 Z Fx.agg95 (.tail _<|.head _) (app_at hlo Z)) Z<|.yv (.eql Z Z) Z<|.m Z Z<|.b2 (fun h120 => ?_) (fun h120 => ?_)
  ·have hg : o.kd = 5 := UInt8.toNat_inj.1 (by have := of_decide_eq_true h120;show o.kd.toNat = 5;omega);exact .gd Z Z<|.yv (.move Z) Z<|.gd Z Z<|.cs (X := Unit) Fx.call107 Z (fun W s => accept_f K hq [44] (s.pickT (hd := [_,_,_]) (tl := (AR ++ bs)) (hd' := [_,_,_]) [0,1,2] Z Z)) Z fun _ _ => .yv (.pickT Z Z) Z<|.a Z Z<|.nt<|.me _ ⟨rfl,trivial⟩ ⟨rfl,rfl,trivial⟩ (fun _ s => s) (by first | rw [decide_eq_true hg,Bool.true_and] | (rw [decide_eq_false hg];rfl))
  have hg : ¬ o.kd = 5 := fun e => of_decide_eq_false h120 (by rw [e];rfl);exact .gF Z Z Z Z<|.gF Z Z Z Z<|.yv (.pickF Z Z) Z<|.a Z Z<|.nt<|.me _ ⟨rfl,trivial⟩ ⟨rfl,rfl,trivial⟩ (fun _ s => s) (by first | rw [decide_eq_true hg,Bool.true_and] | (rw [decide_eq_false hg];rfl))
 have e114 := hC;refine .cd Z (fun h114 => ?_) (fun h114 => ?_)
 ·rw [h114] at e114;have y114 := Bool.and_eq_true _ _ |>.mp e114.symm
  have hk : o.kd = 5 := of_decide_eq_true y114.1;rw [if_pos h114];obtain ⟨AR1,xe,rfl,SO,rfl,hze,har,hnm,hfd⟩ := Ops.inv5 S.ops hk;refine Sx.reSt (fun W s => (s : St _ _ (_ :: _ :: _ :: _ :: (AR1 ++ bs)) W)) ?_;obtain ⟨AR,rfl⟩ : ∃ A,A = AR1 := ⟨_,rfl⟩;refine Sx.At.ra (size := 4) (r := s1) (e := 76) (.tail _<|.tail _<|.tail _<|.head _) fun pA cA e => ?_;subst e;refine .sq<|.fx (p := .light _ _ (.light _ _ (.light _ _ (.light _ _ (.light _ _ (.light _ _ (.light _ _ (.alt _ _ _ (.alt _ _ _ (.alt _ _ _ (.light _ _ (.light _ _ (.light _ _ (.light _ _ (.alt _ _ _ (.alt _ _ _ (.done) (.no)) (.alt _ _ _ (.alt _ _ _ (.done) (.no)) (.no))))))) (.no)) (.no)) (.alt _ _ _ (.alt _ _ _ (.alt _ _ _ (.light _ _ (.light _ _ (.light _ _ (.light _ _ (.alt _ _ _ (.alt _ _ _ (.done) (.no)) (.alt _ _ _ (.alt _ _ _ (.done) (.no)) (.no))))))) (.no)) (.no)) (.no)))))))))) 16 (.light 0 (.light 1 (.light 2 (.light 3 (.light 4 (.light 5 (.light 7 (.alt 6 2 (.alt 8 0 (.alt 9 2 (.light 10 (.light 12 (.light 13 (.light 14 (.alt 11 2 (.alt 15 2 (.done) (.no)) (.alt 15 2 (.alt 11 2 (.done) (.no)) (.no))))))) (.no)) (.no)) (.alt 8 0 (.alt 6 2 (.alt 9 2 (.light 10 (.light 12 (.light 13 (.light 14 (.alt 11 2 (.alt 15 2 (.done) (.no)) (.alt 15 2 (.alt 11 2 (.done) (.no)) (.no))))))) (.no)) (.no)) (.no)))))))))) (by kernel_rfl) (by kernel_rfl) Z<|.m Z Z<|.yv (.nilCheck Z) Z<|.yv (.fieldAddr Z Fx.field97_4) Z<|.yv (.fieldAddr Z Fx.field35_5) Z<|.yv (.loadR1 Z Fx.agg32 (.tail _<|.head _) (app_at4 (j := 5) hlo Z)) Z<|.m Z Z<|.yv (.lenSl Fx.sl32 Z) Z<|.h ?_ (.h ?_ .nn)
  ·
   refine .c3 (X := Nat × Nat) Fx.call155 Z (fun W s => term_f K (wi_ac K.gd.last hq y114.2) V1.one (by omega) l1 (s.pickT (hd := [_,_,_,_]) (tl := (AR ++ bs)) (hd' := [_,_,_,_]) [0,2,1,3] Z Z)) Z (fun _ _ => (.yv (.lenSl Fx.sl32 Z)<|.done (by kernel_rfl)<|.yv (.loadR1 Z Fx.agg32 (.tail _<|.tail _<|.head _) (app_at4 (j := 5) hlo Z))<|.yv (.fieldAddr Z Fx.field35_5)<|.yv (.fieldAddr Z Fx.field97_4)<|.yv (.nilCheck Z)<|.yv (.move Z)<|.nl)) fun p1 _ => .h1<|.blF Z (Fx.bsl32_1 _ _ _ _) Z fun b132 H3 u3 m3 => .h1<|.apE Fx.row32 Z (fun _ _ => (.tail<|.tail<|.tail<|.head)) Z (Rep.mk (n := 1) (c := 1) (ds := [dEx .u8 zE]) m3 (.single (zx_rep _) Z) Z (Nat.le_refl _) (by decide)) (Nat.succ_pos _) (by simp only [maxLen];omega) (by omega) Z (fun _ _ => (.done (by kernel_rfl)<|.done (by kernel_rfl)<|.done (by kernel_rfl)<|.done (by kernel_rfl)<|.done (by kernel_rfl)<|.done (by kernel_rfl)<|.done (by kernel_rfl)<|.nl)) fun news gE cE hn => .yv (.indexSl Fx.sl32 Z Z (i := o.f.ex.length) Z (by omega) (q := o.f.ex.length * 4) (by omega)) Z<|.yv (.nilCheck Z) Z<|.yv (.fieldAddr Z Fx.field97_4) Z<|.yv (.fieldAddr Z Fx.field35_5) Z<|.h ?_ (.h ?_ .nn)
   ·
    refine .sR Z Z Fx.size76 (Rep.one V1.e.rep) (.tail<|.tail<|.tail<|.head) (by have := hn.len;have := hze.len;simp only [List.length_append,List.length_cons,List.length_nil,List.length_map] at * <;> omega) (.yv (.fieldAddr Z Fx.field35_5)<|.yv (.fieldAddr Z Fx.field97_4)<|.yv (.nilCheck Z)<|.done (by kernel_rfl)<|.done (by kernel_rfl)<|.done (by kernel_rfl)<|.done (by kernel_rfl)<|.done (by kernel_rfl)<|.done (by kernel_rfl)<|.done (by kernel_rfl)<|.done (by kernel_rfl)<|.nl) <|.h1<|.s1Q (set_row (n := r.length * 11) (j := 9) (cs' := oC o (.slice (some ⟨gE,0,none⟩) (o.f.ex.length + 1) cE) (.slice none 0 0)) hlo Z) Z Z Fx.size32 Z (.tail<|.tail<|.head) (by rw [List.length_append,hlo];show r.length * 11 + 9 < r.length * 11 + 11;omega) (.done (by kernel_rfl)<|.done (by kernel_rfl)<|.done (by kernel_rfl)<|.yv (.indexSl Fx.sl32 Z Z (i := o.f.ex.length) Z (by omega) (q := o.f.ex.length * 4) (by omega))<|.done (by kernel_rfl)<|.done (by kernel_rfl)<|.done (by kernel_rfl)<|.done (by kernel_rfl)<|.done (by kernel_rfl)<|.done (by kernel_rfl)<|.done (by kernel_rfl)<|.nl) <|.fe<|.tN<|.rg<|.m Z Z<|.yv (.nilCheck Z) Z<|.yv (.fieldAddr Z Fx.field102_4) Z<|.st .head Z Z Fx.size4 Z (nb Z) Z<|.nl<|.bN<|?_
    refine Sx.retN (.inr rfl) rfl .nil rfl fun W s => ?_;have e0 : clgP l (⟨q,o :: r,(v :: V,bd),true,dn⟩ : Ps) = ⟨q.nx,⟨o.kd,o.lv,o.tm,o.op,o.f.wEx (o.f.ex ++ [v.e])⟩ :: r,(V,bd || !v.tm),false,dn⟩ := clg_com rfl hk y114.2;rw [e0];have hz := row_put (ds := o.f.ex.map (dEx .u8)) (hze.up u3.up) hn (V1.e.up u3.up).rep rfl (List.length_map ..);have ha := Ops.arg (o := ⟨o.kd,o.lv,o.tm,o.op,o.f.wEx (o.f.ex ++ [v.e])⟩) (SO.up u3.up) hk har hnm hfd (by rw [show (⟨o.kd,o.lv,o.tm,o.op,o.f.wEx (o.f.ex ++ [v.e])⟩ : Ov).f.ex = o.f.ex ++ [v.e] from rfl,List.map_append];exact hz) (s1 := (.slice (some ⟨gE,0,none⟩) (o.f.ex.length + 1) cE)) rfl;rw [show (⟨o.kd,o.lv,o.tm,o.op,o.f.wEx (o.f.ex ++ [v.e])⟩ : Ov).f.ex.length = o.f.ex.length + 1 from by show (o.f.ex ++ [v.e]).length = _;rw [List.length_append];rfl] at ha;exact ⟨(H3,(.slice (some ⟨g,0,none⟩) (o :: r).length c),.slice (some ⟨p1.1,0,none⟩) V.length p1.2,xr ++ oC ⟨o.kd,o.lv,o.tm,o.op,o.f.wEx (o.f.ex ++ [v.e])⟩ (.slice (some ⟨gE,0,none⟩) (o.f.ex.length + 1) cE) (.slice none 0 0),yr,.row 76 4 (.slice (some ⟨gE,0,none⟩) (o.f.ex.length + 1) cE) (o.f.ex.length + 1) (setsL (xe ++ news) (o.f.ex.length * 4) [.int .u8 v.e.op.toNat,strV v.e.nm,.int .i64 v.e.n.toInt,t0]) :: AR),⟨u3,⟨ha,(VS1.up u3.up)⟩⟩,rfl,s.pickT (hd := [_,_,_,_]) (tl := (AR ++ bs)) (hd' := [_,_,_,_]) [0,2,1,3] rfl rfl⟩
   refine .s1Q (set_row (n := r.length * 11) (j := 9) (cs' := oC o (.slice (some ⟨gE,0,none⟩) (o.f.ex.length + 1) cE) (.slice none 0 0)) hlo Z) Z Z Fx.size32 Z (.tail<|.tail<|.head) (by rw [List.length_append,hlo];show r.length * 11 + 9 < r.length * 11 + 11;omega) (.done (by kernel_rfl)<|.done (by kernel_rfl)<|.done (by kernel_rfl)<|.yv (.indexSl Fx.sl32 Z Z (i := o.f.ex.length) Z (by omega) (q := o.f.ex.length * 4) (by omega))<|.done (by kernel_rfl)<|.done (by kernel_rfl)<|.done (by kernel_rfl)<|.done (by kernel_rfl)<|.done (by kernel_rfl)<|.done (by kernel_rfl)<|.done (by kernel_rfl)<|.nl) <|.h1<|.sR Z Z Fx.size76 (Rep.one V1.e.rep) (.tail<|.tail<|.tail<|.head) (by have := hn.len;have := hze.len;simp only [List.length_append,List.length_cons,List.length_nil,List.length_map] at * <;> omega) (.yv (.fieldAddr Z Fx.field35_5)<|.yv (.fieldAddr Z Fx.field97_4)<|.yv (.nilCheck Z)<|.done (by kernel_rfl)<|.done (by kernel_rfl)<|.done (by kernel_rfl)<|.done (by kernel_rfl)<|.done (by kernel_rfl)<|.done (by kernel_rfl)<|.done (by kernel_rfl)<|.done (by kernel_rfl)<|.nl) <|.fe<|.tN<|.rg<|.m Z Z<|.yv (.nilCheck Z) Z<|.yv (.fieldAddr Z Fx.field102_4) Z<|.st .head Z Z Fx.size4 Z (nb Z) Z<|.nl<|.bN<|?_
   refine Sx.retN (.inr rfl) rfl .nil rfl fun W s => ?_;have e0 : clgP l (⟨q,o :: r,(v :: V,bd),true,dn⟩ : Ps) = ⟨q.nx,⟨o.kd,o.lv,o.tm,o.op,o.f.wEx (o.f.ex ++ [v.e])⟩ :: r,(V,bd || !v.tm),false,dn⟩ := clg_com rfl hk y114.2;rw [e0];have hz := row_put (ds := o.f.ex.map (dEx .u8)) (hze.up u3.up) hn (V1.e.up u3.up).rep rfl (List.length_map ..);have ha := Ops.arg (o := ⟨o.kd,o.lv,o.tm,o.op,o.f.wEx (o.f.ex ++ [v.e])⟩) (SO.up u3.up) hk har hnm hfd (by rw [show (⟨o.kd,o.lv,o.tm,o.op,o.f.wEx (o.f.ex ++ [v.e])⟩ : Ov).f.ex = o.f.ex ++ [v.e] from rfl,List.map_append];exact hz) (s1 := (.slice (some ⟨gE,0,none⟩) (o.f.ex.length + 1) cE)) rfl;rw [show (⟨o.kd,o.lv,o.tm,o.op,o.f.wEx (o.f.ex ++ [v.e])⟩ : Ov).f.ex.length = o.f.ex.length + 1 from by show (o.f.ex ++ [v.e]).length = _;rw [List.length_append];rfl] at ha;exact ⟨(H3,(.slice (some ⟨g,0,none⟩) (o :: r).length c),.slice (some ⟨p1.1,0,none⟩) V.length p1.2,xr ++ oC ⟨o.kd,o.lv,o.tm,o.op,o.f.wEx (o.f.ex ++ [v.e])⟩ (.slice (some ⟨gE,0,none⟩) (o.f.ex.length + 1) cE) (.slice none 0 0),yr,.row 76 4 (.slice (some ⟨gE,0,none⟩) (o.f.ex.length + 1) cE) (o.f.ex.length + 1) (setsL (xe ++ news) (o.f.ex.length * 4) [.int .u8 v.e.op.toNat,strV v.e.nm,.int .i64 v.e.n.toInt,t0]) :: AR),⟨u3,⟨ha,(VS1.up u3.up)⟩⟩,rfl,s.pickT (hd := [_,_,_,_]) (tl := (AR ++ bs)) (hd' := [_,_,_,_]) [0,2,1,3] rfl rfl⟩
  refine .blF Z (Fx.bsl32_1 _ _ _ _) Z fun b132 H3 u3 m3 => .h1<|.c3 (X := Nat × Nat) Fx.call155 Z (fun W s => term_f (K.up u3.up) (wi_ac K.gd.last hq y114.2) V1.one (by omega) l1 (s.pickT (hd := [_,_,_,_]) (tl := (AR ++ bs)) (hd' := [_,_,_,_]) [0,2,1,3] Z Z)) Z (fun _ _ => (.yv (.lenSl Fx.sl32 Z)<|.done (by kernel_rfl)<|.yv (.loadR1 Z Fx.agg32 (.tail _<|.tail _<|.head _) (app_at4 (j := 5) hlo Z))<|.yv (.fieldAddr Z Fx.field35_5)<|.yv (.fieldAddr Z Fx.field97_4)<|.yv (.nilCheck Z)<|.yv (.move Z)<|.nl)) fun p1 _ => .h1<|.apE Fx.row32 Z (fun _ _ => (.tail<|.tail<|.tail<|.head)) Z (Rep.mk (n := 1) (c := 1) (ds := [dEx .u8 zE]) m3 (.single (zx_rep _) Z) Z (Nat.le_refl _) (by decide)) (Nat.succ_pos _) (by simp only [maxLen];omega) (by omega) Z (fun _ _ => (.done (by kernel_rfl)<|.done (by kernel_rfl)<|.done (by kernel_rfl)<|.done (by kernel_rfl)<|.done (by kernel_rfl)<|.done (by kernel_rfl)<|.done (by kernel_rfl)<|.nl)) fun news gE cE hn => .yv (.indexSl Fx.sl32 Z Z (i := o.f.ex.length) Z (by omega) (q := o.f.ex.length * 4) (by omega)) Z<|.yv (.nilCheck Z) Z<|.yv (.fieldAddr Z Fx.field97_4) Z<|.yv (.fieldAddr Z Fx.field35_5) Z<|.h ?_ (.h ?_ .nn)
  ·
   refine .sR Z Z Fx.size76 (Rep.one V1.e.rep) (.tail<|.tail<|.tail<|.head) (by have := hn.len;have := hze.len;simp only [List.length_append,List.length_cons,List.length_nil,List.length_map] at * <;> omega) (.yv (.fieldAddr Z Fx.field35_5)<|.yv (.fieldAddr Z Fx.field97_4)<|.yv (.nilCheck Z)<|.done (by kernel_rfl)<|.done (by kernel_rfl)<|.done (by kernel_rfl)<|.done (by kernel_rfl)<|.done (by kernel_rfl)<|.done (by kernel_rfl)<|.done (by kernel_rfl)<|.done (by kernel_rfl)<|.nl) <|.h1<|.s1Q (set_row (n := r.length * 11) (j := 9) (cs' := oC o (.slice (some ⟨gE,0,none⟩) (o.f.ex.length + 1) cE) (.slice none 0 0)) hlo Z) Z Z Fx.size32 Z (.tail<|.tail<|.head) (by rw [List.length_append,hlo];show r.length * 11 + 9 < r.length * 11 + 11;omega) (.done (by kernel_rfl)<|.done (by kernel_rfl)<|.done (by kernel_rfl)<|.yv (.indexSl Fx.sl32 Z Z (i := o.f.ex.length) Z (by omega) (q := o.f.ex.length * 4) (by omega))<|.done (by kernel_rfl)<|.done (by kernel_rfl)<|.done (by kernel_rfl)<|.done (by kernel_rfl)<|.done (by kernel_rfl)<|.done (by kernel_rfl)<|.done (by kernel_rfl)<|.nl) <|.fe<|.tN<|.rg<|.m Z Z<|.yv (.nilCheck Z) Z<|.yv (.fieldAddr Z Fx.field102_4) Z<|.st .head Z Z Fx.size4 Z (nb Z) Z<|.nl<|.bN<|?_
   refine Sx.retN (.inr rfl) rfl .nil rfl fun W s => ?_;have e0 : clgP l (⟨q,o :: r,(v :: V,bd),true,dn⟩ : Ps) = ⟨q.nx,⟨o.kd,o.lv,o.tm,o.op,o.f.wEx (o.f.ex ++ [v.e])⟩ :: r,(V,bd || !v.tm),false,dn⟩ := clg_com rfl hk y114.2;rw [e0];have hz := row_put (ds := o.f.ex.map (dEx .u8)) (hze.up u3.up) hn (V1.e.up u3.up).rep rfl (List.length_map ..);have ha := Ops.arg (o := ⟨o.kd,o.lv,o.tm,o.op,o.f.wEx (o.f.ex ++ [v.e])⟩) (SO.up u3.up) hk har hnm hfd (by rw [show (⟨o.kd,o.lv,o.tm,o.op,o.f.wEx (o.f.ex ++ [v.e])⟩ : Ov).f.ex = o.f.ex ++ [v.e] from rfl,List.map_append];exact hz) (s1 := (.slice (some ⟨gE,0,none⟩) (o.f.ex.length + 1) cE)) rfl;rw [show (⟨o.kd,o.lv,o.tm,o.op,o.f.wEx (o.f.ex ++ [v.e])⟩ : Ov).f.ex.length = o.f.ex.length + 1 from by show (o.f.ex ++ [v.e]).length = _;rw [List.length_append];rfl] at ha;exact ⟨(H3,(.slice (some ⟨g,0,none⟩) (o :: r).length c),.slice (some ⟨p1.1,0,none⟩) V.length p1.2,xr ++ oC ⟨o.kd,o.lv,o.tm,o.op,o.f.wEx (o.f.ex ++ [v.e])⟩ (.slice (some ⟨gE,0,none⟩) (o.f.ex.length + 1) cE) (.slice none 0 0),yr,.row 76 4 (.slice (some ⟨gE,0,none⟩) (o.f.ex.length + 1) cE) (o.f.ex.length + 1) (setsL (xe ++ news) (o.f.ex.length * 4) [.int .u8 v.e.op.toNat,strV v.e.nm,.int .i64 v.e.n.toInt,t0]) :: AR),⟨u3,⟨ha,(VS1.up u3.up)⟩⟩,rfl,s.pickT (hd := [_,_,_,_]) (tl := (AR ++ bs)) (hd' := [_,_,_,_]) [0,2,1,3] rfl rfl⟩
  refine .s1Q (set_row (n := r.length * 11) (j := 9) (cs' := oC o (.slice (some ⟨gE,0,none⟩) (o.f.ex.length + 1) cE) (.slice none 0 0)) hlo Z) Z Z Fx.size32 Z (.tail<|.tail<|.head) (by rw [List.length_append,hlo];show r.length * 11 + 9 < r.length * 11 + 11;omega) (.done (by kernel_rfl)<|.done (by kernel_rfl)<|.done (by kernel_rfl)<|.yv (.indexSl Fx.sl32 Z Z (i := o.f.ex.length) Z (by omega) (q := o.f.ex.length * 4) (by omega))<|.done (by kernel_rfl)<|.done (by kernel_rfl)<|.done (by kernel_rfl)<|.done (by kernel_rfl)<|.done (by kernel_rfl)<|.done (by kernel_rfl)<|.done (by kernel_rfl)<|.nl) <|.h1<|.sR Z Z Fx.size76 (Rep.one V1.e.rep) (.tail<|.tail<|.tail<|.head) (by have := hn.len;have := hze.len;simp only [List.length_append,List.length_cons,List.length_nil,List.length_map] at * <;> omega) (.yv (.fieldAddr Z Fx.field35_5)<|.yv (.fieldAddr Z Fx.field97_4)<|.yv (.nilCheck Z)<|.done (by kernel_rfl)<|.done (by kernel_rfl)<|.done (by kernel_rfl)<|.done (by kernel_rfl)<|.done (by kernel_rfl)<|.done (by kernel_rfl)<|.done (by kernel_rfl)<|.done (by kernel_rfl)<|.nl) <|.fe<|.tN<|.rg<|.m Z Z<|.yv (.nilCheck Z) Z<|.yv (.fieldAddr Z Fx.field102_4) Z<|.st .head Z Z Fx.size4 Z (nb Z) Z<|.nl<|.bN<|?_
  refine Sx.retN (.inr rfl) rfl .nil rfl fun W s => ?_;have e0 : clgP l (⟨q,o :: r,(v :: V,bd),true,dn⟩ : Ps) = ⟨q.nx,⟨o.kd,o.lv,o.tm,o.op,o.f.wEx (o.f.ex ++ [v.e])⟩ :: r,(V,bd || !v.tm),false,dn⟩ := clg_com rfl hk y114.2;rw [e0];have hz := row_put (ds := o.f.ex.map (dEx .u8)) (hze.up u3.up) hn (V1.e.up u3.up).rep rfl (List.length_map ..);have ha := Ops.arg (o := ⟨o.kd,o.lv,o.tm,o.op,o.f.wEx (o.f.ex ++ [v.e])⟩) (SO.up u3.up) hk har hnm hfd (by rw [show (⟨o.kd,o.lv,o.tm,o.op,o.f.wEx (o.f.ex ++ [v.e])⟩ : Ov).f.ex = o.f.ex ++ [v.e] from rfl,List.map_append];exact hz) (s1 := (.slice (some ⟨gE,0,none⟩) (o.f.ex.length + 1) cE)) rfl;rw [show (⟨o.kd,o.lv,o.tm,o.op,o.f.wEx (o.f.ex ++ [v.e])⟩ : Ov).f.ex.length = o.f.ex.length + 1 from by show (o.f.ex ++ [v.e]).length = _;rw [List.length_append];rfl] at ha;exact ⟨(H3,(.slice (some ⟨g,0,none⟩) (o :: r).length c),.slice (some ⟨p1.1,0,none⟩) V.length p1.2,xr ++ oC ⟨o.kd,o.lv,o.tm,o.op,o.f.wEx (o.f.ex ++ [v.e])⟩ (.slice (some ⟨gE,0,none⟩) (o.f.ex.length + 1) cE) (.slice none 0 0),yr,.row 76 4 (.slice (some ⟨gE,0,none⟩) (o.f.ex.length + 1) cE) (o.f.ex.length + 1) (setsL (xe ++ news) (o.f.ex.length * 4) [.int .u8 v.e.op.toNat,strV v.e.nm,.int .i64 v.e.n.toInt,t0]) :: AR),⟨u3,⟨ha,(VS1.up u3.up)⟩⟩,rfl,s.pickT (hd := [_,_,_,_]) (tl := (AR ++ bs)) (hd' := [_,_,_,_]) [0,2,1,3] rfl rfl⟩
 rw [h114] at e114;rw [if_neg (by rw [h114];decide)];refine .cu (X := Bool) [(0,_),(2,_)] ⟨rfl,rfl,trivial⟩ (fun z => [(141,.bool z)]) (fun z => H) (fun z => (.box b [.slice tp l.length tc,.int .i64 ((if z then Rq.nx q else q).i : Nat),(.slice (some ⟨g,0,none⟩) (o :: r).length c),rv,.bool true,.bool dn,.bool bd,.int .i64 ((if z then Rq.nx q else q).off : Nat),.int .i64 ((if z then Rq.nx q else q).er : Nat)] 102 :: .row 97 11 ((.slice (some ⟨g,0,none⟩) (o :: r).length c)) ((o :: r).length) ((xr ++ oC o s1 s2)) :: .row 179 13 (rv) (V.length + 1) ((yr ++ vC v t0 t1 t2)) :: (AR ++ bs))) (fun z => z = (decide (o.kd = 5) && Rq.ac l [41] q)) ?_ fun z hC => ?_
 ·
  refine .rg<|.m Z Z<|.yv (.nilCheck Z) Z<|.yv (.fieldAddr Z Fx.field97_0) Z<|.yv (.loadR1 Z Fx.agg95 (.tail _<|.head _) (app_at hlo Z)) Z<|.yv (.eql Z Z) Z<|.m Z Z<|.b2 (fun h147 => ?_) (fun h147 => ?_)
  ·have hg : o.kd = 5 := UInt8.toNat_inj.1 (by have := of_decide_eq_true h147;show o.kd.toNat = 5;omega);exact .gd Z Z<|.yv (.move Z) Z<|.gd Z Z<|.cs (X := Unit) Fx.call107 Z (fun W s => accept_f K hq [41] (s.pickT (hd := [_,_,_]) (tl := (AR ++ bs)) (hd' := [_,_,_]) [0,1,2] Z Z)) Z fun _ _ => .yv (.pickT Z Z) Z<|.a Z Z<|.nt<|.me _ ⟨rfl,trivial⟩ ⟨rfl,rfl,trivial⟩ (fun _ s => s) (by first | rw [decide_eq_true hg,Bool.true_and] | (rw [decide_eq_false hg];rfl))
  have hg : ¬ o.kd = 5 := fun e => of_decide_eq_false h147 (by rw [e];rfl);exact .gF Z Z Z Z<|.gF Z Z Z Z<|.yv (.pickF Z Z) Z<|.a Z Z<|.nt<|.me _ ⟨rfl,trivial⟩ ⟨rfl,rfl,trivial⟩ (fun _ s => s) (by first | rw [decide_eq_true hg,Bool.true_and] | (rw [decide_eq_false hg];rfl))
 have e141 := hC;refine .cd Z (fun h141 => ?_) (fun h141 => ?_)
 ·rw [h141] at e141;have y141 := Bool.and_eq_true _ _ |>.mp e141.symm
  have hk : o.kd = 5 := of_decide_eq_true y141.1;rw [if_pos h141];obtain ⟨AR1,xe,rfl,SO,rfl,hze,har,hnm,hfd⟩ := Ops.inv5 S.ops hk;refine Sx.reSt (fun W s => (s : St _ _ (_ :: _ :: _ :: _ :: (AR1 ++ bs)) W)) ?_;obtain ⟨AR,rfl⟩ : ∃ A,A = AR1 := ⟨_,rfl⟩;refine Sx.At.ra (size := 4) (r := s1) (e := 76) (.tail _<|.tail _<|.tail _<|.head _) fun pA cA e => ?_;subst e;refine .sq<|.fx (p := .light _ _ (.light _ _ (.light _ _ (.light _ _ (.light _ _ (.light _ _ (.light _ _ (.alt _ _ _ (.alt _ _ _ (.alt _ _ _ (.light _ _ (.light _ _ (.light _ _ (.light _ _ (.alt _ _ _ (.alt _ _ _ (.done) (.no)) (.alt _ _ _ (.alt _ _ _ (.done) (.no)) (.no))))))) (.no)) (.no)) (.alt _ _ _ (.alt _ _ _ (.alt _ _ _ (.light _ _ (.light _ _ (.light _ _ (.light _ _ (.alt _ _ _ (.alt _ _ _ (.done) (.no)) (.alt _ _ _ (.alt _ _ _ (.done) (.no)) (.no))))))) (.no)) (.no)) (.no)))))))))) 16 (.light 0 (.light 1 (.light 2 (.light 3 (.light 4 (.light 5 (.light 7 (.alt 6 2 (.alt 8 0 (.alt 9 2 (.light 10 (.light 12 (.light 13 (.light 14 (.alt 11 2 (.alt 15 2 (.done) (.no)) (.alt 15 2 (.alt 11 2 (.done) (.no)) (.no))))))) (.no)) (.no)) (.alt 8 0 (.alt 6 2 (.alt 9 2 (.light 10 (.light 12 (.light 13 (.light 14 (.alt 11 2 (.alt 15 2 (.done) (.no)) (.alt 15 2 (.alt 11 2 (.done) (.no)) (.no))))))) (.no)) (.no)) (.no)))))))))) (by kernel_rfl) (by kernel_rfl) Z<|.m Z Z<|.yv (.nilCheck Z) Z<|.yv (.fieldAddr Z Fx.field97_4) Z<|.yv (.fieldAddr Z Fx.field35_5) Z<|.yv (.loadR1 Z Fx.agg32 (.tail _<|.head _) (app_at4 (j := 5) hlo Z)) Z<|.m Z Z<|.yv (.lenSl Fx.sl32 Z) Z<|.h ?_ (.h ?_ .nn)
  ·
   refine .c3 (X := Nat × Nat) Fx.call155 Z (fun W s => term_f K (wi_ac K.gd.last hq y141.2) V1.one (by omega) l1 (s.pickT (hd := [_,_,_,_]) (tl := (AR ++ bs)) (hd' := [_,_,_,_]) [0,2,1,3] Z Z)) Z (fun _ _ => (.yv (.lenSl Fx.sl32 Z)<|.done (by kernel_rfl)<|.yv (.loadR1 Z Fx.agg32 (.tail _<|.tail _<|.head _) (app_at4 (j := 5) hlo Z))<|.yv (.fieldAddr Z Fx.field35_5)<|.yv (.fieldAddr Z Fx.field97_4)<|.yv (.nilCheck Z)<|.yv (.move Z)<|.nl)) fun p1 _ => .h1<|.blF Z (Fx.bsl32_1 _ _ _ _) Z fun b159 H39 u39 m39 => .h1<|.apE Fx.row32 Z (fun _ _ => (.tail<|.tail<|.tail<|.head)) Z (Rep.mk (n := 1) (c := 1) (ds := [dEx .u8 zE]) m39 (.single (zx_rep _) Z) Z (Nat.le_refl _) (by decide)) (Nat.succ_pos _) (by simp only [maxLen];omega) (by omega) Z (fun _ _ => (.done (by kernel_rfl)<|.done (by kernel_rfl)<|.done (by kernel_rfl)<|.done (by kernel_rfl)<|.done (by kernel_rfl)<|.done (by kernel_rfl)<|.done (by kernel_rfl)<|.nl)) fun news9 gE9 cE9 hn9 => .yv (.indexSl Fx.sl32 Z Z (i := o.f.ex.length) Z (by omega) (q := o.f.ex.length * 4) (by omega)) Z<|.yv (.nilCheck Z) Z<|.yv (.fieldAddr Z Fx.field97_4) Z<|.yv (.fieldAddr Z Fx.field35_5) Z<|.h ?_ (.h ?_ .nn)
   ·
    refine .sR Z Z Fx.size76 (Rep.one V1.e.rep) (.tail<|.tail<|.tail<|.head) (by have := hn9.len;have := hze.len;simp only [List.length_append,List.length_cons,List.length_nil,List.length_map] at * <;> omega) (.yv (.fieldAddr Z Fx.field35_5)<|.yv (.fieldAddr Z Fx.field97_4)<|.yv (.nilCheck Z)<|.done (by kernel_rfl)<|.done (by kernel_rfl)<|.done (by kernel_rfl)<|.done (by kernel_rfl)<|.done (by kernel_rfl)<|.done (by kernel_rfl)<|.done (by kernel_rfl)<|.done (by kernel_rfl)<|.nl) <|.h1<|.s1Q (set_row (n := r.length * 11) (j := 9) (cs' := oC o (.slice (some ⟨gE9,0,none⟩) (o.f.ex.length + 1) cE9) (.slice none 0 0)) hlo Z) Z Z Fx.size32 Z (.tail<|.tail<|.head) (by rw [List.length_append,hlo];show r.length * 11 + 9 < r.length * 11 + 11;omega) (.done (by kernel_rfl)<|.done (by kernel_rfl)<|.done (by kernel_rfl)<|.yv (.indexSl Fx.sl32 Z Z (i := o.f.ex.length) Z (by omega) (q := o.f.ex.length * 4) (by omega))<|.done (by kernel_rfl)<|.done (by kernel_rfl)<|.done (by kernel_rfl)<|.done (by kernel_rfl)<|.done (by kernel_rfl)<|.done (by kernel_rfl)<|.done (by kernel_rfl)<|.nl) <|.fe<|.tN<|.rg<|.m Z Z<|.m Z Z<|.yv (.nilCheck Z) Z<|.yv (.fieldAddr Z Fx.field97_4) Z<|.yv (.loadR (vs := (cFm .u8 o.f.op o.f.nm o.f.fd o.f.a o.f.b (.slice (some ⟨gE9,0,none⟩) (o.f.ex.length + 1) cE9) (.slice none 0 0))) Z Fx.agg35 (.tail _<|.tail _<|.head _) Z (fun j u h => by rw [Nat.add_assoc];exact app_at hlo (by rw [Nat.add_comm 4 j];exact h))) Z<|.yv (.build Z (Fx.bld179_3 _ _ _ _ _ _ _)) Z<|.cs (X := (Nat × Nat) × (Option Addr × Nat)) Fx.call156 Z (fun W s => close_f (K.up u39.up) (wi_ac K.gd.last hq y141.2) (by simp [Value.oneCell',strV]) (by omega) (by omega) hlo (s.pickT (hd := [_,_,_,_]) (tl := (AR ++ bs)) (hd' := [_,_,_,_]) [0,2,1,3] Z Z)) Z fun p9 _ => .nl<|.bN<|?_
    refine Sx.reSt (fun W s => s.pickT (hd := [_,_,_,_]) (tl := (AR ++ bs)) (hd' := [_,_,_,_]) [3,0,1,2] rfl rfl) ?_;refine Sx.freezeSeq (ds := (o.f.ex ++ [v.e]).map (dEx .u8)) (by rw [List.length_map,List.length_append];rfl) (by rw [List.map_append];exact row_put (ds := o.f.ex.map (dEx .u8)) (hze.up u39.up) hn9 (V1.e.up u39.up).rep rfl (List.length_map ..)) fun H8 p8 c8 u8 e8 h8 => ?_;refine Sx.retN (.inr rfl) rfl .nil rfl fun W s => ?_;have e0 : clgP l (⟨q,o :: r,(v :: V,bd),true,dn⟩ : Ps) = ⟨q.nx,r,((fmv (o.f.wEx (o.f.ex ++ [v.e]))) :: V,bd || !v.tm),true,dn⟩ := clg_arg rfl hk y141.2;rw [e0];exact ⟨(_,_,_,_,_,AR),⟨(u39.trans u8),⟨((SO.up u39.up).up u8.up),.cons ((VS1.up u39.up).up u8.up) (v := (fmv (o.f.wEx (o.f.ex ++ [v.e])))) ⟨ExR.zero rfl (Nat.zero_le _),⟨h8,by show Rep _ (.seq 7 (o.f.args.map _)) _;rw [har];exact Rep.nil4,hnm,hfd⟩⟩⟩⟩,rfl,s.pickT (hd := [_,_,_]) (tl := (AR ++ bs)) (hd' := [_,_,_]) [0,1,2] rfl rfl⟩
   refine .s1Q (set_row (n := r.length * 11) (j := 9) (cs' := oC o (.slice (some ⟨gE9,0,none⟩) (o.f.ex.length + 1) cE9) (.slice none 0 0)) hlo Z) Z Z Fx.size32 Z (.tail<|.tail<|.head) (by rw [List.length_append,hlo];show r.length * 11 + 9 < r.length * 11 + 11;omega) (.done (by kernel_rfl)<|.done (by kernel_rfl)<|.done (by kernel_rfl)<|.yv (.indexSl Fx.sl32 Z Z (i := o.f.ex.length) Z (by omega) (q := o.f.ex.length * 4) (by omega))<|.done (by kernel_rfl)<|.done (by kernel_rfl)<|.done (by kernel_rfl)<|.done (by kernel_rfl)<|.done (by kernel_rfl)<|.done (by kernel_rfl)<|.done (by kernel_rfl)<|.nl) <|.h1<|.sR Z Z Fx.size76 (Rep.one V1.e.rep) (.tail<|.tail<|.tail<|.head) (by have := hn9.len;have := hze.len;simp only [List.length_append,List.length_cons,List.length_nil,List.length_map] at * <;> omega) (.yv (.fieldAddr Z Fx.field35_5)<|.yv (.fieldAddr Z Fx.field97_4)<|.yv (.nilCheck Z)<|.done (by kernel_rfl)<|.done (by kernel_rfl)<|.done (by kernel_rfl)<|.done (by kernel_rfl)<|.done (by kernel_rfl)<|.done (by kernel_rfl)<|.done (by kernel_rfl)<|.done (by kernel_rfl)<|.nl) <|.fe<|.tN<|.rg<|.m Z Z<|.m Z Z<|.yv (.nilCheck Z) Z<|.yv (.fieldAddr Z Fx.field97_4) Z<|.yv (.loadR (vs := (cFm .u8 o.f.op o.f.nm o.f.fd o.f.a o.f.b (.slice (some ⟨gE9,0,none⟩) (o.f.ex.length + 1) cE9) (.slice none 0 0))) Z Fx.agg35 (.tail _<|.tail _<|.head _) Z (fun j u h => by rw [Nat.add_assoc];exact app_at hlo (by rw [Nat.add_comm 4 j];exact h))) Z<|.yv (.build Z (Fx.bld179_3 _ _ _ _ _ _ _)) Z<|.cs (X := (Nat × Nat) × (Option Addr × Nat)) Fx.call156 Z (fun W s => close_f (K.up u39.up) (wi_ac K.gd.last hq y141.2) (by simp [Value.oneCell',strV]) (by omega) (by omega) hlo (s.pickT (hd := [_,_,_,_]) (tl := (AR ++ bs)) (hd' := [_,_,_,_]) [0,2,1,3] Z Z)) Z fun p9 _ => .nl<|.bN<|?_
   refine Sx.reSt (fun W s => s.pickT (hd := [_,_,_,_]) (tl := (AR ++ bs)) (hd' := [_,_,_,_]) [3,0,1,2] rfl rfl) ?_;refine Sx.freezeSeq (ds := (o.f.ex ++ [v.e]).map (dEx .u8)) (by rw [List.length_map,List.length_append];rfl) (by rw [List.map_append];exact row_put (ds := o.f.ex.map (dEx .u8)) (hze.up u39.up) hn9 (V1.e.up u39.up).rep rfl (List.length_map ..)) fun H8 p8 c8 u8 e8 h8 => ?_;refine Sx.retN (.inr rfl) rfl .nil rfl fun W s => ?_;have e0 : clgP l (⟨q,o :: r,(v :: V,bd),true,dn⟩ : Ps) = ⟨q.nx,r,((fmv (o.f.wEx (o.f.ex ++ [v.e]))) :: V,bd || !v.tm),true,dn⟩ := clg_arg rfl hk y141.2;rw [e0];exact ⟨(_,_,_,_,_,AR),⟨(u39.trans u8),⟨((SO.up u39.up).up u8.up),.cons ((VS1.up u39.up).up u8.up) (v := (fmv (o.f.wEx (o.f.ex ++ [v.e])))) ⟨ExR.zero rfl (Nat.zero_le _),⟨h8,by show Rep _ (.seq 7 (o.f.args.map _)) _;rw [har];exact Rep.nil4,hnm,hfd⟩⟩⟩⟩,rfl,s.pickT (hd := [_,_,_]) (tl := (AR ++ bs)) (hd' := [_,_,_]) [0,1,2] rfl rfl⟩
  refine .blF Z (Fx.bsl32_1 _ _ _ _) Z fun b159 H39 u39 m39 => .h1<|.c3 (X := Nat × Nat) Fx.call155 Z (fun W s => term_f (K.up u39.up) (wi_ac K.gd.last hq y141.2) V1.one (by omega) l1 (s.pickT (hd := [_,_,_,_]) (tl := (AR ++ bs)) (hd' := [_,_,_,_]) [0,2,1,3] Z Z)) Z (fun _ _ => (.yv (.lenSl Fx.sl32 Z)<|.done (by kernel_rfl)<|.yv (.loadR1 Z Fx.agg32 (.tail _<|.tail _<|.head _) (app_at4 (j := 5) hlo Z))<|.yv (.fieldAddr Z Fx.field35_5)<|.yv (.fieldAddr Z Fx.field97_4)<|.yv (.nilCheck Z)<|.yv (.move Z)<|.nl)) fun p1 _ => .h1<|.apE Fx.row32 Z (fun _ _ => (.tail<|.tail<|.tail<|.head)) Z (Rep.mk (n := 1) (c := 1) (ds := [dEx .u8 zE]) m39 (.single (zx_rep _) Z) Z (Nat.le_refl _) (by decide)) (Nat.succ_pos _) (by simp only [maxLen];omega) (by omega) Z (fun _ _ => (.done (by kernel_rfl)<|.done (by kernel_rfl)<|.done (by kernel_rfl)<|.done (by kernel_rfl)<|.done (by kernel_rfl)<|.done (by kernel_rfl)<|.done (by kernel_rfl)<|.nl)) fun news9 gE9 cE9 hn9 => .yv (.indexSl Fx.sl32 Z Z (i := o.f.ex.length) Z (by omega) (q := o.f.ex.length * 4) (by omega)) Z<|.yv (.nilCheck Z) Z<|.yv (.fieldAddr Z Fx.field97_4) Z<|.yv (.fieldAddr Z Fx.field35_5) Z<|.h ?_ (.h ?_ .nn)
  ·
   refine .sR Z Z Fx.size76 (Rep.one V1.e.rep) (.tail<|.tail<|.tail<|.head) (by have := hn9.len;have := hze.len;simp only [List.length_append,List.length_cons,List.length_nil,List.length_map] at * <;> omega) (.yv (.fieldAddr Z Fx.field35_5)<|.yv (.fieldAddr Z Fx.field97_4)<|.yv (.nilCheck Z)<|.done (by kernel_rfl)<|.done (by kernel_rfl)<|.done (by kernel_rfl)<|.done (by kernel_rfl)<|.done (by kernel_rfl)<|.done (by kernel_rfl)<|.done (by kernel_rfl)<|.done (by kernel_rfl)<|.nl) <|.h1<|.s1Q (set_row (n := r.length * 11) (j := 9) (cs' := oC o (.slice (some ⟨gE9,0,none⟩) (o.f.ex.length + 1) cE9) (.slice none 0 0)) hlo Z) Z Z Fx.size32 Z (.tail<|.tail<|.head) (by rw [List.length_append,hlo];show r.length * 11 + 9 < r.length * 11 + 11;omega) (.done (by kernel_rfl)<|.done (by kernel_rfl)<|.done (by kernel_rfl)<|.yv (.indexSl Fx.sl32 Z Z (i := o.f.ex.length) Z (by omega) (q := o.f.ex.length * 4) (by omega))<|.done (by kernel_rfl)<|.done (by kernel_rfl)<|.done (by kernel_rfl)<|.done (by kernel_rfl)<|.done (by kernel_rfl)<|.done (by kernel_rfl)<|.done (by kernel_rfl)<|.nl) <|.fe<|.tN<|.rg<|.m Z Z<|.m Z Z<|.yv (.nilCheck Z) Z<|.yv (.fieldAddr Z Fx.field97_4) Z<|.yv (.loadR (vs := (cFm .u8 o.f.op o.f.nm o.f.fd o.f.a o.f.b (.slice (some ⟨gE9,0,none⟩) (o.f.ex.length + 1) cE9) (.slice none 0 0))) Z Fx.agg35 (.tail _<|.tail _<|.head _) Z (fun j u h => by rw [Nat.add_assoc];exact app_at hlo (by rw [Nat.add_comm 4 j];exact h))) Z<|.yv (.build Z (Fx.bld179_3 _ _ _ _ _ _ _)) Z<|.cs (X := (Nat × Nat) × (Option Addr × Nat)) Fx.call156 Z (fun W s => close_f (K.up u39.up) (wi_ac K.gd.last hq y141.2) (by simp [Value.oneCell',strV]) (by omega) (by omega) hlo (s.pickT (hd := [_,_,_,_]) (tl := (AR ++ bs)) (hd' := [_,_,_,_]) [0,2,1,3] Z Z)) Z fun p9 _ => .nl<|.bN<|?_
   refine Sx.reSt (fun W s => s.pickT (hd := [_,_,_,_]) (tl := (AR ++ bs)) (hd' := [_,_,_,_]) [3,0,1,2] rfl rfl) ?_;refine Sx.freezeSeq (ds := (o.f.ex ++ [v.e]).map (dEx .u8)) (by rw [List.length_map,List.length_append];rfl) (by rw [List.map_append];exact row_put (ds := o.f.ex.map (dEx .u8)) (hze.up u39.up) hn9 (V1.e.up u39.up).rep rfl (List.length_map ..)) fun H8 p8 c8 u8 e8 h8 => ?_;refine Sx.retN (.inr rfl) rfl .nil rfl fun W s => ?_;have e0 : clgP l (⟨q,o :: r,(v :: V,bd),true,dn⟩ : Ps) = ⟨q.nx,r,((fmv (o.f.wEx (o.f.ex ++ [v.e]))) :: V,bd || !v.tm),true,dn⟩ := clg_arg rfl hk y141.2;rw [e0];exact ⟨(_,_,_,_,_,AR),⟨(u39.trans u8),⟨((SO.up u39.up).up u8.up),.cons ((VS1.up u39.up).up u8.up) (v := (fmv (o.f.wEx (o.f.ex ++ [v.e])))) ⟨ExR.zero rfl (Nat.zero_le _),⟨h8,by show Rep _ (.seq 7 (o.f.args.map _)) _;rw [har];exact Rep.nil4,hnm,hfd⟩⟩⟩⟩,rfl,s.pickT (hd := [_,_,_]) (tl := (AR ++ bs)) (hd' := [_,_,_]) [0,1,2] rfl rfl⟩
  refine .s1Q (set_row (n := r.length * 11) (j := 9) (cs' := oC o (.slice (some ⟨gE9,0,none⟩) (o.f.ex.length + 1) cE9) (.slice none 0 0)) hlo Z) Z Z Fx.size32 Z (.tail<|.tail<|.head) (by rw [List.length_append,hlo];show r.length * 11 + 9 < r.length * 11 + 11;omega) (.done (by kernel_rfl)<|.done (by kernel_rfl)<|.done (by kernel_rfl)<|.yv (.indexSl Fx.sl32 Z Z (i := o.f.ex.length) Z (by omega) (q := o.f.ex.length * 4) (by omega))<|.done (by kernel_rfl)<|.done (by kernel_rfl)<|.done (by kernel_rfl)<|.done (by kernel_rfl)<|.done (by kernel_rfl)<|.done (by kernel_rfl)<|.done (by kernel_rfl)<|.nl) <|.h1<|.sR Z Z Fx.size76 (Rep.one V1.e.rep) (.tail<|.tail<|.tail<|.head) (by have := hn9.len;have := hze.len;simp only [List.length_append,List.length_cons,List.length_nil,List.length_map] at * <;> omega) (.yv (.fieldAddr Z Fx.field35_5)<|.yv (.fieldAddr Z Fx.field97_4)<|.yv (.nilCheck Z)<|.done (by kernel_rfl)<|.done (by kernel_rfl)<|.done (by kernel_rfl)<|.done (by kernel_rfl)<|.done (by kernel_rfl)<|.done (by kernel_rfl)<|.done (by kernel_rfl)<|.done (by kernel_rfl)<|.nl) <|.fe<|.tN<|.rg<|.m Z Z<|.m Z Z<|.yv (.nilCheck Z) Z<|.yv (.fieldAddr Z Fx.field97_4) Z<|.yv (.loadR (vs := (cFm .u8 o.f.op o.f.nm o.f.fd o.f.a o.f.b (.slice (some ⟨gE9,0,none⟩) (o.f.ex.length + 1) cE9) (.slice none 0 0))) Z Fx.agg35 (.tail _<|.tail _<|.head _) Z (fun j u h => by rw [Nat.add_assoc];exact app_at hlo (by rw [Nat.add_comm 4 j];exact h))) Z<|.yv (.build Z (Fx.bld179_3 _ _ _ _ _ _ _)) Z<|.cs (X := (Nat × Nat) × (Option Addr × Nat)) Fx.call156 Z (fun W s => close_f (K.up u39.up) (wi_ac K.gd.last hq y141.2) (by simp [Value.oneCell',strV]) (by omega) (by omega) hlo (s.pickT (hd := [_,_,_,_]) (tl := (AR ++ bs)) (hd' := [_,_,_,_]) [0,2,1,3] Z Z)) Z fun p9 _ => .nl<|.bN<|?_
  refine Sx.reSt (fun W s => s.pickT (hd := [_,_,_,_]) (tl := (AR ++ bs)) (hd' := [_,_,_,_]) [3,0,1,2] rfl rfl) ?_;refine Sx.freezeSeq (ds := (o.f.ex ++ [v.e]).map (dEx .u8)) (by rw [List.length_map,List.length_append];rfl) (by rw [List.map_append];exact row_put (ds := o.f.ex.map (dEx .u8)) (hze.up u39.up) hn9 (V1.e.up u39.up).rep rfl (List.length_map ..)) fun H8 p8 c8 u8 e8 h8 => ?_;refine Sx.retN (.inr rfl) rfl .nil rfl fun W s => ?_;have e0 : clgP l (⟨q,o :: r,(v :: V,bd),true,dn⟩ : Ps) = ⟨q.nx,r,((fmv (o.f.wEx (o.f.ex ++ [v.e]))) :: V,bd || !v.tm),true,dn⟩ := clg_arg rfl hk y141.2;rw [e0];exact ⟨(_,_,_,_,_,AR),⟨(u39.trans u8),⟨((SO.up u39.up).up u8.up),.cons ((VS1.up u39.up).up u8.up) (v := (fmv (o.f.wEx (o.f.ex ++ [v.e])))) ⟨ExR.zero rfl (Nat.zero_le _),⟨h8,by show Rep _ (.seq 7 (o.f.args.map _)) _;rw [har];exact Rep.nil4,hnm,hfd⟩⟩⟩⟩,rfl,s.pickT (hd := [_,_,_]) (tl := (AR ++ bs)) (hd' := [_,_,_]) [0,1,2] rfl rfl⟩
 rw [h141] at e141;rw [if_neg (by rw [h141];decide)];refine .rg<|.m Z Z<|.cs (X := Unit) Fx.call104 Z (fun W s => fail_f K hq 8 (s.pickT (hd := [_,_,_]) (tl := (AR ++ bs)) (hd' := [_,_,_]) [0,1,2] Z Z)) Z fun _ _ => .nl<|.bN<|?_
 refine Sx.retN (.inr rfl) rfl .nil rfl fun W s => ?_;have n2 : ∀ {n : UInt8} {w : Str},false = (decide (o.kd = n) && Rq.ac l w q) → o.kd = n → Rq.ac l w q = false := fun e k => by rw [decide_eq_true k,Bool.true_and] at e;exact e.symm
 have e0 : clgP l (⟨q,o :: r,(v :: V,bd),true,dn⟩ : Ps) = (⟨q,o :: r,(v :: V,bd),true,dn⟩ : Ps).at (q.fail l 8) := clg_fail (fun e e2 => by rw [decide_eq_true (show o.kd = 1 from e),decide_eq_true (show (tkf l q.i).k = 0 from e2)] at e9;cases e9) (fun e => by
  rcases e with e | e | e
  ·exact n2 e24 e
  ·exact n2 e40 e
  ·exact n2 e141 e) (n2 e74) (n2 e114)
 rw [e0];exact ⟨(_,_,_,_,_,AR),⟨.refl,⟨S.ops,S.vls⟩⟩,rfl,s.pickT (hd := [_,_,_]) (tl := (AR ++ bs)) (hd' := [_,_,_]) [0,1,2] rfl rfl⟩
def Fex (q : Ps) : Prop := ∀ o ∈ q.op,o.f.ex.length ≤ q.c.i
section
variable {l : Tks} {q : Ps} {c : Rq} {o : Ov} {v : Vl}
theorem fex_push (h : Fex q) (hi : q.c.i ≤ c.i) (ho : o.f.ex = []) : Fex (pushS o (q.at c)) := fun z hz => by
 rcases List.mem_cons.1 hz with rfl | hz
 ·rw [inh_f,ho];exact Nat.zero_le _
 ·exact Nat.le_trans (h z hz) hi
theorem fex_give (h : Fex q) (hi : q.c.i ≤ c.i) : Fex (giveS v (q.at c)) := fun z hz => Nat.le_trans (h z hz) hi
theorem fex_at (h : Fex q) (hi : q.c.i ≤ c.i) : Fex (q.at c) := fun z hz => Nat.le_trans (h z hz) hi
theorem redL_sub {lv : Nat} : ∀ (r : List Ov) (x : Vb),∀ z ∈ (redL lv r x).1,z ∈ r
 | [],_,z,h => h
 | o :: r,x,z,h => by
  rw [redL] at h
  split at h
  ·exact List.mem_cons_of_mem _ (redL_sub r _ z h)
  ·exact h
theorem fex_red {lv : Nat} (h : Fex q) : Fex (redP lv q) := fun z hz => h z (redL_sub q.op q.x z hz)
theorem fex_clo {x : Vb} (h : Fex q) (hi : q.c.i ≤ c.i) : Fex (cloS c v x q) := fun z hz => Nat.le_trans (h z (List.mem_of_mem_tail hz)) hi
theorem fex_if {c : Prop} [Decidable c] {a b : Ps} (h1 : c → Fex a) (h2 : ¬ c → Fex b) : Fex (if c then a else b) := by
 by_cases hc : c
 ·rw [if_pos hc];exact h1 hc
 ·rw [if_neg hc];exact h2 hc
theorem le_nx (k : Mq q.c.nx c) : q.c.i ≤ c.i := Nat.le_trans (Nat.le_succ _) k.i
theorem fex_pref {q' : Ps} (h : Fex q) (e : prefS l q = some q') : Fex q' := by
 unfold prefS at e
 split at e
 ·injection e with e;subst e;exact fex_push h (le_nx (.refl _)) rfl
 split at e
 ·injection e with e;subst e;exact fex_push h (le_nx (.refl _)) rfl
 split at e
 ·injection e with e;subst e;exact fex_push h (le_nx .wiS) rfl
 split at e
 ·injection e with e;subst e;exact fex_push h (le_nx .wiS) rfl
 split at e
 ·injection e with e;subst e;exact fex_push h (le_nx .amS) rfl
 split at e
 ·injection e with e;subst e;exact fex_push h (le_nx .amS) rfl
 split at e
 ·injection e with e;subst e;exact fex_push h (le_nx (.trans .amS .exS)) rfl
 ·cases e
theorem le_nm : q.c.i ≤ (q.c.nmS l).i := Mq.nmS.i
theorem fex_var (h : Fex q) : Fex (varP l q) := by
 unfold varP;refine fex_if (fun a => fex_if (fun b => fex_push h ?_ rfl) fun _ => fex_give h ?_) fun _ => fex_give h le_nm
 ·exact Nat.le_trans le_nm (Nat.le_trans (Nat.le_succ _) (Nat.le_trans (Mq.nmS (q := (q.c.nmS l).nx)).i (Nat.le_succ _)))
 ·exact Nat.le_trans le_nm (Nat.le_trans (Nat.le_succ _) (Mq.nmS (q := (q.c.nmS l).nx)).i)
theorem fex_arr (h : Fex q) : Fex (arrP l q) := by
 unfold arrP;have h2 : q.c.i ≤ ((q.c.paS l).exS l [40]).i := (Mq.trans (a := q.c) .paS .exS).i;exact fex_if (fun _ => fex_give h (Nat.le_trans h2 (Nat.le_succ _))) fun _ => fex_push h h2 rfl
theorem fex_re2 (h : Fex q) : Fex (re2P l q) := by
 unfold re2P
 exact fex_if (fun _ => fex_push h (le_nx (.refl _)) rfl) fun _ => fex_if (fun _ => fex_push h (le_nx (.refl _)) rfl) fun _ =>
  fex_if (fun _ => fex_give h Mq.nbS.i) fun _ => fex_if (fun _ => fex_var h) fun _ => fex_if (fun _ => fex_give h (le_nx (.refl _))) fun _ =>
  fex_if (fun _ => fex_give h (le_nx .paS)) fun _ => fex_if (fun _ => fex_give h (le_nx (.refl _))) fun _ => fex_if (fun _ => fex_give h (le_nx (.refl _))) fun _ =>
  fex_if (fun _ => fex_give h (le_nx .nmS)) fun _ => fex_if (fun _ => fex_push h (le_nx (.trans .paS .exS)) rfl) fun _ =>
  fex_if (fun _ => fex_arr (fex_at h (Nat.le_succ _))) fun _ => fex_at h Mq.fail.i
theorem fex_operand (h : Fex q) : Fex (operandP l q) := by
 unfold operandP;cases e : (if fmsB q then prefS l q else none) with
 | some q' =>
  split at e
  ·exact fex_pref h e
  ·cases e
 | none =>
  show Fex (restP l q);unfold restP;exact fex_if (fun _ => fex_give h (Nat.le_succ _)) fun _ => fex_re2 h
theorem fex_bet {op : UInt8} (h : Fex q) : Fex (betP l op q) := by
 have f {lv : Nat} : Fex ((redP lv q).at (q.c.fail l 8)) := fex_at (fex_red h) (Mq.fail (q := q.c)).i;have p {lv : Nat} {o : Ov} (ho : o.f.ex = []) : Fex (pushS o ((redP lv q).at q.c.nx)) := fex_push (fex_red h) (Nat.le_succ _) ho;unfold betP;exact fex_if (fun _ => fex_if (fun _ => f) fun _ => p rfl) fun _ => fex_if (fun _ => fex_if (fun _ => f) fun _ => p rfl) fun _ => fex_if (fun _ => f) fun _ => p rfl
theorem joV_ex (c : Rq) : (c.joV l).ex = [] := by
 unfold Rq.joV
 split
 ·rfl
 split
 ·rfl
 split
 ·rfl
 split <;> rfl
theorem fex_joi (h : Fex q) : Fex (joiP l q) := by
 unfold joiP;exact fex_if (fun _ => fex_at h Mq.fail.i) fun _ => fex_push (q := redP _ q) (c := q.c.joS l) (fex_red h) (Mq.joS (q := q.c)).i (joV_ex _)
theorem fex_clg (h : Fex q) : Fex (clgP l q) := by
 unfold clgP;refine fex_if (fun _ => h) fun _ => fex_if (fun _ => fex_clo h (Nat.le_succ _)) fun _ => fex_if (fun _ => fex_clo h (le_nx (.trans .exS .nbS))) fun _ => fex_if (fun _ => fex_if (fun _ => fex_clo h (Nat.le_succ _)) fun _ => fex_clo h (Nat.le_succ _)) fun _ => fex_if (fun a => ?_) fun _ => fex_if (fun _ => fex_clo h (Nat.le_succ _)) fun _ => fex_at h Mq.fail.i;intro z hz;have hz' : z ∈ (⟨(topO q).kd,(topO q).lv,(topO q).tm,(topO q).op,(topO q).f.wEx ((topO q).f.ex ++ [tE q.x])⟩ : Ov) :: q.op.tail := hz;show z.f.ex.length ≤ q.c.i + 1;rcases List.mem_cons.1 hz' with e | hz
 ·subst e;show ((topO q).f.ex ++ [tE q.x]).length ≤ _;rw [List.length_append]
  have : (topO q).f.ex.length ≤ q.c.i := by
   unfold topO;cases hq : q.op with
   | nil => exact Nat.zero_le _
   | cons o r => exact h o (by rw [hq];exact List.mem_cons_self ..)
  simp only [List.length_cons,List.length_nil];omega
 ·exact Nat.le_trans (h z (List.mem_of_mem_tail hz)) (Nat.le_succ _)
theorem fex_step (h : Fex q) : Fex (stepP l q) := by
 unfold stepP;refine fex_if (fun _ => ?_) fun _ => fex_operand h;unfold operatorP;cases q.c.sym l with
 | some i => exact fex_bet h
 | none =>
  show Fex (othP l q);unfold othP;exact fex_if (fun _ => fex_joi h) fun _ => fex_if (fun _ => fex_clg (fex_red h)) fun _ => fex_at h Mq.fail.i
end
def symP (t : Str) (i : Nat) : Bool := decide (fsyms.getD i [] = t) && decide (¬ i = 0)
theorem symF_some {t : Str} {k : Nat} (hk : k < 22) (h : symP t k = true) (hp : ∀ j,j < k → symP t j = false) : symF t = some k := List.find?_range_eq_some.2 ⟨h,List.mem_range.2 hk,fun j hj => by
 have := hp j hj;unfold symP at this;rw [this];rfl⟩
theorem all_succ {p : Nat → Prop} {k : Nat} (h : ∀ j,j < k → p j) (hk : p k) : ∀ j,j < k + 1 → p j := fun j hj => by
 by_cases e : j = k
 ·rw [e];exact hk
 ·exact h j (by omega)
theorem symF_none {t : Str} (hp : ∀ j,j < 22 → symP t j = false) : symF t = none := List.find?_range_eq_none.2 fun j hj => by
 have := hp j hj;unfold symP at this;rw [this];rfl
theorem u8_of {k : Nat} (h : k < 256) : IntKind.u8.wrap (k : Int) = (((UInt8.ofNat k).toNat : Nat) : Int) := by
 have key : ∀ i ∈ List.range 256,IntKind.u8.wrap (i : Int) = (i : Int) := by decide +kernel
 rw [key k (List.mem_range.2 h),UInt8.toNat_ofNat_of_lt' h]
set_option maxHeartbeats 2000000 in
set_option maxRecDepth 100000 in
theorem operator_f {H : Hp} {w0 W : World} {bs : List Res} {b : Nat} {l : Tks} {tp : Option Addr} {tc : Nat} {ro rv : Value} {xo xv : List Value} {AR : List Res} {q : Rq} {op : List Ov} {x : Vb} {dn : Bool} (K : Tkf H l tp tc) (Wq : Fwf l ⟨q,op,x,true,dn⟩) (S : Sq H ⟨q,op,x,true,dn⟩ xo xv AR) (G : Gf H) (h0 : q.er = 0) (FE : Fex (⟨q,op,x,true,dn⟩ : Ps)) (s : St H w0 (.box b [.slice tp l.length tc,.int .i64 (q.i : Nat),ro,rv,.bool true,.bool dn,.bool x.2,.int .i64 (q.off : Nat),.int .i64 (q.er : Nat)] 102 :: .row 97 11 (ro) (op.length) (xo) :: .row 179 13 (rv) (x.1.length) (xv) :: (AR ++ bs)) W) :
 Calls Tryz.prog 55 #[.pointer (some ⟨b,0,none⟩)] W (Get w0 bs b l tp tc H (operatorP l ⟨q,op,x,true,dn⟩)) := by
 have hq : q.i < l.length := Wq.i;have hcap := K.rep.cap;refine Sx.enterS Tryz.func55 rfl Tryz.ntmps55 rfl s ?_;refine .sr<|.m Z Z<|.cs (X := Unit) Fx.call98 Z (fun W s => token_f K hq  (s.pickT (hd := [_,_,_]) (tl := (AR ++ bs)) (hd' := [_,_,_]) [0,1,2] Z Z)) Z fun _ _ => .al Fx.zero108 Z fun b2 => .sW .head Z Z Fx.size108 (by simp [cTk,Value.oneCell',strV]) Z<|.nt<|.sq<|.cu (X := Bool) [(0,_),(2,_)] ⟨rfl,rfl,trivial⟩ (fun z => [(14,.bool z)]) (fun z => H) (fun z => (.box b2 (cTk .u8 (tkf l q.i)) 108 :: .box b [.slice tp l.length tc,.int .i64 (q.i : Nat),ro,rv,.bool true,.bool dn,.bool x.2,.int .i64 (q.off : Nat),.int .i64 (q.er : Nat)] 102 :: .row 97 11 (ro) (op.length) (xo) :: .row 179 13 (rv) (x.1.length) (xv) :: (AR ++ bs))) (fun z => z = (decide ((tkf l q.i).k = 2) || decide ((tkf l q.i).k = 4))) ?_ fun z hC => ?_
 ·
  refine .rg<|.yv (.fieldAddr Z Fx.field108_0) Z<|.yv (.load Z Fx.agg106 (.head _) Z) Z<|.yv (.eql Z Z) Z<|.m Z Z<|.b2 (fun h10 => ?_) (fun h10 => ?_)
  ·skip
   exact .gF Z Z Z Z<|.gF Z Z Z Z<|.gF Z Z Z Z<|.yv (.pickT Z Z) Z<|.nt<|.me _ ⟨rfl,trivial⟩ ⟨rfl,rfl,trivial⟩ (fun _ s => s) (by first | (rw [← k82,← k84,h11,Bool.true_or]) | (rw [← k82,← k84,h11,Bool.false_or]) | (rw [← k82,← k84,h10,Bool.true_or]) | (rw [← k82,← k84,h10,Bool.false_or]))
  skip
  exact .gd Z Z<|.yv (.fieldAddr Z Fx.field108_0) Z<|.gd Z Z<|.yv (.load Z Fx.agg106 (.head _) Z) Z<|.gd Z Z<|.yv (.eql Z Z) Z<|.yv (.pickF Z Z) Z<|.nt<|.me _ ⟨rfl,trivial⟩ ⟨rfl,rfl,trivial⟩ (fun _ s => s) (by first | (rw [← k82,← k84,h11,Bool.true_or]) | (rw [← k82,← k84,h11,Bool.false_or]) | (rw [← k82,← k84,h10,Bool.true_or]) | (rw [← k82,← k84,h10,Bool.false_or]))
 have e14 := hC;refine .cd Z (fun h14 => ?_) (fun h14 => ?_)
 ·have hk24 : (tkf l q.i).k = 2 ∨ (tkf l q.i).k = 4 := by
   rw [h14] at e14;rcases Bool.or_eq_true _ _ |>.mp e14.symm with h | h
   ·exact .inl (of_decide_eq_true h)
   ·exact .inr (of_decide_eq_true h)
  refine .sr<|.yv (.loadMW Z Fx.agg165 G.syms Z) Z<|.m Z Z<|.nt<|.bk<|.lp (X := Nat) [(0,_),(2,_),(15,_)] ⟨rfl,rfl,rfl,trivial⟩ ((AR ++ bs)) (fun k => [(16,.int .i64 (k : Nat))]) (fun k => H) (fun k => [.box b2 (cTk .u8 (tkf l q.i)) 108,.box b [.slice tp l.length tc,.int .i64 (q.i : Nat),ro,rv,.bool true,.bool dn,.bool x.2,.int .i64 (q.off : Nat),.int .i64 (q.er : Nat)] 102,.row 97 11 (ro) (op.length) (xo),.row 179 13 (rv) (x.1.length) (xv)]) (fun k => k ≤ 22 ∧ ∀ j,j < k → symP (tkf l q.i).t j = false) (fun k => 22 - k) 0 (fun _ s => s) ⟨rfl,trivial⟩ ⟨by decide,fun j h => by omega⟩ fun k hC => ?_
  obtain ⟨hk0,hpk⟩ := hC;refine .sr<|.yv (.lss Z Z) Z<|.nt<|.sq<|.cd Z (fun h17 => ?_) (fun h17 => ?_)
  ·try simp only [dt] at h17
   have hk : k < 22 := by omega
   refine .sk<|.tN<|.sq<|.bk<|.sr<|.m Z Z<|.yv (.idxA Fx.arr165 Fx.are165 Z Z Z (by omega) (list_at (by show k < 22;omega) [])) Z<|.a Z Z<|.a Z Z<|.ns<|.m Z Z<|.yv (.fieldAddr Z Fx.field108_1) Z<|.yv (.load Z Fx.agg9 (.head _) Z) Z<|.yv (.eqS Z Z) Z<|.m Z Z<|.b2 (fun h24 => ?_) (fun h24 => ?_)
   ·have q24 : fsyms.getD k [] = (tkf l q.i).t := of_decide_eq_true h24;refine .gd Z Z<|.yv (.move Z) Z<|.gd Z Z<|.yv (.neq Z Z) Z<|.yv (.pickT Z Z) Z<|.nt<|.cd Z (fun h27 => ?_) (fun h27 => ?_)
    ·have hyk : symP (tkf l q.i).t k = true := by unfold symP;rw [decide_eq_true q24,decide_eq_true (show ¬ k = 0 by have := of_decide_eq_true h27;omega)];rfl
     have hsy : q.sym l = some k := by unfold Rq.sym;rw [if_pos hk24];exact symF_some hk hyk hpk
     have hac := (sym_ac K.gd.last h0 hsy).1;refine .sr<|.m Z Z<|.m Z Z<|.yv (.conv Z Fx.int3 Fx.int5 (c := (((UInt8.ofNat k).toNat : Nat) : Int)) (u8_of (by omega))) Z<|.cs (X := Hp × Value × Value × List Value × List Value × List Res) Fx.call99 Z (fun W s => between_f K Wq S (UInt8.ofNat k) (wi_ac K.gd.last hq hac) (St.mid (a := [_,_,_]) (d := [_]) (s.pickT (hd := [_,_,_,_]) (tl := (AR ++ bs)) (hd' := [_,_,_,_]) [1,2,3,0] Z Z))) Z fun z9 hz9 => ?_
     obtain ⟨H1,ro,rv,xo,xv,AR⟩ := z9;obtain ⟨u1,S⟩ := hz9;dsimp only at u1 S ⊢;refine Sx.reSt (fun W s => St.mid (a := [_,_,_]) (d := AR) (c := [_]) s) ?_;refine .nt<|.rt<|.bR<|.tR<|.tR<|.bR<|.tR<|?_
     refine Sx.retN (.inl rfl) rfl .nil rfl fun W s => ?_;have e0 : operatorP l (⟨q,op,x,true,dn⟩ : Ps) = betP l (UInt8.ofNat k) (⟨q,op,x,true,dn⟩ : Ps) := by unfold operatorP;rw [hsy]
     rw [e0];exact ⟨(_,_,_,_,_,AR),⟨u1,⟨S.ops,S.vls⟩⟩,rfl,s.pickT (hd := [_,_,_,_]) (tl := (AR ++ bs)) (hd' := [_,_,_]) [0,1,2] rfl rfl⟩
    have hnk : symP (tkf l q.i).t k = false := by unfold symP;rw [decide_eq_false (show ¬ ¬ k = 0 by have := of_decide_eq_false h27;omega),Bool.and_false]
    exact .sk<|.bN<|.tN<|.rg<|.yv (.add Z Z (w6 (by omega))) Z<|.m Z Z<|.nt<|.ag (k + 1) ⟨rfl,trivial⟩ ⟨rfl,rfl,rfl,trivial⟩ (fun _ s => s) ⟨by omega,all_succ hpk hnk⟩ (by omega)
   have hnk : symP (tkf l q.i).t k = false := by unfold symP;rw [decide_eq_false (of_decide_eq_false h24)];rfl
   exact .gF Z Z Z Z<|.gF Z Z Z Z<|.yv (.pickF Z Z) Z<|.nt<|.cF Z<|.sk<|.bN<|.tN<|.rg<|.yv (.add Z Z (w6 (by omega))) Z<|.m Z Z<|.nt<|.ag (k + 1) ⟨rfl,trivial⟩ ⟨rfl,rfl,rfl,trivial⟩ (fun _ s => s) ⟨by omega,all_succ hpk hnk⟩ (by omega)
  try simp only [df] at h17
  obtain rfl : k = 22 := by omega
  have hsy : q.sym l = none := by unfold Rq.sym;rw [if_pos hk24];exact symF_none hpk
  refine .ex<|.tE<|.tE<|.bE<|.tN<|.bk<|.cu (X := Bool) [(0,_),(2,_)] ⟨rfl,rfl,trivial⟩ (fun z => [(35,.bool z)]) (fun z => H) (fun z => (.box b2 (cTk .u8 (tkf l q.i)) 108 :: .box b [.slice tp l.length tc,.int .i64 (q.i : Nat),ro,rv,.bool true,.bool dn,.bool x.2,.int .i64 (q.off : Nat),.int .i64 (q.er : Nat)] 102 :: .row 97 11 (ro) (op.length) (xo) :: .row 179 13 (rv) (x.1.length) (xv) :: (AR ++ bs))) (fun z => z = q.wrd l) ?_ fun z hC => ?_
  ·
   refine .sr<|.m Z Z<|.cs (X := Unit) Fx.call100 Z (fun W s => is_f K hq [115,105,110,99,101] (s.pickT (hd := [_,_,_,_]) (tl := (AR ++ bs)) (hd' := [_,_,_,_]) [1,0,2,3] Z Z)) Z fun _ _ => .a Z Z<|.nt<|.cd Z (fun h35 => ?_) (fun h35 => ?_)
   ·have i1 := h35;exact .sk<|.tN<|.me _ ⟨rfl,trivial⟩ ⟨rfl,rfl,trivial⟩ (fun _ s => (s.pickT (hd := [_,_,_,_]) (tl := (AR ++ bs)) (hd' := [_,_,_,_]) [1,0,2,3] Z Z)) (by unfold Rq.wrd;first | simp only [i1,i2,i3,Bool.false_or,Bool.true_or,Bool.or_true,Bool.or_false] | simp only [i1,i2,Bool.false_or,Bool.true_or,Bool.or_true] | simp only [i1,Bool.false_or,Bool.true_or,Bool.or_true])
   have i1 := h35;refine .sr<|.m Z Z<|.cs (X := Unit) Fx.call100 Z (fun W s => is_f K hq [97,110,100] (s.pickT (hd := [_,_,_,_]) (tl := (AR ++ bs)) (hd' := [_,_,_,_]) [0,1,2,3] Z Z)) Z fun _ _ => .a Z Z<|.nt<|.cd Z (fun h35 => ?_) (fun h35 => ?_)
   ·have i2 := h35;exact .sk<|.tN<|.me _ ⟨rfl,trivial⟩ ⟨rfl,rfl,trivial⟩ (fun _ s => (s.pickT (hd := [_,_,_,_]) (tl := (AR ++ bs)) (hd' := [_,_,_,_]) [1,0,2,3] Z Z)) (by unfold Rq.wrd;first | simp only [i1,i2,i3,Bool.false_or,Bool.true_or,Bool.or_true,Bool.or_false] | simp only [i1,i2,Bool.false_or,Bool.true_or,Bool.or_true] | simp only [i1,Bool.false_or,Bool.true_or,Bool.or_true])
   have i2 := h35;refine .sr<|.m Z Z<|.cs (X := Unit) Fx.call100 Z (fun W s => is_f K hq [111,114] (s.pickT (hd := [_,_,_,_]) (tl := (AR ++ bs)) (hd' := [_,_,_,_]) [0,1,2,3] Z Z)) Z fun _ _ => .a Z Z<|.nt<|.cd Z (fun h35 => ?_) (fun h35 => ?_)
   ·have i3 := h35;exact .sk<|.tN<|.me _ ⟨rfl,trivial⟩ ⟨rfl,rfl,trivial⟩ (fun _ s => (s.pickT (hd := [_,_,_,_]) (tl := (AR ++ bs)) (hd' := [_,_,_,_]) [1,0,2,3] Z Z)) (by unfold Rq.wrd;first | simp only [i1,i2,i3,Bool.false_or,Bool.true_or,Bool.or_true,Bool.or_false] | simp only [i1,i2,Bool.false_or,Bool.true_or,Bool.or_true] | simp only [i1,Bool.false_or,Bool.true_or,Bool.or_true])
   have i3 := h35;exact .rg<|.m Z Z<|.cs (X := Unit) Fx.call100 Z (fun W s => is_f K hq [105,109,112,108,105,101,115] (s.pickT (hd := [_,_,_,_]) (tl := (AR ++ bs)) (hd' := [_,_,_,_]) [0,1,2,3] Z Z)) Z fun _ _ => .a Z Z<|.nt<|.me _ ⟨rfl,trivial⟩ ⟨rfl,rfl,trivial⟩ (fun _ s => (s.pickT (hd := [_,_,_,_]) (tl := (AR ++ bs)) (hd' := [_,_,_,_]) [1,0,2,3] Z Z)) (by unfold Rq.wrd;first | simp only [i1,i2,i3,Bool.false_or,Bool.true_or,Bool.or_true,Bool.or_false] | simp only [i1,i2,Bool.false_or,Bool.true_or,Bool.or_true] | simp only [i1,Bool.false_or,Bool.true_or,Bool.or_true])
  have ew := hC;refine .cd Z (fun h35 => ?_) (fun h35 => ?_)
  ·have w35 := h35;refine .rg<|.m Z Z<|.cs (X := Hp × Value × Value × List Value × List Value × List Res) Fx.call101 Z (fun W s => join_f K Wq S G h0 (by rw [← ew];exact w35) (St.mid (a := [_,_,_]) (d := [_]) (s.pickT (hd := [_,_,_,_]) (tl := (AR ++ bs)) (hd' := [_,_,_,_]) [1,2,3,0] Z Z))) Z fun z9 hz9 => ?_
   obtain ⟨H1,ro,rv,xo,xv,AR⟩ := z9;obtain ⟨u1,S⟩ := hz9;dsimp only at u1 S ⊢;refine Sx.reSt (fun W s => St.mid (a := [_,_,_]) (d := AR) (c := [_]) s) ?_;refine .nl<|.bN<|?_
   refine Sx.retN (.inr rfl) rfl .nil rfl fun W s => ?_;have e0 : operatorP l (⟨q,op,x,true,dn⟩ : Ps) = othP l (⟨q,op,x,true,dn⟩ : Ps) := by unfold operatorP;rw [show q.sym l = none from hsy]
   rw [e0];have e1 : othP l (⟨q,op,x,true,dn⟩ : Ps) = joiP l (⟨q,op,x,true,dn⟩ : Ps) := by unfold othP;exact if_pos (by rw [← ew];exact w35)
   rw [e1];exact ⟨(_,_,_,_,_,AR),⟨u1,⟨S.ops,S.vls⟩⟩,rfl,s.pickT (hd := [_,_,_,_]) (tl := (AR ++ bs)) (hd' := [_,_,_]) [0,1,2] rfl rfl⟩
  have w35 := h35;refine .cu (X := Bool) [(0,_)] ⟨rfl,trivial⟩ (fun z => [(46,.bool z)]) (fun z => H) (fun z => (.box b2 (cTk .u8 (tkf l q.i)) 108 :: .box b [.slice tp l.length tc,.int .i64 (q.i : Nat),ro,rv,.bool true,.bool dn,.bool x.2,.int .i64 (q.off : Nat),.int .i64 (q.er : Nat)] 102 :: .row 97 11 (ro) (op.length) (xo) :: .row 179 13 (rv) (x.1.length) (xv) :: (AR ++ bs))) (fun z => z = q.endB l) ?_ fun z hC => ?_
  ·
   refine .sr<|.m Z Z<|.cs (X := Unit) Fx.call100 Z (fun W s => is_f K hq [41] (s.pickT (hd := [_,_,_,_]) (tl := (AR ++ bs)) (hd' := [_,_,_,_]) [1,0,2,3] Z Z)) Z fun _ _ => .a Z Z<|.nt<|.cd Z (fun h46 => ?_) (fun h46 => ?_)
   ·have j1 := h46;exact .sk<|.tN<|.me _ ⟨rfl,trivial⟩ ⟨rfl,trivial⟩ (fun _ s => (s.pickT (hd := [_,_,_,_]) (tl := (AR ++ bs)) (hd' := [_,_,_,_]) [1,0,2,3] Z Z)) (by unfold Rq.endB;rw [← k80];first | simp only [j1,j2,j3,Bool.false_or,Bool.true_or,Bool.or_true,Bool.or_false] | simp only [j1,j2,Bool.false_or,Bool.true_or,Bool.or_true] | simp only [j1,Bool.false_or,Bool.true_or,Bool.or_true])
   have j1 := h46;refine .sr<|.m Z Z<|.cs (X := Unit) Fx.call100 Z (fun W s => is_f K hq [93] (s.pickT (hd := [_,_,_,_]) (tl := (AR ++ bs)) (hd' := [_,_,_,_]) [0,1,2,3] Z Z)) Z fun _ _ => .a Z Z<|.nt<|.cd Z (fun h46 => ?_) (fun h46 => ?_)
   ·have j2 := h46;exact .sk<|.tN<|.me _ ⟨rfl,trivial⟩ ⟨rfl,trivial⟩ (fun _ s => (s.pickT (hd := [_,_,_,_]) (tl := (AR ++ bs)) (hd' := [_,_,_,_]) [1,0,2,3] Z Z)) (by unfold Rq.endB;rw [← k80];first | simp only [j1,j2,j3,Bool.false_or,Bool.true_or,Bool.or_true,Bool.or_false] | simp only [j1,j2,Bool.false_or,Bool.true_or,Bool.or_true] | simp only [j1,Bool.false_or,Bool.true_or,Bool.or_true])
   have j2 := h46;refine .sr<|.m Z Z<|.cs (X := Unit) Fx.call100 Z (fun W s => is_f K hq [44] (s.pickT (hd := [_,_,_,_]) (tl := (AR ++ bs)) (hd' := [_,_,_,_]) [0,1,2,3] Z Z)) Z fun _ _ => .a Z Z<|.nt<|.cd Z (fun h46 => ?_) (fun h46 => ?_)
   ·have j3 := h46;exact .sk<|.tN<|.me _ ⟨rfl,trivial⟩ ⟨rfl,trivial⟩ (fun _ s => (s.pickT (hd := [_,_,_,_]) (tl := (AR ++ bs)) (hd' := [_,_,_,_]) [1,0,2,3] Z Z)) (by unfold Rq.endB;rw [← k80];first | simp only [j1,j2,j3,Bool.false_or,Bool.true_or,Bool.or_true,Bool.or_false] | simp only [j1,j2,Bool.false_or,Bool.true_or,Bool.or_true] | simp only [j1,Bool.false_or,Bool.true_or,Bool.or_true])
   have j3 := h46;exact .rg<|.yv (.fieldAddr Z Fx.field108_0) Z<|.yv (.load Z Fx.agg106 (.tail _<|.head _) Z) Z<|.yv (.eql Z Z) Z<|.a Z Z<|.nt<|.me _ ⟨rfl,trivial⟩ ⟨rfl,trivial⟩ (fun _ s => (s.pickT (hd := [_,_,_,_]) (tl := (AR ++ bs)) (hd' := [_,_,_,_]) [1,0,2,3] Z Z)) (by unfold Rq.endB;rw [← k80];first | simp only [j1,j2,j3,Bool.false_or,Bool.true_or,Bool.or_true,Bool.or_false] | simp only [j1,j2,Bool.false_or,Bool.true_or,Bool.or_true] | simp only [j1,Bool.false_or,Bool.true_or,Bool.or_true])
  have ee := hC;refine .cd Z (fun h46 => ?_) (fun h46 => ?_)
  ·have w46 := h46;refine .sr<|.m Z Z<|.cs (X := Hp × Value × Value × List Value × List Value × List Res) Fx.call102 Z (fun W s => reduce_f K Wq S 1 (by omega) (St.mid (a := [_,_,_]) (d := [_]) (s.pickT (hd := [_,_,_,_]) (tl := (AR ++ bs)) (hd' := [_,_,_,_]) [1,2,3,0] Z Z))) Z fun z9 hz9 => ?_
   obtain ⟨H1,ro,rv,xo,xv,AR⟩ := z9;obtain ⟨u1,S⟩ := hz9;dsimp only at u1 S ⊢;refine Sx.reSt (fun W s => St.mid (a := [_,_,_]) (d := AR) (c := [_]) s) ?_;obtain ⟨op7,x7,e7⟩ : ∃ op7 x7,redP 1 ((⟨q,op,x,true,dn⟩ : Ps) : Ps) = ⟨q,op7,x7,true,dn⟩ := ⟨_,_,rfl⟩;rw [e7] at S ⊢;dsimp only at S ⊢;have W7 : Fwf l ⟨q,op7,x7,true,dn⟩ := by rw [← e7];exact wf_red (by omega) Wq rfl
   obtain ⟨hm1,hm2⟩ := wf_len W7 K.few;dsimp only at hm1 hm2;have hne7 : op7 ≠ [] := W7.ne;have FE1 : Fex (⟨q,op7,x7,true,dn⟩ : Ps) := by rw [← e7];exact fex_red FE
   refine .nt<|.rg<|.m Z Z<|.cs (X := Hp × Value × Value × List Value × List Value × List Res) Fx.call103 Z (fun W s => closing_f (K.up u1.up) W7 S (fun z hz => Nat.le_trans (FE1 z hz) (Nat.le_trans (Nat.le_of_lt hq) K.few)) (St.mid (a := [_,_,_]) (d := [_]) (s.pickT (hd := [_,_,_,_]) (tl := (AR ++ bs)) (hd' := [_,_,_,_]) [0,1,2,3] Z Z))) Z fun z9 hz9 => ?_
   obtain ⟨H2,ro,rv,xo,xv,AR⟩ := z9;obtain ⟨u2,S⟩ := hz9;dsimp only at u2 S ⊢;refine Sx.reSt (fun W s => St.mid (a := [_,_,_]) (d := AR) (c := [_]) s) ?_;refine .nl<|.bN<|?_
   refine Sx.retN (.inr rfl) rfl .nil rfl fun W s => ?_;have e0 : operatorP l (⟨q,op,x,true,dn⟩ : Ps) = othP l (⟨q,op,x,true,dn⟩ : Ps) := by unfold operatorP;rw [show q.sym l = none from hsy]
   rw [e0];have e1 : othP l (⟨q,op,x,true,dn⟩ : Ps) = clgP l (⟨q,op7,x7,true,dn⟩ : Ps) := by unfold othP;rw [if_neg (show ¬ q.wrd l = true by rw [← ew,w35];decide),if_pos (show q.endB l = true by rw [← ee];exact w46),e7]
   rw [e1];exact ⟨(_,_,_,_,_,AR),⟨(u1.trans u2),⟨S.ops,S.vls⟩⟩,rfl,s.pickT (hd := [_,_,_,_]) (tl := (AR ++ bs)) (hd' := [_,_,_]) [0,1,2] rfl rfl⟩
  have w46 := h46;refine .rg<|.m Z Z<|.cs (X := Unit) Fx.call104 Z (fun W s => fail_f K hq 8 (s.pickT (hd := [_,_,_,_]) (tl := (AR ++ bs)) (hd' := [_,_,_,_]) [1,0,2,3] Z Z)) Z fun _ _ => .nl<|.bN<|?_
  refine Sx.retN (.inr rfl) rfl .nil rfl fun W s => ?_;have e0 : operatorP l (⟨q,op,x,true,dn⟩ : Ps) = othP l (⟨q,op,x,true,dn⟩ : Ps) := by unfold operatorP;rw [show q.sym l = none from hsy]
  rw [e0];have e1 : othP l (⟨q,op,x,true,dn⟩ : Ps) = (⟨q,op,x,true,dn⟩ : Ps).at (q.fail l 8) := by unfold othP;rw [if_neg (show ¬ q.wrd l = true by rw [← ew,w35];decide),if_neg (show ¬ q.endB l = true by rw [← ee,w46];decide)]
  rw [e1];exact ⟨(_,_,_,_,_,AR),⟨.refl,⟨S.ops,S.vls⟩⟩,rfl,s.pickT (hd := [_,_,_,_]) (tl := (AR ++ bs)) (hd' := [_,_,_]) [0,2,3] rfl rfl⟩
 have hk24 : ¬ ((tkf l q.i).k = 2 ∨ (tkf l q.i).k = 4) := fun h => by
  rw [h14] at e14;rcases h with h | h <;> rw [h] at e14 <;> simp at e14
 have hsy : q.sym l = none := by unfold Rq.sym;rw [if_neg hk24]
 refine .sk<|.tN<|.bk<|.cu (X := Bool) [(0,_),(2,_)] ⟨rfl,rfl,trivial⟩ (fun z => [(35,.bool z)]) (fun z => H) (fun z => (.box b2 (cTk .u8 (tkf l q.i)) 108 :: .box b [.slice tp l.length tc,.int .i64 (q.i : Nat),ro,rv,.bool true,.bool dn,.bool x.2,.int .i64 (q.off : Nat),.int .i64 (q.er : Nat)] 102 :: .row 97 11 (ro) (op.length) (xo) :: .row 179 13 (rv) (x.1.length) (xv) :: (AR ++ bs))) (fun z => z = q.wrd l) ?_ fun z hC => ?_
 ·
  refine .sr<|.m Z Z<|.cs (X := Unit) Fx.call100 Z (fun W s => is_f K hq [115,105,110,99,101] (s.pickT (hd := [_,_,_,_]) (tl := (AR ++ bs)) (hd' := [_,_,_,_]) [1,0,2,3] Z Z)) Z fun _ _ => .a Z Z<|.nt<|.cd Z (fun h35 => ?_) (fun h35 => ?_)
  ·have i1 := h35;exact .sk<|.tN<|.me _ ⟨rfl,trivial⟩ ⟨rfl,rfl,trivial⟩ (fun _ s => (s.pickT (hd := [_,_,_,_]) (tl := (AR ++ bs)) (hd' := [_,_,_,_]) [1,0,2,3] Z Z)) (by unfold Rq.wrd;first | simp only [i1,i2,i3,Bool.false_or,Bool.true_or,Bool.or_true,Bool.or_false] | simp only [i1,i2,Bool.false_or,Bool.true_or,Bool.or_true] | simp only [i1,Bool.false_or,Bool.true_or,Bool.or_true])
  have i1 := h35;refine .sr<|.m Z Z<|.cs (X := Unit) Fx.call100 Z (fun W s => is_f K hq [97,110,100] (s.pickT (hd := [_,_,_,_]) (tl := (AR ++ bs)) (hd' := [_,_,_,_]) [0,1,2,3] Z Z)) Z fun _ _ => .a Z Z<|.nt<|.cd Z (fun h35 => ?_) (fun h35 => ?_)
  ·have i2 := h35;exact .sk<|.tN<|.me _ ⟨rfl,trivial⟩ ⟨rfl,rfl,trivial⟩ (fun _ s => (s.pickT (hd := [_,_,_,_]) (tl := (AR ++ bs)) (hd' := [_,_,_,_]) [1,0,2,3] Z Z)) (by unfold Rq.wrd;first | simp only [i1,i2,i3,Bool.false_or,Bool.true_or,Bool.or_true,Bool.or_false] | simp only [i1,i2,Bool.false_or,Bool.true_or,Bool.or_true] | simp only [i1,Bool.false_or,Bool.true_or,Bool.or_true])
  have i2 := h35;refine .sr<|.m Z Z<|.cs (X := Unit) Fx.call100 Z (fun W s => is_f K hq [111,114] (s.pickT (hd := [_,_,_,_]) (tl := (AR ++ bs)) (hd' := [_,_,_,_]) [0,1,2,3] Z Z)) Z fun _ _ => .a Z Z<|.nt<|.cd Z (fun h35 => ?_) (fun h35 => ?_)
  ·have i3 := h35;exact .sk<|.tN<|.me _ ⟨rfl,trivial⟩ ⟨rfl,rfl,trivial⟩ (fun _ s => (s.pickT (hd := [_,_,_,_]) (tl := (AR ++ bs)) (hd' := [_,_,_,_]) [1,0,2,3] Z Z)) (by unfold Rq.wrd;first | simp only [i1,i2,i3,Bool.false_or,Bool.true_or,Bool.or_true,Bool.or_false] | simp only [i1,i2,Bool.false_or,Bool.true_or,Bool.or_true] | simp only [i1,Bool.false_or,Bool.true_or,Bool.or_true])
  have i3 := h35;exact .rg<|.m Z Z<|.cs (X := Unit) Fx.call100 Z (fun W s => is_f K hq [105,109,112,108,105,101,115] (s.pickT (hd := [_,_,_,_]) (tl := (AR ++ bs)) (hd' := [_,_,_,_]) [0,1,2,3] Z Z)) Z fun _ _ => .a Z Z<|.nt<|.me _ ⟨rfl,trivial⟩ ⟨rfl,rfl,trivial⟩ (fun _ s => (s.pickT (hd := [_,_,_,_]) (tl := (AR ++ bs)) (hd' := [_,_,_,_]) [1,0,2,3] Z Z)) (by unfold Rq.wrd;first | simp only [i1,i2,i3,Bool.false_or,Bool.true_or,Bool.or_true,Bool.or_false] | simp only [i1,i2,Bool.false_or,Bool.true_or,Bool.or_true] | simp only [i1,Bool.false_or,Bool.true_or,Bool.or_true])
 have ew := hC;refine .cd Z (fun h35 => ?_) (fun h35 => ?_)
 ·have w35 := h35;refine .rg<|.m Z Z<|.cs (X := Hp × Value × Value × List Value × List Value × List Res) Fx.call101 Z (fun W s => join_f K Wq S G h0 (by rw [← ew];exact w35) (St.mid (a := [_,_,_]) (d := [_]) (s.pickT (hd := [_,_,_,_]) (tl := (AR ++ bs)) (hd' := [_,_,_,_]) [1,2,3,0] Z Z))) Z fun z9 hz9 => ?_
  obtain ⟨H1,ro,rv,xo,xv,AR⟩ := z9;obtain ⟨u1,S⟩ := hz9;dsimp only at u1 S ⊢;refine Sx.reSt (fun W s => St.mid (a := [_,_,_]) (d := AR) (c := [_]) s) ?_;refine .nl<|.bN<|?_
  refine Sx.retN (.inr rfl) rfl .nil rfl fun W s => ?_;have e0 : operatorP l (⟨q,op,x,true,dn⟩ : Ps) = othP l (⟨q,op,x,true,dn⟩ : Ps) := by unfold operatorP;rw [show q.sym l = none from hsy]
  rw [e0];have e1 : othP l (⟨q,op,x,true,dn⟩ : Ps) = joiP l (⟨q,op,x,true,dn⟩ : Ps) := by unfold othP;exact if_pos (by rw [← ew];exact w35)
  rw [e1];exact ⟨(_,_,_,_,_,AR),⟨u1,⟨S.ops,S.vls⟩⟩,rfl,s.pickT (hd := [_,_,_,_]) (tl := (AR ++ bs)) (hd' := [_,_,_]) [0,1,2] rfl rfl⟩
 have w35 := h35;refine .cu (X := Bool) [(0,_)] ⟨rfl,trivial⟩ (fun z => [(46,.bool z)]) (fun z => H) (fun z => (.box b2 (cTk .u8 (tkf l q.i)) 108 :: .box b [.slice tp l.length tc,.int .i64 (q.i : Nat),ro,rv,.bool true,.bool dn,.bool x.2,.int .i64 (q.off : Nat),.int .i64 (q.er : Nat)] 102 :: .row 97 11 (ro) (op.length) (xo) :: .row 179 13 (rv) (x.1.length) (xv) :: (AR ++ bs))) (fun z => z = q.endB l) ?_ fun z hC => ?_
 ·
  refine .sr<|.m Z Z<|.cs (X := Unit) Fx.call100 Z (fun W s => is_f K hq [41] (s.pickT (hd := [_,_,_,_]) (tl := (AR ++ bs)) (hd' := [_,_,_,_]) [1,0,2,3] Z Z)) Z fun _ _ => .a Z Z<|.nt<|.cd Z (fun h46 => ?_) (fun h46 => ?_)
  ·have j1 := h46;exact .sk<|.tN<|.me _ ⟨rfl,trivial⟩ ⟨rfl,trivial⟩ (fun _ s => (s.pickT (hd := [_,_,_,_]) (tl := (AR ++ bs)) (hd' := [_,_,_,_]) [1,0,2,3] Z Z)) (by unfold Rq.endB;rw [← k80];first | simp only [j1,j2,j3,Bool.false_or,Bool.true_or,Bool.or_true,Bool.or_false] | simp only [j1,j2,Bool.false_or,Bool.true_or,Bool.or_true] | simp only [j1,Bool.false_or,Bool.true_or,Bool.or_true])
  have j1 := h46;refine .sr<|.m Z Z<|.cs (X := Unit) Fx.call100 Z (fun W s => is_f K hq [93] (s.pickT (hd := [_,_,_,_]) (tl := (AR ++ bs)) (hd' := [_,_,_,_]) [0,1,2,3] Z Z)) Z fun _ _ => .a Z Z<|.nt<|.cd Z (fun h46 => ?_) (fun h46 => ?_)
  ·have j2 := h46;exact .sk<|.tN<|.me _ ⟨rfl,trivial⟩ ⟨rfl,trivial⟩ (fun _ s => (s.pickT (hd := [_,_,_,_]) (tl := (AR ++ bs)) (hd' := [_,_,_,_]) [1,0,2,3] Z Z)) (by unfold Rq.endB;rw [← k80];first | simp only [j1,j2,j3,Bool.false_or,Bool.true_or,Bool.or_true,Bool.or_false] | simp only [j1,j2,Bool.false_or,Bool.true_or,Bool.or_true] | simp only [j1,Bool.false_or,Bool.true_or,Bool.or_true])
  have j2 := h46;refine .sr<|.m Z Z<|.cs (X := Unit) Fx.call100 Z (fun W s => is_f K hq [44] (s.pickT (hd := [_,_,_,_]) (tl := (AR ++ bs)) (hd' := [_,_,_,_]) [0,1,2,3] Z Z)) Z fun _ _ => .a Z Z<|.nt<|.cd Z (fun h46 => ?_) (fun h46 => ?_)
  ·have j3 := h46;exact .sk<|.tN<|.me _ ⟨rfl,trivial⟩ ⟨rfl,trivial⟩ (fun _ s => (s.pickT (hd := [_,_,_,_]) (tl := (AR ++ bs)) (hd' := [_,_,_,_]) [1,0,2,3] Z Z)) (by unfold Rq.endB;rw [← k80];first | simp only [j1,j2,j3,Bool.false_or,Bool.true_or,Bool.or_true,Bool.or_false] | simp only [j1,j2,Bool.false_or,Bool.true_or,Bool.or_true] | simp only [j1,Bool.false_or,Bool.true_or,Bool.or_true])
  have j3 := h46;exact .rg<|.yv (.fieldAddr Z Fx.field108_0) Z<|.yv (.load Z Fx.agg106 (.tail _<|.head _) Z) Z<|.yv (.eql Z Z) Z<|.a Z Z<|.nt<|.me _ ⟨rfl,trivial⟩ ⟨rfl,trivial⟩ (fun _ s => (s.pickT (hd := [_,_,_,_]) (tl := (AR ++ bs)) (hd' := [_,_,_,_]) [1,0,2,3] Z Z)) (by unfold Rq.endB;rw [← k80];first | simp only [j1,j2,j3,Bool.false_or,Bool.true_or,Bool.or_true,Bool.or_false] | simp only [j1,j2,Bool.false_or,Bool.true_or,Bool.or_true] | simp only [j1,Bool.false_or,Bool.true_or,Bool.or_true])
 have ee := hC;refine .cd Z (fun h46 => ?_) (fun h46 => ?_)
 ·have w46 := h46;refine .sr<|.m Z Z<|.cs (X := Hp × Value × Value × List Value × List Value × List Res) Fx.call102 Z (fun W s => reduce_f K Wq S 1 (by omega) (St.mid (a := [_,_,_]) (d := [_]) (s.pickT (hd := [_,_,_,_]) (tl := (AR ++ bs)) (hd' := [_,_,_,_]) [1,2,3,0] Z Z))) Z fun z9 hz9 => ?_
  obtain ⟨H1,ro,rv,xo,xv,AR⟩ := z9;obtain ⟨u1,S⟩ := hz9;dsimp only at u1 S ⊢;refine Sx.reSt (fun W s => St.mid (a := [_,_,_]) (d := AR) (c := [_]) s) ?_;obtain ⟨op7,x7,e7⟩ : ∃ op7 x7,redP 1 ((⟨q,op,x,true,dn⟩ : Ps) : Ps) = ⟨q,op7,x7,true,dn⟩ := ⟨_,_,rfl⟩;rw [e7] at S ⊢;dsimp only at S ⊢;have W7 : Fwf l ⟨q,op7,x7,true,dn⟩ := by rw [← e7];exact wf_red (by omega) Wq rfl
  obtain ⟨hm1,hm2⟩ := wf_len W7 K.few;dsimp only at hm1 hm2;have hne7 : op7 ≠ [] := W7.ne;have FE1 : Fex (⟨q,op7,x7,true,dn⟩ : Ps) := by rw [← e7];exact fex_red FE
  refine .nt<|.rg<|.m Z Z<|.cs (X := Hp × Value × Value × List Value × List Value × List Res) Fx.call103 Z (fun W s => closing_f (K.up u1.up) W7 S (fun z hz => Nat.le_trans (FE1 z hz) (Nat.le_trans (Nat.le_of_lt hq) K.few)) (St.mid (a := [_,_,_]) (d := [_]) (s.pickT (hd := [_,_,_,_]) (tl := (AR ++ bs)) (hd' := [_,_,_,_]) [0,1,2,3] Z Z))) Z fun z9 hz9 => ?_
  obtain ⟨H2,ro,rv,xo,xv,AR⟩ := z9;obtain ⟨u2,S⟩ := hz9;dsimp only at u2 S ⊢;refine Sx.reSt (fun W s => St.mid (a := [_,_,_]) (d := AR) (c := [_]) s) ?_;refine .nl<|.bN<|?_
  refine Sx.retN (.inr rfl) rfl .nil rfl fun W s => ?_;have e0 : operatorP l (⟨q,op,x,true,dn⟩ : Ps) = othP l (⟨q,op,x,true,dn⟩ : Ps) := by unfold operatorP;rw [show q.sym l = none from hsy]
  rw [e0];have e1 : othP l (⟨q,op,x,true,dn⟩ : Ps) = clgP l (⟨q,op7,x7,true,dn⟩ : Ps) := by unfold othP;rw [if_neg (show ¬ q.wrd l = true by rw [← ew,w35];decide),if_pos (show q.endB l = true by rw [← ee];exact w46),e7]
  rw [e1];exact ⟨(_,_,_,_,_,AR),⟨(u1.trans u2),⟨S.ops,S.vls⟩⟩,rfl,s.pickT (hd := [_,_,_,_]) (tl := (AR ++ bs)) (hd' := [_,_,_]) [0,1,2] rfl rfl⟩
 have w46 := h46;refine .rg<|.m Z Z<|.cs (X := Unit) Fx.call104 Z (fun W s => fail_f K hq 8 (s.pickT (hd := [_,_,_,_]) (tl := (AR ++ bs)) (hd' := [_,_,_,_]) [1,0,2,3] Z Z)) Z fun _ _ => .nl<|.bN<|?_
 refine Sx.retN (.inr rfl) rfl .nil rfl fun W s => ?_;have e0 : operatorP l (⟨q,op,x,true,dn⟩ : Ps) = othP l (⟨q,op,x,true,dn⟩ : Ps) := by unfold operatorP;rw [show q.sym l = none from hsy]
 rw [e0];have e1 : othP l (⟨q,op,x,true,dn⟩ : Ps) = (⟨q,op,x,true,dn⟩ : Ps).at (q.fail l 8) := by unfold othP;rw [if_neg (show ¬ q.wrd l = true by rw [← ew,w35];decide),if_neg (show ¬ q.endB l = true by rw [← ee,w46];decide)]
 rw [e1];exact ⟨(_,_,_,_,_,AR),⟨.refl,⟨S.ops,S.vls⟩⟩,rfl,s.pickT (hd := [_,_,_,_]) (tl := (AR ++ bs)) (hd' := [_,_,_]) [0,2,3] rfl rfl⟩
end Go.Proofs.YtidclioghdbphaaGreatDoor
