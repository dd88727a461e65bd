/- Texts of the proof, one behind the other. -/
import Derived.Test.YtidclioghdbphaaGreatDoorMg
import Derived.Test.YtidclioghdbphaaGreatDoorTie
import Derived.ProofKit
import Derived.OpenShut
import Derived.ShutString
import Derived.Lay
import Derived.Stop.LaidErr
import Derived.Stop.Joined
import Derived.Shelf.Vars
import Derived.Lib.LaidTab
import Derived.Lib.SmallJoins
import Derived.SevenTiedAt
set_option linter.all false
set_option maxRecDepth 100000
namespace Go.Proofs.YtidclioghdbphaaGreatDoor
open Go.RowKit Go.Par Go.Sx
theorem preF_cons (q : UInt8 → Bool) (c : UInt8) (r : Str) : pre q (c :: r) = if q c then pre q r + 1 else 0 := by
 unfold pre;rw [List.takeWhile_cons]
 split <;> simp
theorem preF_take (q : UInt8 → Bool) : ∀ (m : Str),pre q (m.take (pre q m)) = pre q m
 | [] => rfl
 | c :: r => by
  rw [preF_cons];cases h : q c with
  | false => rw [if_neg (by decide)];rfl
  | true => rw [if_pos rfl,List.take_succ_cons,preF_cons,h,if_pos rfl,preF_take q r]
theorem readK_digF {m : Str} (h : m ≠ []) (hk : (readK m).1 = 3) : pre digB (m.take (readK m).2) = (m.take (readK m).2).length := by
 have key : (readK m).2 = pre digB m := by
  match m,h with
  | c :: r,_ =>
   cases h1 : letB c with
   | true =>
    exfalso
    revert hk
    cases h4 : words.contains ((c :: r).take (pre insB (c :: r))) with
    | true => simp only [readK,List.headD_cons,h1,h4,if_true];decide
    | false =>
     by_cases h5 : pre insB (c :: r) ≤ 12
     ·simp only [readK,List.headD_cons,h1,h4,h5,if_true,Bool.false_eq_true,if_false];decide
     ·simp only [readK,List.headD_cons,h1,h4,h5,if_true,Bool.false_eq_true,if_false];decide
   | false =>
    cases h4 : digB c with
    | true =>
     by_cases h5 : pre digB (c :: r) = 1 ∨ c ≠ 48
     ·simp only [readK,List.headD_cons,h1,h4,h5,if_true,Bool.false_eq_true,if_false]
     ·exfalso;revert hk;simp only [readK,List.headD_cons,h1,h4,h5,if_true,Bool.false_eq_true,if_false];decide
    | false =>
     exfalso
     revert hk
     cases hx : symbols.find? (fun x => x.isPrefixOf (c :: r)) <;> simp only [readK,List.headD_cons,h1,h4,hx,Bool.false_eq_true,if_false] <;> decide
 rw [key,preF_take,List.length_take,Nat.min_eq_left (pre_le digB m)]
theorem tokF_numF : ∀ (f o : Nat) (m : Str),∀ t ∈ tokF f o m,t.k = 3 → pre digB t.t = t.t.length
 | 0,_,_,t,h => by cases h
 | f + 1,o,m,t,h => by
  by_cases h0 : m = []
  ·rw [h0,tokF_nil] at h;cases h
  ·rw [tokF_step h0] at h;rcases List.mem_cons.1 h with rfl | h
   ·exact fun hk => readK_digF h0 hk
   ·exact tokF_numF f _ _ t h
theorem lexR_numF (s : Str) : ∀ t ∈ lexR s,t.k = 3 → pre digB t.t = t.t.length := tokF_numF _ _ _
theorem tokF_shortF : ∀ (f o : Nat) (m : Str),∀ t ∈ tokF f o m,t.t.length ≤ m.length
 | 0,_,_,t,h => by cases h
 | f + 1,o,m,t,h => by
  by_cases h0 : m = []
  ·rw [h0,tokF_nil] at h;cases h
  ·rw [tokF_step h0] at h;rcases List.mem_cons.1 h with rfl | h
   ·show (m.take _).length ≤ _;rw [List.length_take];omega
   ·have h1 := tokF_shortF f _ _ t h;have h2 := skipS_len false (m.drop (readK m).2);rw [List.length_drop] at h2;omega
theorem lexR_shortF (s : Str) : ∀ t ∈ lexR s,t.t.length ≤ s.length := fun t h => Nat.le_trans (tokF_shortF _ _ _ t h) (skipS_len false s)

theorem readK_nmF {m : Str} (h : m ≠ []) (hk : (readK m).1 = 1) : (m.take (readK m).2).all insB = true := by
 have key : (readK m).2 = pre insB m := by
  match m,h with
  | c :: r,_ =>
   cases h1 : letB c with
   | true =>
    revert hk
    cases h4 : words.contains ((c :: r).take (pre insB (c :: r))) with
    | true => simp only [readK,List.headD_cons,h1,h4,if_true];decide
    | false =>
     by_cases h5 : pre insB (c :: r) ≤ 12
     ·simp only [readK,List.headD_cons,h1,h4,h5,if_true,Bool.false_eq_true,if_false];exact fun _ => trivial
     ·simp only [readK,List.headD_cons,h1,h4,h5,if_true,Bool.false_eq_true,if_false];intro h;exact absurd h (by decide)
   | false =>
    exfalso
    revert hk
    cases h4 : digB c with
    | true =>
     by_cases h5 : pre digB (c :: r) = 1 ∨ c ≠ 48
     ·simp only [readK,List.headD_cons,h1,h4,h5,if_true,Bool.false_eq_true,if_false];decide
     ·simp only [readK,List.headD_cons,h1,h4,h5,if_true,Bool.false_eq_true,if_false];decide
    | false =>
     cases hx : symbols.find? (fun x => x.isPrefixOf (c :: r)) <;> simp only [readK,List.headD_cons,h1,h4,hx,Bool.false_eq_true,if_false] <;> decide
 rw [key];unfold pre
 have : m.take (m.takeWhile insB).length = m.takeWhile insB := by
  have := List.takeWhile_append_dropWhile (p := insB) (l := m)
  conv => lhs;rw [← this]
  rw [List.take_left' (by rw [this])]
 rw [this];exact List.all_takeWhile
theorem tokF_nmF : ∀ (f o : Nat) (m : Str),∀ t ∈ tokF f o m,t.k = 1 → t.t.all insB = true
 | 0,_,_,t,h => by cases h
 | f + 1,o,m,t,h => by
  by_cases h0 : m = []
  ·rw [h0,tokF_nil] at h;cases h
  ·rw [tokF_step h0] at h;rcases List.mem_cons.1 h with rfl | h
   ·exact fun hk => readK_nmF h0 hk
   ·exact tokF_nmF f _ _ t h
theorem lexR_nmF (s : Str) : ∀ t ∈ lexR s,t.k = 1 → t.t.all insB = true := tokF_nmF _ _ _
def endT (s : Str) : Tk := ⟨0,[],s.length⟩
def tksF (s : Str) : Tks := lexR s ++ [endT s]
theorem tksF_len (s : Str) : (tksF s).length = (lexR s).length + 1 := by unfold tksF;rw [List.length_append];rfl
theorem tkf_cases (s : Str) (i : Nat) : tkf (tksF s) i ∈ lexR s ∨ (tkf (tksF s) i).k = 0 := by
 unfold tkf tksF;rw [List.getD_eq_getElem?_getD]
 by_cases h : i < (lexR s).length
 ·rw [List.getElem?_append_left h,List.getElem?_eq_getElem h];exact .inl (List.getElem_mem h)
 ·rw [List.getElem?_append_right (by omega)];cases e : i - (lexR s).length with
  | zero => exact .inr rfl
  | succ n => exact .inr rfl
theorem tgd_of (s : Str) : Tgd (tksF s) := by
 refine ⟨fun i hi hk => ?_,fun i hk => ?_,fun i hk => ?_⟩
 ·rw [tksF_len] at hi ⊢;refine Classical.byContradiction fun hn => hk ?_;have e : i = (lexR s).length := by omega
  unfold tkf tksF;rw [List.getD_eq_getElem?_getD,List.getElem?_append_right (by omega),e,Nat.sub_self];rfl
 ·rcases tkf_cases s i with h | h
  ·exact (lexR_good s _ h).2.2
  ·rw [h] at hk;exact absurd hk (by decide)
 ·rcases tkf_cases s i with h | h
  ·exact nins46 (lexR_nmF s _ h hk)
  ·rw [h] at hk;exact absurd hk (by decide)
/-! ### Lists that are not long -/
section
variable {N : Nat} {l : Tks} {q : Ps} {c : Rq} {o : Ov} {v : Vl} {x : Vb} {f : Fm}
def VbN (N : Nat) (x : Vb) : Prop := ∀ v ∈ x.1,blE N v.e = true ∧ blF N v.f = true
structure Fbd (N : Nat) (q : Ps) : Prop where
 x : VbN N q.x
 op : ∀ o ∈ q.op,blF N o.f = true
theorem blE_z : blE N zE = true := blE_mk.2 ⟨Nat.zero_le _,fun a h => (by cases h)⟩
theorem blF_z {op : UInt8} {nm fd : Str} {a b : Int64} : blF N (.mk op nm fd a b [] []) = true := blF_mk.2 ⟨⟨Nat.zero_le _,Nat.zero_le _,fun a h => (by cases h)⟩,fun a h => (by cases h)⟩
theorem blE_args {op : UInt8} {nm : Str} {z : Int64} {es : List Ex} (h : es.length ≤ N) (k : ∀ e ∈ es,blE N e = true) : blE N (.mk op nm z es) = true := blE_mk.2 ⟨h,k⟩
theorem blF_wAr {gs : List Fm} (h : blF N f = true) (hl : gs.length ≤ N) (hg : ∀ g ∈ gs,blF N g = true) : blF N (f.wAr gs) = true := by
 obtain ⟨op,nm,fd,a,b,ex,args⟩ := f;have := blF_mk.1 h;exact blF_mk.2 ⟨⟨this.1.1,hl,this.1.2.2⟩,hg⟩
theorem blF_wEx {es : List Ex} (h : blF N f = true) (hl : es.length ≤ N) (hg : ∀ g ∈ es,blE N g = true) : blF N (f.wEx es) = true := by
 obtain ⟨op,nm,fd,a,b,ex,args⟩ := f;have := blF_mk.1 h;exact blF_mk.2 ⟨⟨hl,this.1.2.1,hg⟩,this.2⟩
theorem blF_ex (h : blF N f = true) : ∀ e ∈ f.ex,blE N e = true := by
 obtain ⟨op,nm,fd,a,b,ex,args⟩ := f;exact (blF_mk.1 h).1.2.2
theorem vbn_top (h : VbN N x) : blE N (topV x).e = true ∧ blF N (topV x).f = true := by
 unfold topV;cases e : x.1 with
 | nil => exact ⟨blE_z,blF_z⟩
 | cons v r => exact h v (by rw [e];exact List.mem_cons_self ..)
theorem vbn_tl {b : Bool} (h : VbN N x) : VbN N (x.1.tail,b) := fun v hv => h v (List.mem_of_mem_tail hv)
theorem vbn_tS (h : VbN N x) : VbN N (tS x) := vbn_tl h
theorem vbn_fS (h : VbN N x) : VbN N (fS x) := vbn_tl h
theorem vbn_tE (h : VbN N x) : blE N (tE x) = true := (vbn_top h).1
theorem vbn_fF (h : VbN N x) : blF N (fF x) = true := by
 unfold fF Vl.fm
 split
 ·exact blF_z
 ·exact (vbn_top h).2
theorem vbn_put (h : VbN N x) (he : blE N v.e = true) (hf : blF N v.f = true) : VbN N (x.put v) := fun u hu => by
 rcases List.mem_cons.1 hu with rfl | hu
 ·exact ⟨he,hf⟩
 ·exact h u hu
theorem bl1 {e : Ex} (hN : 2 ≤ N) (h : blE N e = true) : ([e] : List Ex).length ≤ N ∧ ∀ x ∈ [e],blE N x = true := ⟨by show 1 ≤ N;omega,fun x hx => by rw [List.mem_singleton.1 hx];exact h⟩
theorem bl2 {e g : Ex} (hN : 2 ≤ N) (h : blE N e = true) (k : blE N g = true) : ([e,g] : List Ex).length ≤ N ∧ ∀ x ∈ [e,g],blE N x = true := ⟨hN,fun x hx => by
 rcases List.mem_cons.1 hx with rfl | hx
 ·exact h
 ·rw [List.mem_singleton.1 hx];exact k⟩
theorem bf1 {e : Fm} (hN : 2 ≤ N) (h : blF N e = true) : ([e] : List Fm).length ≤ N ∧ ∀ x ∈ [e],blF N x = true := ⟨by show 1 ≤ N;omega,fun x hx => by rw [List.mem_singleton.1 hx];exact h⟩
theorem bf2 {e g : Fm} (hN : 2 ≤ N) (h : blF N e = true) (k : blF N g = true) : ([e,g] : List Fm).length ≤ N ∧ ∀ x ∈ [e,g],blF N x = true := ⟨hN,fun x hx => by
 rcases List.mem_cons.1 hx with rfl | hx
 ·exact h
 ·rw [List.mem_singleton.1 hx];exact k⟩
theorem vbn_comb (hN : 2 ≤ N) (h : VbN N x) (ho : blF N o.f = true) : VbN N (comb o x) := by
 unfold comb
 split
 ·have := bl1 hN (vbn_tE h);exact vbn_put (vbn_tS h) (blE_args this.1 this.2) blF_z
 split
 ·have := bl2 hN (vbn_tE (vbn_tS h)) (vbn_tE h);exact vbn_put (vbn_tS (vbn_tS h)) (blE_args this.1 this.2) blF_z
 split
 ·have := bl2 hN (vbn_tE (vbn_tS h)) (vbn_tE h);have k := bl1 hN (blE_args (op := o.op) (nm := []) (z := 0) this.1 this.2);exact vbn_put (vbn_tS (vbn_tS h)) blE_z (blF_mk.2 ⟨⟨k.1,Nat.zero_le _,k.2⟩,fun a h => (by cases h)⟩)
 split
 ·have := bf1 hN (vbn_fF h);exact vbn_put (vbn_fS h) blE_z (blF_wAr ho this.1 this.2)
 split
 ·have := bf2 hN (vbn_fF (vbn_fS h)) (vbn_fF h);exact vbn_put (vbn_fS (vbn_fS h)) blE_z (blF_wAr ho this.1 this.2)
 ·exact h
theorem redL_bd (hN : 2 ≤ N) {lv : Nat} : ∀ (r : List Ov) (x : Vb),(∀ o ∈ r,blF N o.f = true) → VbN N x → VbN N (redL lv r x).2
 | [],x,_,h => h
 | o :: r,x,ho,h => by
  rw [redL]
  split
  ·exact redL_bd hN r _ (fun z hz => ho z (List.mem_cons_of_mem _ hz)) (vbn_comb hN h (ho o (List.mem_cons_self ..)))
  ·exact h
theorem fbd_red (hN : 2 ≤ N) {lv : Nat} (h : Fbd N q) : Fbd N (redP lv q) := ⟨redL_bd hN q.op q.x h.op h.x,fun o ho => h.op o (redL_sub q.op q.x o ho)⟩
theorem fbd_push (h : Fbd N q) (ho : blF N o.f = true) : Fbd N (pushS o (q.at c)) := ⟨h.x,fun z hz => by
 rcases List.mem_cons.1 hz with rfl | hz
 ·rw [inh_f];exact ho
 ·exact h.op z hz⟩
theorem fbd_give (h : Fbd N q) (he : blE N v.e = true) (hf : blF N v.f = true) : Fbd N (giveS v (q.at c)) := ⟨vbn_put h.x he hf,h.op⟩
theorem fbd_at (h : Fbd N q) : Fbd N (q.at c) := ⟨h.x,h.op⟩
theorem fbd_clo (h : Fbd N q) (hx : VbN N x) (he : blE N v.e = true) (hf : blF N v.f = true) : Fbd N (cloS c v x q) := ⟨vbn_put hx he hf,fun o ho => h.op o (List.mem_of_mem_tail ho)⟩
theorem fbd_if {c : Prop} [Decidable c] {a b : Ps} (h1 : c → Fbd N a) (h2 : ¬ c → Fbd N b) : Fbd N (if c then a else b) := by
 by_cases hc : c
 ·rw [if_pos hc];exact h1 hc
 ·rw [if_neg hc];exact h2 hc
theorem fbd_pref {q' : Ps} (h : Fbd N q) (e : prefS l q = some q') : Fbd N q' := by
 unfold prefS at e
 split at e
 ·injection e with e;subst e;exact fbd_push h blF_z
 split at e
 ·injection e with e;subst e;exact fbd_push h blF_z
 split at e
 ·injection e with e;subst e;exact fbd_push h blF_z
 split at e
 ·injection e with e;subst e;exact fbd_push h blF_z
 split at e
 ·injection e with e;subst e;exact fbd_push h blF_z
 split at e
 ·injection e with e;subst e;exact fbd_push h blF_z
 split at e
 ·injection e with e;subst e;exact fbd_push h blF_z
 ·cases e
theorem blE0 {op : UInt8} {nm : Str} {z : Int64} : blE N (.mk op nm z []) = true := blE_args (Nat.zero_le _) fun a h => (by cases h)
theorem fbd_var (h : Fbd N q) : Fbd N (varP l q) := by
 unfold varP;exact fbd_if (fun _ => fbd_if (fun _ => fbd_push h blF_z) fun _ => fbd_give h blE0 blF_z) fun _ => fbd_give h blE0 blF_z
theorem fbd_arr (h : Fbd N q) : Fbd N (arrP l q) := by
 unfold arrP;exact fbd_if (fun _ => fbd_give h blE_z blF_z) fun _ => fbd_push h blF_z
theorem fbd_re2 (h : Fbd N q) : Fbd N (re2P l q) := by
 unfold re2P
 exact fbd_if (fun _ => fbd_push h blF_z) fun _ => fbd_if (fun _ => fbd_push h blF_z) fun _ => fbd_if (fun _ => fbd_give h blE0 blF_z) fun _ => fbd_if (fun _ => fbd_var h) fun _ =>
  fbd_if (fun _ => fbd_give h blE0 blF_z) fun _ => fbd_if (fun _ => fbd_give h blE0 blF_z) fun _ => fbd_if (fun _ => fbd_give h blE_z blF_z) fun _ => fbd_if (fun _ => fbd_give h blE_z blF_z) fun _ =>
  fbd_if (fun _ => fbd_give h blE_z blF_z) fun _ => fbd_if (fun _ => fbd_push h blF_z) fun _ => fbd_if (fun _ => fbd_arr (fbd_at h)) fun _ => fbd_at h
theorem fbd_operand (h : Fbd N q) : Fbd N (operandP l q) := by
 unfold operandP;cases e : (if fmsB q then prefS l q else none) with
 | some q' =>
  split at e
  ·exact fbd_pref h e
  ·cases e
 | none =>
  show Fbd N (restP l q);unfold restP;exact fbd_if (fun _ => fbd_give h blE_z blF_z) fun _ => fbd_re2 h
theorem fbd_bet (hN : 2 ≤ N) {op : UInt8} (h : Fbd N q) : Fbd N (betP l op q) := by
 have f {lv : Nat} {c : Rq} : Fbd N ((redP lv q).at c) := fbd_at (fbd_red hN h);have p {lv : Nat} {c : Rq} {o : Ov} (ho : blF N o.f = true) : Fbd N (pushS o ((redP lv q).at c)) := fbd_push (fbd_red hN h) ho;unfold betP;exact fbd_if (fun _ => fbd_if (fun _ => f) fun _ => p blF_z) fun _ => fbd_if (fun _ => fbd_if (fun _ => f) fun _ => p blF_z) fun _ => fbd_if (fun _ => f) fun _ => p blF_z
theorem joV_bl (c : Rq) : blF N (c.joV l) = true := by
 unfold Rq.joV
 split
 ·exact blF_z
 split
 ·exact blF_z
 split
 ·exact blF_z
 split
 ·exact blF_z
 ·exact blF_z
theorem fbd_joi (hN : 2 ≤ N) (h : Fbd N q) : Fbd N (joiP l q) := by
 unfold joiP;exact fbd_if (fun _ => fbd_at h) fun _ => fbd_push (q := redP _ q) (c := q.c.joS l) (fbd_red hN h) (joV_bl _)
theorem fbd_top (h : Fbd N q) : blF N (topO q).f = true := by
 unfold topO;cases e : q.op with
 | nil => exact blF_z
 | cons o r => exact h.op o (by rw [e];exact List.mem_cons_self ..)
theorem fex_top (h : Fex q) : (topO q).f.ex.length ≤ q.c.i := by
 unfold topO;cases e : q.op with
 | nil => exact Nat.zero_le _
 | cons o r => exact h o (by rw [e];exact List.mem_cons_self ..)
theorem bl_snoc (h : Fbd N q) (k : Fex q) (hi : q.c.i < N) : ((topO q).f.ex ++ [tE q.x]).length ≤ N ∧ ∀ e ∈ (topO q).f.ex ++ [tE q.x],blE N e = true := by
 refine ⟨?_,fun e he => ?_⟩
 ·rw [List.length_append];have := fex_top k;simp only [List.length_cons,List.length_nil];omega
 ·rcases List.mem_append.1 he with he | he
  ·exact blF_ex (fbd_top h) e he
  ·rw [List.mem_singleton.1 he];exact vbn_tE h.x
theorem fbd_clg (hN : 2 ≤ N) (h : Fbd N q) (k : Fex q) (hi : q.c.i < N) : Fbd N (clgP l q) := by
 have s := bl_snoc h k hi;have t := fbd_top h;have e1 := bl1 hN (vbn_tE h.x);unfold clgP
 refine fbd_if (fun _ => ⟨h.x,h.op⟩) fun _ => fbd_if (fun _ => fbd_clo h (vbn_tl h.x) (vbn_top h.x).1 (vbn_top h.x).2) fun _ => fbd_if (fun _ => ?_) fun _ =>
  fbd_if (fun _ => fbd_if (fun _ => fbd_clo h (vbn_tS h.x) (blE_args e1.1 e1.2) blF_z) fun _ => fbd_clo h (vbn_tS h.x) blE_z (blF_wEx t e1.1 e1.2)) fun _ =>
  fbd_if (fun _ => ⟨vbn_tS h.x,fun z hz => ?_⟩) fun _ => fbd_if (fun _ => fbd_clo h (vbn_tS h.x) blE_z (blF_wEx t s.1 s.2)) fun _ => fbd_at h
 ·have n1 := bl1 (e := .mk 1 [] ((q.c.nx.exS l [62,61]).nbV l) []) hN blE0;have f1 := bf1 hN (vbn_fF h.x);exact fbd_clo h (vbn_fS h.x) blE_z (blF_wAr (blF_wEx t n1.1 n1.2) f1.1 f1.2)
 ·have hz' : z ∈ (⟨(topO q).kd,(topO q).lv,(topO q).tm,(topO q).op,(topO q).f.wEx ((topO q).f.ex ++ [tE q.x])⟩ : Ov) :: q.op.tail := hz;rcases List.mem_cons.1 hz' with e | hz
  ·subst e;exact blF_wEx t s.1 s.2
  ·exact h.op z (List.mem_of_mem_tail hz)
theorem fbd_step (hN : 2 ≤ N) (h : Fbd N q) (k : Fex q) (hi : q.c.i < N) : Fbd N (stepP l q) := by
 unfold stepP;refine fbd_if (fun _ => ?_) fun _ => fbd_operand h;unfold operatorP;cases q.c.sym l with
 | some i => exact fbd_bet hN h
 | none =>
  show Fbd N (othP l q);unfold othP;exact fbd_if (fun _ => fbd_joi hN h) fun _ => fbd_if (fun _ => fbd_clg hN (fbd_red hN h) (fex_red k) hi) fun _ => fbd_at h
theorem fbd_ini : Fbd N iniP := ⟨fun v h => (by cases h),fun o ho => by rw [List.mem_singleton.1 ho];exact blF_z⟩
/-! ### Where it ends, an operand stands ready -/
def Dnr (q : Ps) : Prop := q.dn = false ∨ q.rd = true
theorem dnr_if {c : Prop} [Decidable c] {a b : Ps} (h1 : c → Dnr a) (h2 : ¬ c → Dnr b) : Dnr (if c then a else b) := by
 by_cases hc : c
 ·rw [if_pos hc];exact h1 hc
 ·rw [if_neg hc];exact h2 hc
theorem dnr_step (hd : q.dn = false) : Dnr (stepP l q) := by
 have pu {o : Ov} {c : Rq} : Dnr (pushS o (q.at c)) := .inl hd;have gi {v : Vl} {c : Rq} : Dnr (giveS v (q.at c)) := .inl hd;have at_ {c : Rq} : Dnr (q.at c) := .inl hd
 have opd : Dnr (operandP l q) := by
  unfold operandP;cases e : (if fmsB q then prefS l q else none) with
  | some q' =>
   split at e
   ·unfold prefS at e
    split at e
    ·injection e with e;subst e;exact pu
    split at e
    ·injection e with e;subst e;exact pu
    split at e
    ·injection e with e;subst e;exact pu
    split at e
    ·injection e with e;subst e;exact pu
    split at e
    ·injection e with e;subst e;exact pu
    split at e
    ·injection e with e;subst e;exact pu
    split at e
    ·injection e with e;subst e;exact pu
    ·cases e
   ·cases e
  | none =>
   show Dnr (restP l q);unfold restP re2P varP arrP
   refine dnr_if (fun _ => gi) fun _ => dnr_if (fun _ => pu) fun _ => dnr_if (fun _ => pu) fun _ => dnr_if (fun _ => gi) fun _ => dnr_if (fun _ => dnr_if (fun _ => dnr_if (fun _ => pu) fun _ => gi) fun _ => gi) fun _ =>
    dnr_if (fun _ => gi) fun _ => dnr_if (fun _ => gi) fun _ => dnr_if (fun _ => gi) fun _ => dnr_if (fun _ => gi) fun _ => dnr_if (fun _ => gi) fun _ => dnr_if (fun _ => pu) fun _ => dnr_if (fun _ => dnr_if (fun _ => .inl hd) fun _ => .inl hd) fun _ => at_
 unfold stepP;refine dnr_if (fun hr => ?_) fun _ => opd;unfold operatorP;cases q.c.sym l with
 | some i =>
  show Dnr (betP l _ q);unfold betP;exact dnr_if (fun _ => dnr_if (fun _ => .inl hd) fun _ => .inl hd) fun _ => dnr_if (fun _ => dnr_if (fun _ => .inl hd) fun _ => .inl hd) fun _ => dnr_if (fun _ => .inl hd) fun _ => .inl hd
 | none =>
  show Dnr (othP l q);unfold othP joiP clgP;exact dnr_if (fun _ => dnr_if (fun _ => .inl hd) fun _ => .inl hd) fun _ => dnr_if (fun _ => dnr_if (fun _ => .inr hr) fun _ => dnr_if (fun _ => .inl hd) fun _ => dnr_if (fun _ => .inl hd) fun _ => dnr_if (fun _ => dnr_if (fun _ => .inl hd) fun _ => .inl hd) fun _ => dnr_if (fun _ => .inl hd) fun _ => dnr_if (fun _ => .inl hd) fun _ => .inl hd) fun _ => .inl hd
end
theorem tok_rowF {H H' : Hp} {x : TkS} {l : List Value} (h : RepZ H 3 [dTk .u8 x.1] l) : RepZ H' 3 (List.map (dTk .u8) (List.map (·.1) [x])) l := by
 unfold RepZ at h;obtain ⟨a,y,rfl,_,h1,h2⟩ := h;unfold RepZ at h2;subst h2;rw [List.append_nil];obtain ⟨rfl,_⟩ := tk_open h1;exact .single (tk_shut x.2) Z
theorem zf_rep (H : Hp) : Rep H (dFm .u8 zF) [.int .u8 0,.string ⟨#[]⟩,.string ⟨#[]⟩,.int .i64 0,.int .i64 0,.slice none 0 0,.slice none 0 0] := fm_shut (op := 0) (nm := []) (fd := []) (a := 0) (b := 0) (ex := []) (args := []) (by decide) (by decide) Rep.nil4 Rep.nil4
def muF (l : Tks) (q : Ps) : Nat := if q.fin then 0 else l.length - q.c.i
theorem mu_step {l : Tks} {q q' : Ps} (h : ¬ q.fin) (g : q'.fin ∨ q.c.i < q'.c.i) (hi : q.c.i < l.length) : muF l q' < muF l q := by
 unfold muF;rw [if_neg h]
 split
 ·omega
 ·rename_i h2;rcases g with g | g
  ·exact absurd g h2
  ·omega
section
variable {c : Rq} {op : List Ov} {v : Vl} {V : List Vl} {bd rd dn : Bool} {x : Vb}
theorem end_er (h : ¬ c.er = 0) : endP ⟨c,op,x,rd,dn⟩ = (zF,c.off,c.er) := by unfold endP;exact if_pos h
theorem end_bad (h : c.er = 0) (hb : (bd || v.noF) = true) : endP ⟨c,op,(v :: V,bd),rd,dn⟩ = (zF,0,6) := by
 unfold endP;rw [if_neg (show ¬ ¬ c.er = 0 by rw [h];decide),if_pos (show (fS (v :: V,bd)).2 = true from hb)]
theorem end_chk (h : c.er = 0) (hb : (bd || v.noF) = false) (hc : ¬ fcheck v.fm = 0) : endP ⟨c,op,(v :: V,bd),rd,dn⟩ = (zF,0,fcheck v.fm) := by
 unfold endP;rw [if_neg (show ¬ ¬ c.er = 0 by rw [h];decide),if_neg (show ¬ (fS (v :: V,bd)).2 = true by rw [show (fS (v :: V,bd)).2 = false from hb];decide)];exact if_pos hc
theorem end_ok (h : c.er = 0) (hb : (bd || v.noF) = false) (hc : fcheck v.fm = 0) : endP ⟨c,op,(v :: V,bd),rd,dn⟩ = (v.fm,0,0) := by
 unfold endP;rw [if_neg (show ¬ ¬ c.er = 0 by rw [h];decide),if_neg (show ¬ (fS (v :: V,bd)).2 = true by rw [show (fS (v :: V,bd)).2 = false from hb];decide)];exact if_neg (show ¬ ¬ fcheck v.fm = 0 by rw [hc];decide)
end
set_option maxHeartbeats 4000000 in
set_option maxRecDepth 100000 in
theorem fparse_any (H : Hp) (G : Gl H) (Gt : Gf H) (t : Str) (hl : t.length ≤ 400000) (w : World) (hA : Agr H w) :
 Calls Tryz.prog 26 #[strV t] w fun e W' => ∃ (cs : List Value) (H' : Hp),Rep H' (dFm .u8 (parF (tksF t)).1) cs ∧ e = .returned (.tuple #[.agg cs.toArray,.int .i64 ((parF (tksF t)).2.1 : Nat),.int .i64 ((parF (tksF t)).2.2 : Nat)]) ∧ Grow H w H' W' := by
 refine Sx.enterM (H := H) Tryz.func26 rfl Tryz.ntmps26 rfl hA ?_;refine .sr<|.al Fx.zero35 Z fun b2 => .a Z Z<|.a Z Z<|.ns<|.yv (.build Z (Fx.bld97_0 _)) Z<|.blR (z := 11) Z (Fx.bsl98_1 _ _ _ _ _ _ _ _ _ _ _) Z Z (by simp [maxLen]) fun b10 => .yv (.build Z (Fx.bld102_2 _ _ _)) Z<|.bx Z Z Z fun b12 => .al Fx.zero94 Z fun b5 => .st .head Z Z Fx.size94 Z (nb Z) Z<|.nt<|.sq<|.sr<|.m Z Z<|.ct (X := Nat) Fx.call54 Z (fun W s => lex_any H t W s.agr) Z fun b1 H1 m1 u1 => .nt<|.bk<|?_
 refine Sx.row0 108 3 ?_;refine At.pm [0,2,1,3,4] [_,_,_,_,_] rfl rfl ?_
 refine At.rfB (α := TkS) (Z := Value × Nat × List Value) (N := t.length + 1) (e := 108) (T := 102) (TX := 108) (size := 3) (p := b12) (fx := [.box b5 [.pointer (some ⟨b12,0,none⟩)] 94,.row 97 11 (.slice (some ⟨b10,0,none⟩) 1 1) 1 [.int .u8 1,.int .i64 0,.bool false,.int .u8 0,.int .u8 0,.string ⟨#[]⟩,.string ⟨#[]⟩,.int .i64 0,.int .i64 0,.slice none 0 0,.slice none 0 0],.box b2 [.int .u8 0,.string ⟨#[]⟩,.string ⟨#[]⟩,.int .i64 0,.int .i64 0,.slice none 0 0,.slice none 0 0] 35]) (enc := fun x : TkS => .agg (cTk .u8 x.1).toArray) (S := fun xs => xs.map (·.1) = lexR t)
  (fun pre z => z.2.1 = pre.length ∧ RepZ H1 3 ((pre.map (·.1)).map (dTk .u8)) z.2.2) (fun z => z.1) (fun z => z.2.1) (fun z => z.2.2) (fun _ => [.int .i64 0,.slice (some ⟨b10,0,none⟩) 1 1,.slice none 0 0,.bool false,.bool false,.bool false,.int .i64 0,.int .i64 0]) (.slice none 0 0,0,[])
  (fun _ b => [(0,strV t),(5,.pointer (some ⟨b5,0,none⟩)),(6,.pointer (some ⟨b,0,none⟩))]) (fun x => cTk .u8 x.1) rfl (fun _ _ => run_callFunc Fx.call95) rfl (fun w hA => lex_seq H1 (G.up u1.up) t (by omega) (fun x hx => Nat.le_trans (lexR_shortF t x hx) (by omega)) b1 m1 w hA) ⟨rfl,RepZ.nil⟩ rfl rfl ?_ ?_ ?_
 ·intro l x bs' K h;exact .rgI<|.alI Fx.zero108 Z fun b => .sWI .head Z Z Fx.size108 (by simp [cTk,Value.oneCell',strV]) Z<|.nlI<|.tN<|fun a W f s => h b a W (f.sub ⟨rfl,rfl,rfl,trivial⟩) s
 ·intro l' pre x z tl b H2 hC hlen u2 m2;obtain ⟨v,k,xs⟩ := z;obtain ⟨hk,hz⟩ := hC;dsimp only at hk hz ⊢;change At [] _ _ H2 w (.row 108 3 v k xs :: .box b12 (v :: [.int .i64 0,.slice (some ⟨b10,0,none⟩) 1 1,.slice none 0 0,.bool false,.bool false,.bool false,.int .i64 0,.int .i64 0]) 102 :: .box b5 [.pointer (some ⟨b12,0,none⟩)] 94 :: .row 97 11 (.slice (some ⟨b10,0,none⟩) 1 1) 1 [.int .u8 1,.int .i64 0,.bool false,.int .u8 0,.int .u8 0,.string ⟨#[]⟩,.string ⟨#[]⟩,.int .i64 0,.int .i64 0,.slice none 0 0,.slice none 0 0] :: .box b2 [.int .u8 0,.string ⟨#[]⟩,.string ⟨#[]⟩,.int .i64 0,.int .i64 0,.slice none 0 0,.slice none 0 0] 35 :: tl) _;refine At.ra (.head _) fun pv cv ev => ?_;subst ev;refine .bkI<|.flI (trip := [(_,_,_),(_,_,_),(_,_,_),(_,_,_),(_,_,_),(_,_,_),(_,_,_),(_,_,_)]) 8 [(0,0),(1,0),(2,0),(3,0),(4,0),(5,0),(6,1),(7,3)] (by kernel_rfl) (by kernel_rfl) (by kernel_rfl) Z<|.yv (.load Z Fx.agg94 (.tail _<|.tail _<|.head _) Z) Z<|.yv (.load Z Fx.agg94 (.tail _<|.tail _<|.head _) Z) Z<|.yv (.nilCheck Z) Z<|.yv (.fieldAddr Z Fx.field102_0) Z<|.yv (.load Z Fx.agg99 (.tail _<|.head _) Z) Z<|.yv (.loadMW Z Fx.agg108 m2 Z) Z<|.blF Z (Fx.bsl99_1 _ _ _) Z fun b22 H3 u3 m3 => .apD Fx.row99 Z (fun _ _ => .head) Z (Rep.mk (n := 1) (c := 1) (ds := [dTk .u8 x.1]) m3 (.single (tk_shut x.2) Z) Z (Nat.le_refl _) (by decide)) (by simp [maxLen];omega) (by omega) Z (fun _ _ => (.done (by kernel_rfl)<|.done (by kernel_rfl)<|.done (by kernel_rfl)<|.done (by kernel_rfl)<|.done (by kernel_rfl)<|.yv (.load Z Fx.agg94 (.tail _<|.tail _<|.head _) Z)<|.nl)) fun xs26 p26 c26 hz26 => .fn (tl := [_,_,_]) Z<|.yv (.nilCheck Z) Z<|.yv (.fieldAddr Z Fx.field102_0) Z<|.st (.tail<|.head) Z Z Fx.size99 Z (nb Z) Z<|.nlQ<|.bN<|?_
  refine At.rE ((.slice p26 (k + 1) c26,k + 1,xs ++ xs26) : Value × Nat × List Value) (u2.trans u3.up) ?_ rfl;exact ⟨by simp [hk],by rw [List.map_append,List.map_append];exact hz.app (tok_rowF hz26)⟩
 intro D ys z hS hC;obtain ⟨v,k,xs⟩ := z;obtain ⟨hk,hz⟩ := hC;dsimp only at hk hz ⊢;change At _ _ _ H1 w (.obj D (.deferred (some [])) :: .row 108 3 v k xs :: .box b12 (v :: [.int .i64 0,.slice (some ⟨b10,0,none⟩) 1 1,.slice none 0 0,.bool false,.bool false,.bool false,.int .i64 0,.int .i64 0]) 102 :: .box b5 [.pointer (some ⟨b12,0,none⟩)] 94 :: .row 97 11 (.slice (some ⟨b10,0,none⟩) 1 1) 1 [.int .u8 1,.int .i64 0,.bool false,.int .u8 0,.int .u8 0,.string ⟨#[]⟩,.string ⟨#[]⟩,.int .i64 0,.int .i64 0,.slice none 0 0,.slice none 0 0] :: .box b2 [.int .u8 0,.string ⟨#[]⟩,.string ⟨#[]⟩,.int .i64 0,.int .i64 0,.slice none 0 0,.slice none 0 0] 35 :: []) _;refine At.ra (.tail _<|.head _) fun pv cv ev => ?_;subst ev;have hkl : k ≤ t.length := by have := lexR_len t;rw [← hS,List.length_map] at this;omega
 refine .bN<|.tN<|.sq<|.fl (trip := [(_,_,_),(_,_,_),(_,_,_),(_,_,_),(_,_,_),(_,_,_),(_,_,_),(_,_,_),(_,_,_),(_,_,_)]) 10 [(0,0),(1,0),(2,0),(3,0),(4,0),(5,0),(6,0),(7,0),(8,1),(9,3)] (by kernel_rfl) (by kernel_rfl) Z<|.yv (.load Z Fx.agg94 (.tail _<|.tail _<|.tail _<|.head _) Z) Z<|.yv (.load Z Fx.agg94 (.tail _<|.tail _<|.tail _<|.head _) Z) Z<|.yv (.nilCheck Z) Z<|.yv (.fieldAddr Z Fx.field102_0) Z<|.yv (.load Z Fx.agg99 (.tail _<|.tail _<|.head _) Z) Z<|.m Z Z<|.yv (.lenS Fx.str9 Z) Z<|.yv (.build Z (Fx.bld108_2 _)) Z<|.blF Z (Fx.bsl99_1 _ _ _) Z fun b34 H3 u3 m3 => .apD Fx.row99 Z (fun _ _ => (.tail<|.head)) Z (Rep.mk (n := 1) (c := 1) (ds := [dTk .u8 (endT t)]) m3 (.single (tk_shut (x := endT t) (Nat.zero_le _)) Z) Z (Nat.le_refl _) (by decide)) (by simp [maxLen];omega) (by omega) Z (fun _ _ => (.done (by kernel_rfl)<|.done (by kernel_rfl)<|.done (by kernel_rfl)<|.done (by kernel_rfl)<|.done (by kernel_rfl)<|.done (by kernel_rfl)<|.done (by kernel_rfl)<|.yv (.load Z Fx.agg94 (.tail _<|.tail _<|.tail _<|.head _) Z)<|.nl)) fun xs35 p35 c35 hz35 => .fn (tl := [_,_,_]) Z<|.yv (.nilCheck Z) Z<|.yv (.fieldAddr Z Fx.field102_0) Z<|.st (.tail<|.tail<|.head) Z Z Fx.size99 Z (nb Z) Z<|?_
 refine At.pm [1,0,2,3,4,5] [_,_,_,_,_,_] rfl rfl ?_
 have hz2 : RepZ H3 3 ((tksF t).map (dTk .u8)) (xs ++ xs35) := by
  unfold tksF;rw [List.map_append,← hS];exact (hz.up u3.up).app hz35
 have hlen : ((tksF t).map (dTk .u8)).length = k + 1 := by rw [List.length_map,tksF_len,← hS,List.length_map,hk]
 refine Sx.freezeSeq hlen hz2 fun H4 p4 c4 u4 e4 h4 => ?_;injection e4 with e5 _ e6
 subst e5 e6;rw [List.length_map] at hlen;rw [← hlen]
 have K : Tkf H4 (tksF t) p35 c35 := ⟨by rw [hlen];exact h4,tgd_of t,fun x hx => by
  rcases List.mem_append.1 hx with hx | hx
  ·exact Nat.le_trans (lexR_shortF t x hx) hl
  ·rw [List.mem_singleton.1 hx];exact Nat.zero_le _,by rw [tksF_len];have := lexR_len t;omega,fun x hx hk => by
  rcases List.mem_append.1 hx with hx | hx
  ·exact ⟨lexR_numF t x hx hk,(lexR_good t x hx).2.2⟩
  ·rw [List.mem_singleton.1 hx] at hk;exact (by cases hk)⟩
 obtain ⟨p4,hp4⟩ : ∃ p,p = p35 := ⟨_,rfl⟩;obtain ⟨c4,hc4⟩ : ∃ c,c = c35 := ⟨_,rfl⟩;subst hp4 hc4;have G4 := ((G.up u1.up).up u3.up).up u4.up;have GT4 := ((Gt.up u1.up).up u3.up).up u4.up;refine Sx.row0 179 13 ?_;refine .nt<|.sq<|.bk<|.pm [2,4,0,1,3,5] [_,_,_,_,_,_] Z Z<|.lp (X := Hp × Value × Value × List Value × List Value × List Res × Ps) [(2,_),(5,_)] ⟨rfl,rfl,trivial⟩ [_,_,_] (fun z => []) (fun z => z.1) (fun z => [.box b12 [.slice p4 (tksF t).length c4,.int .i64 (z.2.2.2.2.2.2.c.i : Nat),z.2.1,z.2.2.1,.bool z.2.2.2.2.2.2.rd,.bool z.2.2.2.2.2.2.dn,.bool z.2.2.2.2.2.2.x.2,.int .i64 (z.2.2.2.2.2.2.c.off : Nat),.int .i64 (z.2.2.2.2.2.2.c.er : Nat)] 102,.row 97 11 (z.2.1) (z.2.2.2.2.2.2.op.length) (z.2.2.2.1),.row 179 13 (z.2.2.1) (z.2.2.2.2.2.2.x.1.length) (z.2.2.2.2.1)] ++ z.2.2.2.2.2.1) (fun z => HUp w H4 z.1 ∧ Sq z.1 z.2.2.2.2.2.2 z.2.2.2.1 z.2.2.2.2.1 z.2.2.2.2.2.1 ∧ Fwf (tksF t) z.2.2.2.2.2.2 ∧ Fex z.2.2.2.2.2.2 ∧ Fbd 600000 z.2.2.2.2.2.2 ∧ Rch (tksF t) iniP z.2.2.2.2.2.2 ∧ Dnr z.2.2.2.2.2.2) (fun z => muF (tksF t) z.2.2.2.2.2.2) (H4,.slice (some ⟨b10,0,none⟩) 1 1,.slice none 0 0,[.int .u8 1,.int .i64 0,.bool false,.int .u8 0,.int .u8 0,.string ⟨#[]⟩,.string ⟨#[]⟩,.int .i64 0,.int .i64 0,.slice none 0 0,.slice none 0 0],[],[],iniP) (fun _ s => s) trivial ⟨.refl,⟨Ops.cons (xo := []) (AR := []) .nil (by decide) (FmR.zero Z Z (Nat.zero_le _) (Nat.zero_le _)),.nil⟩,wf_ini (by rw [tksF_len];exact Nat.succ_pos _),(fun o ho => by rw [List.mem_singleton.1 ho];exact Nat.zero_le _),fbd_ini,.refl,.inl Z⟩ fun z hC => ?_
 obtain ⟨H5,ro,rv,xo,xv,AR,q1⟩ := z;obtain ⟨u5,S,Wq,FE,FB,RC,DR⟩ := hC;dsimp only at u5 S Wq FE FB RC DR ⊢;have K5 := K.up u5.up;refine Sx.reSt (fun W s => St.mid (a := [_,_,_]) (d := AR) (c := [_,_,_]) (e := []) s) ?_;obtain ⟨q,op,x,rd,dn⟩ := q1;dsimp only;refine .sq<|.sr<|.yv (.load Z Fx.agg94 (.tail _<|.tail _<|.tail _<|.tail _<|.head _) Z) Z<|.yv (.nilCheck Z) Z<|.yv (.fieldAddr Z Fx.field102_5) Z<|.yv (.load Z Fx.agg4 (.head _) Z) Z<|.yv (.not Z) Z<|.m Z Z<|.b2 (fun h43 => ?_) (fun h43 => ?_)
 ·have hd : dn = false := by simpa using h43
  refine .gd Z Z<|.yv (.load Z Fx.agg94 (.tail _<|.tail _<|.tail _<|.tail _<|.head _) Z) Z<|.gd Z Z<|.yv (.nilCheck Z) Z<|.gd Z Z<|.yv (.fieldAddr Z Fx.field102_8) Z<|.gd Z Z<|.yv (.load Z Fx.agg29 (.head _) Z) Z<|.gd Z Z<|.yv (.eql Z Z) Z<|.yv (.pickT Z Z) Z<|.nt<|.cd Z (fun h49 => ?_) (fun h49 => ?_)
  ·have h0 : q.er = 0 := by have := of_decide_eq_true h49;omega
   have hnf : ¬ (Ps.fin ⟨q,op,x,rd,dn⟩) := fun e => by
    rcases e with e | e
    ·rw [show dn = true from e] at hd;cases hd
    ·exact e h0
   have ST := stp_step K.gd.last Wq hnf;have RS := RC.trans (.one h0 hd rfl);have DS := dnr_step (l := tksF t) (q := ⟨q,op,x,rd,dn⟩) hd;have FS := fbd_step (l := tksF t) (by decide) FB FE (Nat.lt_of_lt_of_le Wq.i K.few);have FT := fex_step (l := tksF t) FE;refine .sk<|.tN<|.bk<|.sr<|.yv (.load Z Fx.agg94 (.tail _<|.tail _<|.tail _<|.tail _<|.head _) Z) Z<|.yv (.nilCheck Z) Z<|.yv (.fieldAddr Z Fx.field102_4) Z<|.yv (.load Z Fx.agg4 (.head _) Z) Z<|.nt<|.cd Z (fun h53 => ?_) (fun h53 => ?_)
   ·have hr : rd = true := h53;subst hr;refine .rg<|.yv (.load Z Fx.agg94 (.tail _<|.tail _<|.tail _<|.tail _<|.head _) Z) Z<|.cs (X := Hp × Value × Value × List Value × List Value × List Res) Fx.call55 Z (fun W s => operator_f K5 Wq S (GT4.up u5.up) h0 FE (St.mid (a := [_,_,_]) (d := [_,_,_]) (s.pickT (hd := [_,_,_,_,_,_]) (tl := (AR ++ [])) (hd' := [_,_,_,_,_,_]) [0,1,2,3,4,5] Z Z))) Z fun z9 hz9 => ?_
    obtain ⟨H6,ro6,rv6,xo6,xv6,AR6⟩ := z9;obtain ⟨u6,S⟩ := hz9;dsimp only at u6 S ⊢;refine Sx.reSt (fun W s => St.mid (a := [_,_,_]) (d := AR6) (c := [_,_,_]) s) ?_;exact .nl<|.bN<|.tN<|.ag (x := ((H5,ro,rv,xo,xv,AR,(⟨q,op,x,true,dn⟩ : Ps)) : Hp × Value × Value × List Value × List Value × List Res × Ps)) (H6,ro6,rv6,xo6,xv6,AR6,stepP (tksF t) ⟨q,op,x,true,dn⟩) trivial ⟨rfl,rfl,trivial⟩ (fun _ s => St.mid (a := [_,_,_]) (d := [_,_,_]) (c := AR6) (e := []) s) ⟨u5.trans u6,S,ST.wf,FT,FS,RS,DS⟩ (mu_step hnf ST.go Wq.i)
   have hr : rd = false := h53;subst hr;refine .rg<|.yv (.load Z Fx.agg94 (.tail _<|.tail _<|.tail _<|.tail _<|.head _) Z) Z<|.cs (X := Hp × Value × Value × List Value × List Value × List Res) Fx.call56 Z (fun W s => operand_f K5 Wq S (St.mid (a := [_,_,_]) (d := [_,_,_]) (s.pickT (hd := [_,_,_,_,_,_]) (tl := (AR ++ [])) (hd' := [_,_,_,_,_,_]) [0,1,2,3,4,5] Z Z))) Z fun z9 hz9 => ?_
   obtain ⟨H6,ro6,rv6,xo6,xv6,AR6⟩ := z9;obtain ⟨u6,S⟩ := hz9;dsimp only at u6 S ⊢;refine Sx.reSt (fun W s => St.mid (a := [_,_,_]) (d := AR6) (c := [_,_,_]) s) ?_;exact .nl<|.bN<|.tN<|.ag (x := ((H5,ro,rv,xo,xv,AR,(⟨q,op,x,false,dn⟩ : Ps)) : Hp × Value × Value × List Value × List Value × List Res × Ps)) (H6,ro6,rv6,xo6,xv6,AR6,stepP (tksF t) ⟨q,op,x,false,dn⟩) trivial ⟨rfl,rfl,trivial⟩ (fun _ s => St.mid (a := [_,_,_]) (d := [_,_,_]) (c := AR6) (e := []) s) ⟨u5.trans u6,S,ST.wf,FT,FS,RS,DS⟩ (mu_step hnf ST.go Wq.i)
  have hfin : (Ps.fin ⟨q,op,x,rd,dn⟩) := .inr (fun e => of_decide_eq_false h49 (by rw [show q.er = 0 from e];rfl));refine .ex<|.tE<|.tE<|.bE<|.tN<|.sq<|.sq<|?_
  have EP : parF (tksF t) = endP ⟨q,op,x,rd,dn⟩ := by unfold parF;rw [run_unique RC hfin (run_end K.gd.last (tksF t).length iniP (wf_ini (by rw [tksF_len];exact Nat.succ_pos _)) (by show _ ≤ 0 + _;omega)).1]
  refine .rg<|.yv (.load Z Fx.agg94 (.tail _<|.tail _<|.tail _<|.tail _<|.head _) Z) Z<|.yv (.nilCheck Z) Z<|.yv (.fieldAddr Z Fx.field102_8) Z<|.yv (.load Z Fx.agg29 (.head _) Z) Z<|.yv (.neq Z Z) Z<|.nt<|.cd Z (fun h62 => ?_) (fun h62 => ?_)
  ·have hne : ¬ q.er = 0 := fun e => of_decide_eq_true h62 (by rw [e];rfl);refine .sq<|.fl (trip := [(_,_,_),(_,_,_),(_,_,_),(_,_,_),(_,_,_),(_,_,_),(_,_,_),(_,_,_),(_,_,_),(_,_,_),(_,_,_)]) 11 [(0,0),(1,0),(2,0),(3,0),(4,0),(5,0),(6,0),(7,0),(8,0),(9,3),(10,0)] (by kernel_rfl) (by kernel_rfl) Z<|.yv (.build Z Fx.bld35) Z<|.yv (.load Z Fx.agg94 (.tail _<|.tail _<|.tail _<|.tail _<|.head _) Z) Z<|.yv (.nilCheck Z) Z<|.yv (.fieldAddr Z Fx.field102_7) Z<|.yv (.load Z Fx.agg3 (.head _) Z) Z<|.yv (.load Z Fx.agg94 (.tail _<|.tail _<|.tail _<|.tail _<|.head _) Z) Z<|.yv (.nilCheck Z) Z<|.yv (.fieldAddr Z Fx.field102_8) Z<|.yv (.load Z Fx.agg29 (.head _) Z) Z<|.sW (.tail<|.tail<|.tail<|.tail<|.tail<|.head) Z Z Fx.size35 (by simp [Value.oneCell',strV]) Z ((.yv (.load Z Fx.agg29 (.head _) Z)<|.yv (.fieldAddr Z Fx.field102_8)<|.yv (.nilCheck Z)<|.yv (.load Z Fx.agg94 (.tail _<|.tail _<|.tail _<|.tail _<|.head _) Z)<|.yv (.load Z Fx.agg3 (.head _) Z)<|.yv (.fieldAddr Z Fx.field102_7)<|.yv (.nilCheck Z)<|.yv (.load Z Fx.agg94 (.tail _<|.tail _<|.tail _<|.tail _<|.head _) Z)<|.done (by kernel_rfl)<|.nl))<|.a Z Z<|.fn (tl := [_]) Z<|.a Z Z<|.nt<|.rt<|.tR<|?_
   refine Sx.retM (.inl rfl) (.tail<|.tail<|.tail<|.head) ?_;refine Sx.retN (.inl rfl) rfl (.cons (.cell rfl Fx.agg35 (.tail _<|.tail _<|.tail _<|.tail _<|.tail _<|.head _) rfl) (.cons (.tmp rfl) (.cons (.tmp rfl) .nil))) rfl fun W s => ?_;rw [EP,end_er hne];exact ⟨[.int .u8 0,.string ⟨#[]⟩,.string ⟨#[]⟩,.int .i64 0,.int .i64 0,.slice none 0 0,.slice none 0 0],H5,zf_rep _,rfl,(((u1.trans u3).trans u4).trans u5).grow s⟩
  have he0 : q.er = 0 := by have := of_decide_eq_false h62;omega
  have hd : dn = true := by
   rcases hfin with e | e
   ·exact e
   ·exact (e he0).elim
  have hr : rd = true := by
   rcases DR with e | e
   ·rw [show dn = false from e] at hd;cases hd
   ·exact e
  subst hr;have hv1 : 1 ≤ x.1.length := by have := Wq.vs;dsimp only at this;rw [this];exact Nat.le_add_left _ _
  obtain ⟨hn1,hn2⟩ := wf_len Wq K.few;dsimp only at hn1 hn2;obtain ⟨vs,bd⟩ := x;dsimp only at hv1 hn2;obtain ⟨v,V,rfl⟩ := list1 hv1;dsimp only [List.length_cons] at hn2;obtain ⟨yr,t0,t1,t2,e8,VS1,V1⟩ := VR.inv S.vls;try dsimp only at e8
  subst e8;have l1 := VS1.len;obtain ⟨q1,q2,ef,FR⟩ := fm_lay V1;have FBv := vbn_fF FB.x;dsimp only;refine .sk<|.tN<|.sr<|.yv (.load Z Fx.agg94 (.tail _<|.tail _<|.tail _<|.tail _<|.head _) Z) Z<|.cs (X := Nat × Nat) Fx.call57 Z (fun W s => formula_f K5 Wq.i V1.one V1.e.nm (by omega) l1 (s.pickT (hd := [_,_,_,_,_,_]) (tl := (AR ++ [])) (hd' := [_,_,_,_,_,_]) [0,2,1,3,4,5] Z Z)) Z fun p1 _ => ?_
  rw [ef];refine .al Fx.zero35 Z fun b7 => .sW .head Z Z Fx.size35 (by intro a ha;exact Rep.one FR.rep a ha) Z<|.nt<|.sq<|.sr<|.yv (.load Z Fx.agg94 (.tail _<|.tail _<|.tail _<|.tail _<|.tail _<|.head _) Z) Z<|.yv (.nilCheck Z) Z<|.yv (.fieldAddr Z Fx.field102_6) Z<|.yv (.load Z Fx.agg4 (.tail _<|.head _) Z) Z<|.nt<|.cd Z (fun h77 => ?_) (fun h77 => ?_)
  ·have hbd : (bd || v.noF) = true := h77;refine .sr<|.yv (.build Z Fx.bld35) Z<|.sW (.tail<|.tail<|.tail<|.tail<|.tail<|.tail<|.head) Z Z Fx.size35 (by simp [Value.oneCell',strV]) Z<|.a Z Z<|.a Z Z<|.nt<|.rt<|.tR<|?_
   refine Sx.retM (.inl rfl) (.tail<|.tail<|.tail<|.tail<|.head) ?_;refine Sx.retN (.inl rfl) rfl (.cons (.cell rfl Fx.agg35 (.tail _<|.tail _<|.tail _<|.tail _<|.tail _<|.tail _<|.head _) rfl) (.cons (.tmp rfl) (.cons (.tmp rfl) .nil))) rfl fun W s => ?_;rw [EP,end_bad he0 hbd];exact ⟨[.int .u8 0,.string ⟨#[]⟩,.string ⟨#[]⟩,.int .i64 0,.int .i64 0,.slice none 0 0,.slice none 0 0],H5,zf_rep _,rfl,(((u1.trans u3).trans u4).trans u5).grow s⟩
  have hbd : (bd || v.noF) = false := h77;refine .sk<|.tN<|.sq<|.sr<|.yv (.loadW Z Fx.agg35 (.head _) Z) Z<|.yv (.call Fx.call15 Z (fun W s => fcheck_any H5 (G4.up u5.up) (GT4.up u5.up) v.fm FBv _ W FR.rep s.agr)) Z<|.a Z Z<|.ns<|.m Z Z<|.yv (.neq Z Z) Z<|.nt<|.cd Z (fun h82 => ?_) (fun h82 => ?_)
  ·have hck : ¬ fcheck v.fm = 0 := fun e => of_decide_eq_true h82 (by rw [e];rfl);refine .sr<|.yv (.build Z Fx.bld35) Z<|.m Z Z<|.sW (.tail<|.tail<|.tail<|.tail<|.tail<|.tail<|.head) Z Z Fx.size35 (by simp [Value.oneCell',strV]) Z<|.a Z Z<|.a Z Z<|.nt<|.rt<|.tR<|?_
   refine Sx.retM (.inl rfl) (.tail<|.tail<|.tail<|.tail<|.head) ?_;refine Sx.retN (.inl rfl) rfl (.cons (.cell rfl Fx.agg35 (.tail _<|.tail _<|.tail _<|.tail _<|.tail _<|.tail _<|.head _) rfl) (.cons (.tmp rfl) (.cons (.tmp rfl) .nil))) rfl fun W s => ?_;rw [EP,end_chk he0 hbd hck];exact ⟨[.int .u8 0,.string ⟨#[]⟩,.string ⟨#[]⟩,.int .i64 0,.int .i64 0,.slice none 0 0,.slice none 0 0],H5,zf_rep _,rfl,(((u1.trans u3).trans u4).trans u5).grow s⟩
  have hck : fcheck v.fm = 0 := by have := of_decide_eq_false h82;omega
  refine .sk<|.tN<|.sr<|.yv (.loadW Z Fx.agg35 (.head _) Z) Z<|.sW (.tail<|.tail<|.tail<|.tail<|.tail<|.tail<|.head) Z Z Fx.size35 (by intro a ha;exact Rep.one FR.rep a ha) Z<|.a Z Z<|.a Z Z<|.nt<|.rt<|?_
  refine Sx.retM (.inl rfl) (.tail<|.tail<|.tail<|.tail<|.head) ?_;refine Sx.retN (.inl rfl) rfl (.cons (.cell rfl Fx.agg35 (.tail _<|.tail _<|.tail _<|.tail _<|.tail _<|.tail _<|.head _) rfl) (.cons (.tmp rfl) (.cons (.tmp rfl) .nil))) rfl fun W s => ?_;rw [EP,end_ok he0 hbd hck];exact ⟨cFm .u8 v.fm.op v.fm.nm v.fm.fd v.fm.a v.fm.b q1 q2,H5,FR.rep,rfl,(((u1.trans u3).trans u4).trans u5).grow s⟩
 have hd : dn = true := by simpa using h43
 have hfin : (Ps.fin ⟨q,op,x,rd,dn⟩) := .inl hd;refine .gF Z Z Z Z<|.gF Z Z Z Z<|.gF Z Z Z Z<|.gF Z Z Z Z<|.gF Z Z Z Z<|.yv (.pickF Z Z) Z<|.nt<|.cF Z<|.ex<|.tE<|.tE<|.bE<|.tN<|.sq<|.sq<|?_
 have EP : parF (tksF t) = endP ⟨q,op,x,rd,dn⟩ := by unfold parF;rw [run_unique RC hfin (run_end K.gd.last (tksF t).length iniP (wf_ini (by rw [tksF_len];exact Nat.succ_pos _)) (by show _ ≤ 0 + _;omega)).1]
 refine .rg<|.yv (.load Z Fx.agg94 (.tail _<|.tail _<|.tail _<|.tail _<|.head _) Z) Z<|.yv (.nilCheck Z) Z<|.yv (.fieldAddr Z Fx.field102_8) Z<|.yv (.load Z Fx.agg29 (.head _) Z) Z<|.yv (.neq Z Z) Z<|.nt<|.cd Z (fun h62 => ?_) (fun h62 => ?_)
 ·have hne : ¬ q.er = 0 := fun e => of_decide_eq_true h62 (by rw [e];rfl);refine .sq<|.fl (trip := [(_,_,_),(_,_,_),(_,_,_),(_,_,_),(_,_,_),(_,_,_),(_,_,_),(_,_,_),(_,_,_),(_,_,_),(_,_,_)]) 11 [(0,0),(1,0),(2,0),(3,0),(4,0),(5,0),(6,0),(7,0),(8,0),(9,3),(10,0)] (by kernel_rfl) (by kernel_rfl) Z<|.yv (.build Z Fx.bld35) Z<|.yv (.load Z Fx.agg94 (.tail _<|.tail _<|.tail _<|.tail _<|.head _) Z) Z<|.yv (.nilCheck Z) Z<|.yv (.fieldAddr Z Fx.field102_7) Z<|.yv (.load Z Fx.agg3 (.head _) Z) Z<|.yv (.load Z Fx.agg94 (.tail _<|.tail _<|.tail _<|.tail _<|.head _) Z) Z<|.yv (.nilCheck Z) Z<|.yv (.fieldAddr Z Fx.field102_8) Z<|.yv (.load Z Fx.agg29 (.head _) Z) Z<|.sW (.tail<|.tail<|.tail<|.tail<|.tail<|.head) Z Z Fx.size35 (by simp [Value.oneCell',strV]) Z ((.yv (.load Z Fx.agg29 (.head _) Z)<|.yv (.fieldAddr Z Fx.field102_8)<|.yv (.nilCheck Z)<|.yv (.load Z Fx.agg94 (.tail _<|.tail _<|.tail _<|.tail _<|.head _) Z)<|.yv (.load Z Fx.agg3 (.head _) Z)<|.yv (.fieldAddr Z Fx.field102_7)<|.yv (.nilCheck Z)<|.yv (.load Z Fx.agg94 (.tail _<|.tail _<|.tail _<|.tail _<|.head _) Z)<|.done (by kernel_rfl)<|.nl))<|.a Z Z<|.fn (tl := [_]) Z<|.a Z Z<|.nt<|.rt<|.tR<|?_
  refine Sx.retM (.inl rfl) (.tail<|.tail<|.tail<|.head) ?_;refine Sx.retN (.inl rfl) rfl (.cons (.cell rfl Fx.agg35 (.tail _<|.tail _<|.tail _<|.tail _<|.tail _<|.head _) rfl) (.cons (.tmp rfl) (.cons (.tmp rfl) .nil))) rfl fun W s => ?_;rw [EP,end_er hne];exact ⟨[.int .u8 0,.string ⟨#[]⟩,.string ⟨#[]⟩,.int .i64 0,.int .i64 0,.slice none 0 0,.slice none 0 0],H5,zf_rep _,rfl,(((u1.trans u3).trans u4).trans u5).grow s⟩
 have he0 : q.er = 0 := by have := of_decide_eq_false h62;omega
 have hd : dn = true := by
  rcases hfin with e | e
  ·exact e
  ·exact (e he0).elim
 have hr : rd = true := by
  rcases DR with e | e
  ·rw [show dn = false from e] at hd;cases hd
  ·exact e
 subst hr;have hv1 : 1 ≤ x.1.length := by have := Wq.vs;dsimp only at this;rw [this];exact Nat.le_add_left _ _
 obtain ⟨hn1,hn2⟩ := wf_len Wq K.few;dsimp only at hn1 hn2;obtain ⟨vs,bd⟩ := x;dsimp only at hv1 hn2;obtain ⟨v,V,rfl⟩ := list1 hv1;dsimp only [List.length_cons] at hn2;obtain ⟨yr,t0,t1,t2,e8,VS1,V1⟩ := VR.inv S.vls;try dsimp only at e8
 subst e8;have l1 := VS1.len;obtain ⟨q1,q2,ef,FR⟩ := fm_lay V1;have FBv := vbn_fF FB.x;dsimp only;refine .sk<|.tN<|.sr<|.yv (.load Z Fx.agg94 (.tail _<|.tail _<|.tail _<|.tail _<|.head _) Z) Z<|.cs (X := Nat × Nat) Fx.call57 Z (fun W s => formula_f K5 Wq.i V1.one V1.e.nm (by omega) l1 (s.pickT (hd := [_,_,_,_,_,_]) (tl := (AR ++ [])) (hd' := [_,_,_,_,_,_]) [0,2,1,3,4,5] Z Z)) Z fun p1 _ => ?_
 rw [ef];refine .al Fx.zero35 Z fun b7 => .sW .head Z Z Fx.size35 (by intro a ha;exact Rep.one FR.rep a ha) Z<|.nt<|.sq<|.sr<|.yv (.load Z Fx.agg94 (.tail _<|.tail _<|.tail _<|.tail _<|.tail _<|.head _) Z) Z<|.yv (.nilCheck Z) Z<|.yv (.fieldAddr Z Fx.field102_6) Z<|.yv (.load Z Fx.agg4 (.tail _<|.head _) Z) Z<|.nt<|.cd Z (fun h77 => ?_) (fun h77 => ?_)
 ·have hbd : (bd || v.noF) = true := h77;refine .sr<|.yv (.build Z Fx.bld35) Z<|.sW (.tail<|.tail<|.tail<|.tail<|.tail<|.tail<|.head) Z Z Fx.size35 (by simp [Value.oneCell',strV]) Z<|.a Z Z<|.a Z Z<|.nt<|.rt<|.tR<|?_
  refine Sx.retM (.inl rfl) (.tail<|.tail<|.tail<|.tail<|.head) ?_;refine Sx.retN (.inl rfl) rfl (.cons (.cell rfl Fx.agg35 (.tail _<|.tail _<|.tail _<|.tail _<|.tail _<|.tail _<|.head _) rfl) (.cons (.tmp rfl) (.cons (.tmp rfl) .nil))) rfl fun W s => ?_;rw [EP,end_bad he0 hbd];exact ⟨[.int .u8 0,.string ⟨#[]⟩,.string ⟨#[]⟩,.int .i64 0,.int .i64 0,.slice none 0 0,.slice none 0 0],H5,zf_rep _,rfl,(((u1.trans u3).trans u4).trans u5).grow s⟩
 have hbd : (bd || v.noF) = false := h77;refine .sk<|.tN<|.sq<|.sr<|.yv (.loadW Z Fx.agg35 (.head _) Z) Z<|.yv (.call Fx.call15 Z (fun W s => fcheck_any H5 (G4.up u5.up) (GT4.up u5.up) v.fm FBv _ W FR.rep s.agr)) Z<|.a Z Z<|.ns<|.m Z Z<|.yv (.neq Z Z) Z<|.nt<|.cd Z (fun h82 => ?_) (fun h82 => ?_)
 ·have hck : ¬ fcheck v.fm = 0 := fun e => of_decide_eq_true h82 (by rw [e];rfl);refine .sr<|.yv (.build Z Fx.bld35) Z<|.m Z Z<|.sW (.tail<|.tail<|.tail<|.tail<|.tail<|.tail<|.head) Z Z Fx.size35 (by simp [Value.oneCell',strV]) Z<|.a Z Z<|.a Z Z<|.nt<|.rt<|.tR<|?_
  refine Sx.retM (.inl rfl) (.tail<|.tail<|.tail<|.tail<|.head) ?_;refine Sx.retN (.inl rfl) rfl (.cons (.cell rfl Fx.agg35 (.tail _<|.tail _<|.tail _<|.tail _<|.tail _<|.tail _<|.head _) rfl) (.cons (.tmp rfl) (.cons (.tmp rfl) .nil))) rfl fun W s => ?_;rw [EP,end_chk he0 hbd hck];exact ⟨[.int .u8 0,.string ⟨#[]⟩,.string ⟨#[]⟩,.int .i64 0,.int .i64 0,.slice none 0 0,.slice none 0 0],H5,zf_rep _,rfl,(((u1.trans u3).trans u4).trans u5).grow s⟩
 have hck : fcheck v.fm = 0 := by have := of_decide_eq_false h82;omega
 refine .sk<|.tN<|.sr<|.yv (.loadW Z Fx.agg35 (.head _) Z) Z<|.sW (.tail<|.tail<|.tail<|.tail<|.tail<|.tail<|.head) Z Z Fx.size35 (by intro a ha;exact Rep.one FR.rep a ha) Z<|.a Z Z<|.a Z Z<|.nt<|.rt<|?_
 refine Sx.retM (.inl rfl) (.tail<|.tail<|.tail<|.tail<|.head) ?_;refine Sx.retN (.inl rfl) rfl (.cons (.cell rfl Fx.agg35 (.tail _<|.tail _<|.tail _<|.tail _<|.tail _<|.tail _<|.head _) rfl) (.cons (.tmp rfl) (.cons (.tmp rfl) .nil))) rfl fun W s => ?_;rw [EP,end_ok he0 hbd hck];exact ⟨cFm .u8 v.fm.op v.fm.nm v.fm.fd v.fm.a v.fm.b q1 q2,H5,FR.rep,rfl,(((u1.trans u3).trans u4).trans u5).grow s⟩
def awk1 : Str := [111,110,99,101,91,48,44,32,53,93,32,40,97,114,114,105,118,101,115,32,102,114,111,110,116,46,103,101,116,40,95,44,32,55,41,32,97,110,100,32,110,111,116,32,102,108,97,103,32,115,108,111,119,41]
def awk2 : Str := [40,97,46,120,32,43,32,49,41,32,42,32,50,32,62,32,110,111,119]
def awf1 : Fm := .mk 13 [] [] 0 5 [] [.mk 9 [] [] 0 0 [] [.mk 7 [102,114,111,110,116] [103,101,116] 0 0 [.mk 0 [] 0 [],.mk 1 [] 7 []] [],.mk 8 [] [] 0 0 [] [.mk 6 [115,108,111,119] [] 0 0 [] []]]]
def awf2 : Fm := .mk 3 [] [] 0 0 [.mk 20 [] 0 [.mk 11 [] 0 [.mk 14 [] 0 [.mk 5 [97,46,120] 0 [],.mk 1 [] 1 []],.mk 1 [] 2 []],.mk 4 [] 0 []]] []
theorem awk1_par : parF (tksF awk1) = (awf1,0,0) := by kernel_rfl
theorem awk2_par : parF (tksF awk2) = (awf2,0,0) := by kernel_rfl
theorem awk1_txt : textF awf1 = awk1 := by kernel_rfl
theorem fparse_ok (H : Hp) (GL : Gl H) (G : Gf H) (t : Str) (f : Fm) (hl : t.length ≤ 400000) (hp : parF (tksF t) = (f,0,0)) (w : World) (hA : Agr H w) :
 Calls Tryz.prog 26 #[strV t] w fun e W' => ∃ (cs : List Value) (H' : Hp),Rep H' (dFm .u8 f) cs ∧ e = .returned (.tuple #[.agg cs.toArray,.int .i64 0,.int .i64 0]) ∧ Grow H w H' W' := by
 have h := fparse_any H GL G t hl w hA;rw [hp] at h;exact h
theorem awk1_text (H : Hp) (GL : Gl H) (G : Gf H) (gq : Gq H) (cs : List Value) (w : World) (h : Rep H (dFm .u8 awf1) cs) (hA : Agr H w) : Calls Tryz.prog 19 #[.agg cs.toArray] w fun r w' => r = .returned (strV awk1) ∧ Ext w w' := by
 have h1 := fText_any H GL G gq awf1 (by decide +kernel) cs w h hA;rw [awk1_txt] at h1;exact h1
set_option maxRecDepth 100000 in
theorem awake_any (H : Hp) (GL : Gl H) (G : Gf H) (gq : Gq H) (w : World) (hA : Agr H w) : Calls Tryz.prog 13 #[] w fun r w' => r = .returned (.bool true) ∧ Ext w w' := by
 refine Sx.enter (H := H) Tryz.func13 rfl Tryz.ntmps13 rfl hA ?_;refine .sr<|.a Z Z<|.ns<|.ct (X := List Value) Fx.call26 Z (fun W s => fparse_ok H GL G awk1 awf1 (by decide) awk1_par W s.agr) Z fun x1 H1 r1 u1 => ?_
 have r1f : Rep H1 (dFm .u8 (Fm.mk 13 [] [] 0 5 [] [.mk 9 [] [] 0 0 [] [.mk 7 [102,114,111,110,116] [103,101,116] 0 0 [.mk 0 [] 0 [],.mk 1 [] 7 []] [],.mk 8 [] [] 0 0 [] [.mk 6 [115,108,111,119] [] 0 0 [] []]]])) x1 := r1;obtain ⟨p1,c1,p2,c2,rfl,hs1,hs2,_,_⟩ := fm_open r1f;obtain ⟨bE,oE,cE,hpE,rE,lE,mE⟩ := hs2.elem (i := 0) (d := dFm .u8 (Fm.mk 9 [] [] 0 0 [] [.mk 7 [102,114,111,110,116] [103,101,116] 0 0 [.mk 0 [] 0 [],.mk 1 [] 7 []] [],.mk 8 [] [] 0 0 [] [.mk 6 [115,108,111,119] [] 0 0 [] []]])) rfl;cases hpE;obtain ⟨q1,d1,q2,d2,rfl,g1,g2,_,_⟩ := fm_open rE;refine .m Z Z<|.yv (.extract Z Z) Z<|.yv (.extract Z Z) Z<|.yv (.extract Z Z) Z<|.al Fx.zero35 Z fun b1 => .sW .head Z Z Fx.size35 (Rep.one r1) Z<|.a Z Z<|.a Z Z<|.nt<|.sq<|.sr<|.m Z Z<|.yv (.cast (.neq Z Z) (congrArg Value.bool (decide_eq_false (fun h => h Z)))) Z<|.m Z Z<|.gd Z Z<|.yv (.move Z) Z<|.gd Z Z<|.yv (.cast (.neq Z Z) (congrArg Value.bool (decide_eq_false (fun h => h Z)))) Z<|.yv (.pickF Z Z) Z<|.m Z Z<|.gd Z Z<|.yv (.fieldAddr Z Fx.field35_0) Z<|.gd Z Z<|.yv (.load Z Fx.agg31 (.head _) Z) Z<|.gd Z Z<|.yv (.cast (.neq Z Z) (congrArg Value.bool (decide_eq_false (fun h => h Z)))) Z<|.yv (.pickF Z Z) Z<|.m Z Z<|.gd Z Z<|.yv (.fieldAddr Z Fx.field35_4) Z<|.gd Z Z<|.yv (.load Z Fx.agg3 (.head _) Z) Z<|.gd Z Z<|.yv (.cast (.neq Z Z) (congrArg Value.bool (decide_eq_false (fun h => h Z)))) Z<|.yv (.pickF Z Z) Z<|.m Z Z<|.gd Z Z<|.yv (.fieldAddr Z Fx.field35_6) Z<|.gd Z Z<|.yv (.load Z Fx.agg33 (.head _) Z) Z<|.gd Z Z<|.yv (.lenSl Fx.sl33 Z) Z<|.gd Z Z<|.yv (.cast (.neq Z Z) (congrArg Value.bool (decide_eq_false (fun h => h Z)))) Z<|.yv (.pickF Z Z) Z<|.m Z Z<|.gd Z Z<|.yv (.fieldAddr Z Fx.field35_6) Z<|.gd Z Z<|.yv (.load Z Fx.agg33 (.head _) Z) Z<|.gd Z Z<|.yv (.indexSl Fx.sl33 Z Z (i := 0) Z (by decide) (q := oE + 0 * 7) Z) Z<|.gd Z Z<|.yv (.fieldAddr Z Fx.field35_0) Z<|.gd Z Z<|.yv (.loadM Z Fx.agg31 mE (k := 0) Z Z) Z<|.gd Z Z<|.yv (.cast (.neq Z Z) (congrArg Value.bool (decide_eq_false (fun h => h Z)))) Z<|.yv (.pickF Z Z) Z<|.m Z Z<|.gd Z Z<|.yv (.loadW Z Fx.agg35 (.head _) Z) Z<|.gd Z Z<|.yv (.call (v := strV awk1) Fx.call19 Z (fun W s => awk1_text H1 (GL.up u1.up) (G.up u1.up) (gq.up u1.up) _ W r1 s.agr)) Z<|.gd Z Z<|.yv (.cast (.neS Z Z) (congrArg Value.bool (decide_eq_false (fun h => h Z)))) Z<|.yv (.pickF Z Z) Z<|.nt<|.cF Z<|.sk<|.tN<|.sr<|.ct (X := List Value) Fx.call26 Z (fun W s => fparse_ok H1 (GL.up u1.up) (G.up u1.up) awk2 awf2 (by decide) awk2_par W s.agr) Z fun x2 H2 r2 u2 => ?_
 have r2f : Rep H2 (dFm .u8 (Fm.mk 3 [] [] 0 0 [(Ex.mk 20 [] 0 [(Ex.mk 11 [] 0 [.mk 14 [] 0 [.mk 5 [97,46,120] 0 [],.mk 1 [] 1 []],.mk 1 [] 2 []]),.mk 4 [] 0 []])] [])) x2 := r2;obtain ⟨p3,c3,p4,c4,rfl,hs3,hs4,_,_⟩ := fm_open r2f;obtain ⟨bF,oF,cF,hpF,rF,lF,mF⟩ := hs3.elem (i := 0) (d := dEx .u8 (Ex.mk 20 [] 0 [(Ex.mk 11 [] 0 [.mk 14 [] 0 [.mk 5 [97,46,120] 0 [],.mk 1 [] 1 []],.mk 1 [] 2 []]),.mk 4 [] 0 []])) rfl;cases hpF;obtain ⟨p5,c5,rfl,hs5,_⟩ := ex_open rF;obtain ⟨bG,oG,cG,hpG,rG,lG,mG⟩ := hs5.elem (i := 0) (d := dEx .u8 (Ex.mk 11 [] 0 [.mk 14 [] 0 [.mk 5 [97,46,120] 0 [],.mk 1 [] 1 []],.mk 1 [] 2 []])) rfl;cases hpG;obtain ⟨p6,c6,rfl,hs6,_⟩ := ex_open rG;refine .m Z Z<|.yv (.extract Z Z) Z<|.yv (.extract Z Z) Z<|.yv (.extract Z Z) Z<|.al Fx.zero35 Z fun b4 => .sW .head Z Z Fx.size35 (Rep.one r2) Z<|.a Z Z<|.a Z Z<|.ns<|.m Z Z<|.yv (.cast (.eql Z Z) (congrArg Value.bool (decide_eq_true Z))) Z<|.m Z Z<|.gd Z Z<|.yv (.fieldAddr Z Fx.field35_0) Z<|.gd Z Z<|.yv (.load Z Fx.agg31 (.head _) Z) Z<|.gd Z Z<|.yv (.cast (.eql Z Z) (congrArg Value.bool (decide_eq_true Z))) Z<|.yv (.pickT Z Z) Z<|.m Z Z<|.gd Z Z<|.yv (.fieldAddr Z Fx.field35_5) Z<|.gd Z Z<|.yv (.load Z Fx.agg32 (.head _) Z) Z<|.gd Z Z<|.yv (.lenSl Fx.sl32 Z) Z<|.gd Z Z<|.yv (.cast (.eql Z Z) (congrArg Value.bool (decide_eq_true Z))) Z<|.yv (.pickT Z Z) Z<|.m Z Z<|.gd Z Z<|.yv (.fieldAddr Z Fx.field35_5) Z<|.gd Z Z<|.yv (.load Z Fx.agg32 (.head _) Z) Z<|.gd Z Z<|.yv (.indexSl Fx.sl32 Z Z (i := 0) Z (by decide) (q := oF + 0 * 4) Z) Z<|.gd Z Z<|.yv (.fieldAddr Z Fx.field76_0) Z<|.gd Z Z<|.yv (.loadM Z Fx.agg74 mF (k := 0) Z Z) Z<|.gd Z Z<|.yv (.cast (.eql Z Z) (congrArg Value.bool (decide_eq_true Z))) Z<|.yv (.pickT Z Z) Z<|.m Z Z<|.gd Z Z<|.yv (.fieldAddr Z Fx.field35_5) Z<|.gd Z Z<|.yv (.load Z Fx.agg32 (.head _) Z) Z<|.gd Z Z<|.yv (.indexSl Fx.sl32 Z Z (i := 0) Z (by decide) (q := oF + 0 * 4) Z) Z<|.gd Z Z<|.yv (.fieldAddr Z Fx.field76_3) Z<|.gd Z Z<|.yv (.loadM Z Fx.agg32 mF (k := 3) Z Z) Z<|.gd Z Z<|.yv (.indexSl Fx.sl32 Z Z (i := 0) Z (by decide) (q := oG + 0 * 4) Z) Z<|.gd Z Z<|.yv (.fieldAddr Z Fx.field76_0) Z<|.gd Z Z<|.yv (.loadM Z Fx.agg74 mG (k := 0) Z Z) Z<|.gd Z Z<|.yv (.cast (.eql Z Z) (congrArg Value.bool (decide_eq_true Z))) Z<|.yv (.pickT Z Z) Z<|.a Z Z<|.nt<|.rt<|?_
 exact Sx.ret1 (.inl rfl) rfl (.tmp rfl) fun W s => ⟨rfl,s.ext⟩
theorem Fx.bool4 : isBool Tryz.prog 4 = Bool.true := by kernel_rfl
theorem Fx.call13 : callN Tryz.prog 13 = Bool.true := by kernel_rfl
theorem Fx.call14 : callN Tryz.prog 14 = Bool.true := by kernel_rfl
theorem Fx.call21 : callN Tryz.prog 21 = Bool.true := by kernel_rfl
theorem Fx.call22 : callN Tryz.prog 22 = Bool.true := by kernel_rfl
theorem gd_blE {N : Nat} (hN : 3 ≤ N) (e : Ex) (h : Ex.all narrow e = true) : blE N e = true := by
 induction e using Ex.ind with | _ op nm n args ih
 rw [all_mk,narrow_mk,Bool.and_eq_true,decide_eq_true_eq,alls_allE,List.all_eq_true] at h;exact blE_mk.2 ⟨by omega,fun a ha => ih a ha (h.2 a ha)⟩
theorem gd_blF {N : Nat} (hN : 4 ≤ N) (f : Fm) (h : gdF f = true) : blF N f = true := by
 induction f using Fm.ind with | _ op nm fd a b ex args ih
 obtain ⟨⟨_,h1,h2,h3⟩,h4⟩ := gdF_mk.1 h;exact blF_mk.2 ⟨⟨by omega,by omega,fun e he => gd_blE (by omega) e (gdE_nar (h3 e he))⟩,fun g hg => ih g hg (h4 g hg)⟩
set_option maxRecDepth 100000 in
theorem fsize_any (H : Hp) (f : Fm) (hb : blF 4 f = true) (hc : f.count ≤ 1000000) (cs : List Value) (w : World) (h : Rep H (dFm .u8 f) cs) (hA : Agr H w) : Calls Tryz.prog 22 #[.agg cs.toArray] w fun r w' => r = .returned (.int .i64 (f.count : Nat)) ∧ Ext w w' := by
 obtain ⟨op,nm,fd,a,b,ex,args⟩ := f;obtain ⟨p1,c1,p2,c2,rfl,hs1,hs2,hnm,hfd⟩ := fm_open h;have hcap1 := hs1.cap;have hcap2 := hs2.cap;refine Sx.enter (H := H) Tryz.func22 rfl Tryz.ntmps22 rfl hA ?_;refine .sr<|.bx Z Z Z fun b1 => .a Z Z<|.ns<|.yv (.loadW Z Fx.agg35 (.head _) Z) Z<|.yv (.call Fx.call34 Z (fun W s => count_any H (.mk op nm fd a b ex args) 9223372036854775807 4 (by decide) hb (.inl (by omega)) (.inr (by omega)) (by decide) _ W h s.agr)) Z<|.a Z Z<|.nt<|.rt<|?_
 exact Sx.ret1 (.inl rfl) rfl (.tmp rfl) fun W s => ⟨by rw [show min (Fm.count (.mk op nm fd a b ex args)) (9223372036854775807 + 1) = Fm.count (.mk op nm fd a b ex args) by omega],s.ext⟩
set_option maxRecDepth 100000 in
theorem formulaSizes_any (H : Hp) (GL : Gl H) (G : Gf H) (gq : Gq H) (l : List Nf) (n : Str) (v : Value) (h : Rep H (.seq 8 (l.map dNf)) [v]) (hn : n.length ≤ 9223372036854775807) (w : World) (hA : Agr H w) :
 Calls Tryz.prog 5 #[v,strV n] w fun r w' => r = .returned (.bool true) ∧ Ext w w' := by
 refine Sx.enter (H := H) Tryz.func5 rfl Tryz.ntmps5 rfl hA ?_;refine .sr<|.a Z Z<|.nt<|.sq<|.sr<|.yv (.call Fx.call13 Z (fun W s => awake_any H GL G gq W s.agr)) Z<|.yv (.not Z) Z<|.nt<|.cF Z<|.sk<|.tN<|.sr<|.m Z Z<|.ct (X := List Value) Fx.call14 Z (fun W s => buildF34_any H l v h W s.agr) Z fun x1 H1 hx1 u1 => ?_
 obtain ⟨g1,r1,hg1,hc1⟩ := hx1;refine .al Fx.zero27 Z fun b5 => .sV .head Z Z Fx.size27 (fm_len r1) r1.one Z<|.ns<|.m Z Z<|.yv (.call (v := spV n) Fx.call20 Z (fun W s => split_any n hn W)) Z<|.m Z Z<|.yv (.extract Z Z) Z<|.yv (.extract Z Z) Z<|.yv (.extract Z Z) Z<|.a Z Z<|.a Z Z<|.a Z Z<|.ns<|.m Z Z<|.yv (.call (v := spV n) Fx.call21 Z (fun W s => rsplit_any H1 n hn W s.agr)) Z<|.m Z Z<|.yv (.extract Z Z) Z<|.yv (.extract Z Z) Z<|.yv (.extract Z Z) Z<|.a Z Z<|.a Z Z<|.a Z Z<|.nt<|.sq<|.fl (trip := [(_,_,_),(_,_,_),(_,_,_),(_,_,_),(_,_,_),(_,_,_),(_,_,_),(_,_,_),(_,_,_),(_,_,_),(_,_,_),(_,_,_),(_,_,_),(_,_,_),(_,_,_),(_,_,_),(_,_,_),(_,_,_),(_,_,_),(_,_,_),(_,_,_)]) 21 [(0,0),(3,0),(1,1),(2,0),(4,0),(5,0),(6,0),(7,0),(8,0),(9,0),(10,0),(11,0),(12,0),(13,0),(14,0),(15,0),(16,0),(17,0),(18,0),(19,0),(20,0)] (by kernel_rfl) (by kernel_rfl) Z<|.yv (.loadW Z Fx.agg27 (.head _) (fm_len r1)) Z<|.yv (.loadW Z Fx.agg27 (.head _) (fm_len r1)) Z<|.ct (X := List Value) Fx.call16 Z (fun W s => form_any g1 hg1 H1 _ W r1 s.agr) Z fun x2 H2 r2 u2 => ?_
 have r1u := r1.up u2.up;refine .yv (.call Fx.call22 Z (fun W s => fsize_any H2 g1 (gd_blF (by decide) g1 hg1) (by omega) _ W r2 s.agr)) Z<|.yv (.call Fx.call23 Z (fun W s => size_any g1 H2 _ W r1u (by omega) s.agr)) Z<|.yv (.cast (.eql Z Z) (congrArg Value.bool (decide_eq_true Z))) Z<|.m Z Z<|.yg Z Z (.move Z) Z<|.yg Z Z (.move Z) Z<|.yg Z Z (.cast (.eqS Z Z) (congrArg Value.bool (decide_eq_true Z))) Z<|.yv (.pickT Z Z) Z<|.m Z Z<|.yg Z Z (.move Z) Z<|.yg Z Z (.move Z) Z<|.yg Z Z (.cast (.eqS Z Z) (congrArg Value.bool (decide_eq_true Z))) Z<|.yv (.pickT Z Z) Z<|.m Z Z<|.yg Z Z (.move Z) Z<|.yg Z Z (.move Z) Z<|.yg Z Z (.cast (.eqlB Fx.bool4 Z Z) (congrArg Value.bool (decide_eq_true Z))) Z<|.yv (.pickT Z Z) Z<|.fn (tl := [_]) Z<|.a Z Z<|.nt<|.rt<|?_
 exact Sx.ret1 (.inl rfl) rfl (.tmp rfl) fun W s => ⟨rfl,((u1.trans u2).grow s).ext⟩
variable {H : Type} {enc : TypeId × Value → H}
theorem wrap {a : Assume} {C : Checked} {os : Os} {f : FuncId} {fn : Func} {s : ChangeSpec} {conds : List PathCond} {apart fresh handsOn again : Bool} {X : World → Array Value → Prop}
 (hX : ∀ (w w' : World) (args : Array Value),w.heap = w'.heap → X w args → X w' args)
 (own : ownKnob C.prog.godebug = none) (started : os.Started) (noInit : C.prog.inits.idxOf? f = none) (hfn : C.prog.funcs[f]? = some fn)
 (witness : ∃ (w : World) (tape : Tape) (i : Input),w.os = os ∧ (w.forCall tape i).Shaped C.prog ∧ i.vars = [] ∧ Input.okWide C.prog (w.forCall tape i) .any w.heap.size f i ∧
  ((s.pre enc C.prog fn conds apart (w.forCall tape i).memory i.args ∧ X (w.forCall tape i).memory i.args) ∧ sizedMet enc C.prog fn (OpenSpec.ofChange s) apart (w.forCall tape i).memory i.args) ∧ a.holds C.prog (lone (Frame.enter C.prog f i.args .normal) [] (w.forCall tape i)))
 (contract : ∀ (W : World) (base : Nat) (args : Array Value) (ds gs : List (DataW H)) (before : List MemPlace),
  (∀ (j : Nat) t v,fn.params[j]? = some t → args[j]? = some v → Value.okWide C.prog W .any base t v) →
  DataW.Whole enc C.prog fn.params.toList s.vars apart W args.toList ds gs before →
  X W args → W.ShapedOpen C.prog →
  Calls C.prog f args W fun e W' => ∃ v,e = .returned v ∧ s.post enc C.prog fn apart fresh handsOn again W args v W') :
 ReturnsInHanded a C os f .any (fun w args => (s.pre enc C.prog fn conds apart w args ∧ X w args) ∧ sizedMet enc C.prog fn (OpenSpec.ofChange s) apart w args) (s.post enc C.prog fn apart fresh handsOn again) := by
 refine returnsInHanded_of_calls own started noInit witness ?_;intro w tape i _ hsh _ hok hpre _;obtain ⟨_,_,_,fn',hfn',_,_,_,_,hval⟩ := hok;have e : fn' = fn := Option.some.inj (hfn'.symm.trans hfn);subst e;obtain ⟨⟨⟨ds,gs,before,hw,_⟩,hx⟩,_⟩ := hpre;have hw' := DataW.Whole.of_heap (w' := w.forCall tape i) (by rfl) hw;refine (contract (w.forCall tape i) w.heap.size i.args ds gs before hval hw' (hX _ _ _ (by rfl) hx) hsh).mono fun e W' ⟨v,he,hp⟩ => ?_;subst he;exact ChangeSpec.post_blind hp

theorem own : ownKnob Tryz.prog.godebug = none := by kernel_rfl
def laids : List (String × DataW Unit) := [("math/bits.deBruijn32tab",Rows.laid_math_bits_deBruijn32tab),("math/bits.deBruijn64tab",Rows.laid_math_bits_deBruijn64tab),("internal/strconv.uint64pow10",Rows.laid_internal_strconv_uint64pow10),("rootcause/lexer.words",Rows.laid_rootcause_lexer_words),("rootcause/lexer.symbols",Rows.laid_rootcause_lexer_symbols),("rootcause/formula.shapes",Rows.laid_rootcause_formula_shapes),("rootcause/formula.symbols",Rows.laid_rootcause_formula_symbols),("rootcause/formula.words",Rows.laid_rootcause_formula_words)]
theorem gTab : Tryz.prog.globalNamed "internal/strconv.uint64pow10" = some 6 := by kernel_rfl
theorem gTabT : (Tryz.prog.globals[6]?).map (·.type) = some 257 := by kernel_rfl
theorem cellsTab : Tryz.prog.cellsOf 257 = 20 := by kernel_rfl
theorem cellsTabE : Tryz.prog.cellsOf 242 = 1 := by kernel_rfl
theorem tabEq : (Rows.laid_internal_strconv_uint64pow10 : DataW Unit) = Lib.tabData .u64 Lib.pow10Tab := by kernel_rfl
theorem gt_of {W : World} (h : laidMet Tryz.prog laids W) : Gq (allH W) := by
 intro W' hA;have h1 : Lib.TabIs Tryz.prog W "internal/strconv.uint64pow10" .u64 Lib.pow10Tab := Lib.tabIs_of_head gTab gTabT Tryz.underlying257 Tryz.underlying242 cellsTabE cellsTab (tabEq ▸ h.tail.tail);unfold Lib.TabIs World.var? at *;rw [gTab] at *;simp only [Option.bind_some] at *
 split at h1
 ·rename_i cs T m hb;rw [hA 6 _ hb];exact h1
 ·cases h1
theorem gl_of {W : World} (h : laidMet Tryz.prog laids W) : Gl (allH W) :=
 ⟨laid_mem (t := 235) (.arr 39 .strg) _ (by kernel_rfl) (by kernel_rfl) (by kernel_rfl) (by kernel_rfl) (by kernel_rfl) h.tail.tail.tail,
  laid_mem (t := 217) (.arr 25 .strg) _ (by kernel_rfl) (by kernel_rfl) (by kernel_rfl) (by kernel_rfl) (by kernel_rfl) h.tail.tail.tail.tail⟩
theorem gf_of {W : World} (h : laidMet Tryz.prog laids W) : Gf (allH W) :=
 ⟨laid_mem (t := 163) (.arr 19 .strg) _ (by kernel_rfl) (by kernel_rfl) (by kernel_rfl) (by kernel_rfl) (by kernel_rfl) h.tail.tail.tail.tail.tail.tail.tail,
  laid_mem (t := 165) (.arr 22 .strg) _ (by kernel_rfl) (by kernel_rfl) (by kernel_rfl) (by kernel_rfl) (by kernel_rfl) h.tail.tail.tail.tail.tail.tail,
  laid_mem (t := 200) (.arr 19 (.str [.int .u8,.bool,.bool,.bool,.bool,.int .u8,.int .u8])) _ (by kernel_rfl) (by kernel_rfl) (by kernel_rfl) (by kernel_rfl) (by kernel_rfl) h.tail.tail.tail.tail.tail⟩
theorem laid_met (os : Os) (args : Array Value) : laidMet Tryz.prog laids ((World.laidAll Tryz.prog os laids).forCall (fun _ _ => 0) ⟨#[],args,[]⟩).memory :=
 laidMet_laidAll _ (by kernel_rfl) (by kernel_rfl)
theorem laid_shaped (os : Os) (args : Array Value) : ((World.laidAll Tryz.prog os laids).forCall (fun _ _ => 0) ⟨#[],args,[]⟩).Shaped Tryz.prog :=
 World.shaped_of_ZipB (by kernel_rfl) (by kernel_rfl)
theorem ext_kept {W W' : World} (h : Ext W W') : ∀ may,W.keptBut W' may := fun may => (Ext.below h).frame may
theorem laidOut : laidOutB Tryz.prog = true := by kernel_rfl
end Go.Proofs.YtidclioghdbphaaGreatDoor
