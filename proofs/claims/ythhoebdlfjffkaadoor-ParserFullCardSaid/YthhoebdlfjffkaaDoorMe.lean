/- Texts of the proof, one behind the other. -/
import Derived.Test.YthhoebdlfjffkaaDoorMd
import Derived.Test.YthhoebdlfjffkaaDoorTie
import Derived.ProofKit
import Derived.OpenShut
import Derived.ShutString
import Derived.Lay
import Derived.Stop.LaidErr
import Derived.Stop.Joined
import Derived.Shelf.Vars
import Derived.Lib.LaidTab
import Derived.Lib.SmallJoins
import Derived.SevenTiedAt
set_option linter.all false
namespace Go.Proofs.YthhoebdlfjffkaaDoor
theorem rdK_un {op : UInt8} {x : Kt} (hx : (op = 9 ∧ x = (4,[45])) ∨ (op = 10 ∧ x = (2,[110,111,116]))) {ka : List Kt} {a : Ex} (ha : RdK ka a) : RdK (x :: parP ka) (opE op [a]) := by
 have h5 : Rd5 (x :: parP ka) (opE op [a]) := by
  intro le r hk _
  obtain ⟨t,l1,rfl,ht,hk⟩ := List.map_eq_cons_iff.1 hk
  have hp := ha.par hk (r := r)
  rw [List.cons_append,pX_un,isT_cons,isT_cons,ht]
  rcases hx with ⟨rfl,rfl⟩ | ⟨rfl,rfl⟩
  ·rw [if_pos (by decide),List.tail_cons,hp]
   rfl
  ·rw [if_neg (by decide),if_pos (by decide),List.tail_cons,hp]
   rfl
 exact h5.low
theorem gX5_prim {t : Tk} {r : List Tk} (h1 : isK [45] (kt t) = false) (h2 : isK [110,111,116] (kt t) = false) : pX 5 (t :: r) = gPrim (t :: r) := by
 rw [pX_un,isT_cons,isT_cons,h1,h2,if_neg (by decide),if_neg (by decide)]
 exact congrFun prim_eq _
theorem key_read {op : UInt8} {nm : Str} {kb : List Kt} {b : Ex} (hb : RdK kb b) {l r : List Tk} (hl : l.map kt = kb ++ [(4,[93])]) : gKey op nm (l ++ r) = .ok (.mk op nm 0 [b]) r := by
 obtain ⟨l2,l3,rfl,h2,h3⟩ := List.map_eq_append_iff.1 hl
 obtain ⟨t2,l4,rfl,ht2,h4⟩ := List.map_eq_cons_iff.1 h3
 obtain rfl := List.map_eq_nil_iff.1 h4
 have hf := hb l2 (t2 :: r) h2 (.of (by rw [ht2];decide) (by rw [ht2];decide))
 have e : gX 0 (l2 ++ [t2] ++ r) = .ok b (t2 :: r) := by
  rw [List.append_assoc]
  exact hf
 unfold gKey gBind
 rw [e]
 show (gNd [93] (t2 :: r)).bind _ = _
 unfold gNd
 rw [isT_cons,ht2,if_pos (by decide)]
 rfl
theorem gPrim_nm {t : Tk} {r : List Tk} (h : t.k = 1) : gPrim (t :: r) = gNam (t :: r) := by
 have f : ∀ w,isT w (t :: r) = false := fun w => by
  cases e : isT w (t :: r) with
  | false => rfl
  | true =>
   have := (isT_k e).1
   rw [h] at this
   revert this
   decide
 unfold gPrim gAlt gLast isNum
 simp only [f,Bool.false_eq_true,if_false,h,show ¬ ((1 : UInt8) = 3) by decide,decide_false]
theorem rdK_get {nm : Str} {kb : List Kt} {b : Ex} (hb : RdK kb b) : RdK ((1,nm) :: (4,[91]) :: (kb ++ [(4,[93])])) (.mk 6 nm 0 [b]) := by
 have h5 : Rd5 ((1,nm) :: (4,[91]) :: (kb ++ [(4,[93])])) (.mk 6 nm 0 [b]) := by
  intro le r hk _
  obtain ⟨t,l1,rfl,ht,hk⟩ := List.map_eq_cons_iff.1 hk
  obtain ⟨t2,l,rfl,ht2,hk⟩ := List.map_eq_cons_iff.1 hk
  have h1 : t.k = 1 := congrArg Prod.fst ht
  have h2 : t.t = nm := congrArg Prod.snd ht
  rw [List.cons_append,gX5_prim (by rw [ht];rfl) (by rw [ht];rfl),gPrim_nm h1]
  have e1 : gNm (t :: (t2 :: l ++ r)) = .ok nm (t2 :: (l ++ r)) := by
   unfold gNm
   simp only [h1,if_true,h2]
   rfl
  unfold gNam gBind
  rw [e1]
  show gAlt [91] (gKey 6 nm) _ (t2 :: (l ++ r)) = _
  unfold gAlt
  rw [isT_cons,ht2,if_pos (by decide)]
  exact key_read hb hk
 exact h5.low
theorem rdK_has {nm : Str} {kb : List Kt} {b : Ex} (hb : RdK kb b) : RdK ((2,[104,97,115]) :: (1,nm) :: (4,[91]) :: (kb ++ [(4,[93])])) (.mk 7 nm 0 [b]) := by
 have h5 : Rd5 ((2,[104,97,115]) :: (1,nm) :: (4,[91]) :: (kb ++ [(4,[93])])) (.mk 7 nm 0 [b]) := by
  intro le r hk _
  obtain ⟨t,l1,rfl,ht,hk⟩ := List.map_eq_cons_iff.1 hk
  obtain ⟨t1,l0,rfl,ht1,hk⟩ := List.map_eq_cons_iff.1 hk
  obtain ⟨t2,l,rfl,ht2,hk⟩ := List.map_eq_cons_iff.1 hk
  have h1 : t1.k = 1 := congrArg Prod.fst ht1
  have h2 : t1.t = nm := congrArg Prod.snd ht1
  rw [List.cons_append,gX5_prim (by rw [ht];decide) (by rw [ht];decide)]
  unfold gPrim gAlt
  simp only [isT_cons,ht]
  rw [if_neg (by decide),if_neg (by decide),if_neg (by decide),if_neg (by decide),if_pos (by decide)]
  have e1 : gNm (t1 :: t2 :: l ++ r) = .ok nm (t2 :: (l ++ r)) := by
   show gNm (t1 :: (t2 :: (l ++ r))) = _
   unfold gNm
   simp only [h1,if_true,h2]
  show gBind gNm _ (t1 :: t2 :: l ++ r) = _
  unfold gBind
  rw [e1]
  show (gNd [91] (t2 :: (l ++ r))).bind _ = _
  unfold gNd
  rw [isT_cons,ht2,if_pos (by decide)]
  exact key_read hb hk
 exact h5.low
mutual
def fullK : Ex → List Kt
 | .mk op nm n args => match fullKs args with
  | [] => ktE (.mk op nm n [])
  | [b] => if op = 6 then (1,nm) :: (4,[91]) :: (b ++ [(4,[93])]) else if op = 7 then (2,[104,97,115]) :: (1,nm) :: (4,[91]) :: (b ++ [(4,[93])])
   else if op = 9 then (4,[45]) :: parP b else (2,[110,111,116]) :: parP b
  | a :: b :: _ => parP a ++ symK op :: parP b
def fullKs : List Ex → List (List Kt)
 | [] => []
 | e :: r => fullK e :: fullKs r
end
theorem shape_k : ∀ op ∈ ([1,2,3,4,5,6,7,8,9,10,11,12,13,14,15,16,17,18,19,20,21,22,23] : List UInt8),
 ((shapeOf op).n = 0 ∨ ((shapeOf op).n = 1 ∧ (op = 6 ∨ op = 7 ∨ ((op = 9 ∨ op = 10) ∧ (shapeOf op).nm = false)) ∧ ¬ op = 1) ∨ ((shapeOf op).n = 2 ∧ op ∈ ([11,12,13,14,15,16,17,18,19,20,21,22,23] : List UInt8) ∧ (shapeOf op).nm = false ∧ ¬ op = 1)) := by decide
theorem full_all (e : Ex) : Ex.all frmE e = true → RdK (fullK e) e := by
 induction e using Ex.ind with
 | _ op nm n args ih =>
  intro h
  have h0 := h
  rw [all_mk,Bool.and_eq_true] at h
  obtain ⟨hf,hr⟩ := h
  have ha : ∀ a ∈ args,RdK (fullK a) a := fun a m => ih a m (alls_mem m hr)
  simp only [frmE,Bool.and_eq_true,Bool.or_eq_true,decide_eq_true_eq] at hf
  obtain ⟨⟨⟨hop,hl⟩,hnm⟩,hn⟩ := hf
  rcases shape_k op (ok_cases hop) with h1 | ⟨h1,h2,h3⟩ | ⟨h1,h2,h3,h4⟩
  ·obtain rfl := args0 (l := args) (by omega)
   exact rdK_good h0
  ·obtain ⟨b,rfl⟩ := args1 (l := args) (by omega)
   rw [if_neg h3,decide_eq_true_eq] at hn
   obtain rfl := i64_zero hn
   have hb := ha b (by simp)
   rcases h2 with rfl | rfl | ⟨h2,h4⟩
   ·exact rdK_get hb
   ·exact rdK_has hb
   ·obtain rfl : nm = [] := by
     rcases hnm with e | e
     ·rw [h4] at e;cases e
     ·exact e
    rcases h2 with rfl | rfl
    ·exact rdK_un (.inl ⟨rfl,rfl⟩) hb
    ·exact rdK_un (.inr ⟨rfl,rfl⟩) hb
  ·obtain ⟨a,b,rfl⟩ := args2 (l := args) (by omega)
   rw [if_neg h4,decide_eq_true_eq] at hn
   obtain rfl := i64_zero hn
   obtain rfl : nm = [] := by
    rcases hnm with e | e
    ·rw [h3] at e;cases e
    ·exact e
   exact rdK_bin h2 (ha a (by simp)) (ha b (by simp))
mutual
def fullS : Ex → Str
 | .mk op nm n args => match fullSs args with
  | [] => Ex.text (.mk op nm n [])
  | [b] => if op = 6 then nm ++ 91 :: (b ++ [93]) else if op = 7 then [104,97,115] ++ 32 :: (nm ++ 91 :: (b ++ [93]))
   else if op = 9 then 45 :: 32 :: 40 :: (b ++ [41]) else [110,111,116] ++ 32 :: 40 :: (b ++ [41])
  | a :: b :: _ => 40 :: (a ++ 41 :: ((shapeOf op).tx ++ 40 :: (b ++ [41])))
def fullSs : List Ex → List Str
 | [] => []
 | e :: r => fullS e :: fullSs r
end
def LxF (e : Ex) : Prop := ∀ r ks,sepB r → Lx r ks → Lx (fullS e ++ r) (fullK e ++ ks) ∧ hdB (fullS e ++ r)
theorem LxF.par {e : Ex} (h : LxF e) {r : Str} {ks : List Kt} (hr : hdB r) (hk : Lx r ks) : Lx (40 :: (fullS e ++ 41 :: r)) (parP (fullK e) ++ ks) := by
 obtain ⟨k1,k2⟩ := h (41 :: r) ((4,[41]) :: ks) cl_sep (.sy (by decide) hr hk)
 have e2 : parP (fullK e) ++ ks = (4,[40]) :: (fullK e ++ (4,[41]) :: ks) := by simp [parP]
 rw [e2]
 exact .sy (by decide) k2 k1
theorem lxF_all (e : Ex) : Ex.all frmE e = true → Ex.all namE e = true → LxF e := by
 induction e using Ex.ind with
 | _ op nm n args ih =>
  intro h hq
  have h0 := h
  have hq0 := hq
  rw [all_mk,Bool.and_eq_true] at h hq
  obtain ⟨hf,hr⟩ := h
  obtain ⟨hg,hq⟩ := hq
  have ha : ∀ a ∈ args,LxF a := fun a m => ih a m (alls_mem m hr) (alls_mem m hq)
  simp only [frmE,Bool.and_eq_true,Bool.or_eq_true,decide_eq_true_eq] at hf
  simp only [namE,Bool.or_eq_true,Bool.not_eq_true'] at hg
  obtain ⟨⟨⟨hop,hl⟩,hnm⟩,hn⟩ := hf
  have hn5 : (shapeOf op).nm = true → nameB nm = true := fun e => hg.resolve_left (by rw [e];decide)
  intro r ks hs hk
  rcases shape_k op (ok_cases hop) with h1 | ⟨h1,h2,h3⟩ | ⟨h1,h2,h3,h4⟩
  ·obtain rfl := args0 (l := args) (by omega)
   exact lx_all _ h0 hq0 r ks hs hk
  ·obtain ⟨b,rfl⟩ := args1 (l := args) (by omega)
   have hb := ha b (by simp)
   have key : Lx (91 :: (fullS b ++ 93 :: r)) ((4,[91]) :: (fullK b ++ (4,[93]) :: ks)) := by
    obtain ⟨k1,k2⟩ := hb (93 :: r) ((4,[93]) :: ks) bk_sep (.sy (by decide) hs.hd hk)
    exact .sy (by decide) k2 k1
   rcases h2 with rfl | rfl | ⟨h2,h4⟩
   ·have e1 : fullS (.mk 6 nm n [b]) ++ r = nm ++ 91 :: (fullS b ++ 93 :: r) := by
     show (nm ++ 91 :: (fullS b ++ [93])) ++ r = _
     simp
    have e2 : fullK (.mk 6 nm n [b]) ++ ks = (1,nm) :: (4,[91]) :: (fullK b ++ (4,[93]) :: ks) := by
     show ((1,nm) :: (4,[91]) :: (fullK b ++ [(4,[93])])) ++ ks = _
     simp
    rw [e1,e2]
    exact ⟨.nm (hn5 rfl) br_sep key,name_hd (hn5 rfl)⟩
   ·have e1 : fullS (.mk 7 nm n [b]) ++ r = [104,97,115] ++ 32 :: (nm ++ 91 :: (fullS b ++ 93 :: r)) := by
     show ([104,97,115] ++ 32 :: (nm ++ 91 :: (fullS b ++ [93]))) ++ r = _
     simp
    have e2 : fullK (.mk 7 nm n [b]) ++ ks = (2,[104,97,115]) :: (1,nm) :: (4,[91]) :: (fullK b ++ (4,[93]) :: ks) := by
     show ((2,[104,97,115]) :: (1,nm) :: (4,[91]) :: (fullK b ++ [(4,[93])])) ++ ks = _
     simp
    rw [e1,e2]
    exact ⟨.kw (by decide) sp_sep (.sp (.nm (hn5 rfl) br_sep key)),kw_hd (by decide)⟩
   ·have kp := hb.par hs.hd hk
    rcases h2 with rfl | rfl
    ·have e1 : fullS (.mk 9 nm n [b]) ++ r = 45 :: 32 :: 40 :: (fullS b ++ 41 :: r) := by
      show (45 :: 32 :: 40 :: (fullS b ++ [41])) ++ r = _
      simp
     have e2 : fullK (.mk 9 nm n [b]) ++ ks = (4,[45]) :: (parP (fullK b) ++ ks) := rfl
     rw [e1,e2]
     exact ⟨.sy (by decide) sp_sep.hd (.sp kp),hdB_cons (by decide)⟩
    ·have e1 : fullS (.mk 10 nm n [b]) ++ r = [110,111,116] ++ 32 :: 40 :: (fullS b ++ 41 :: r) := by
      show ([110,111,116] ++ 32 :: 40 :: (fullS b ++ [41])) ++ r = _
      simp
     have e2 : fullK (.mk 10 nm n [b]) ++ ks = (2,[110,111,116]) :: (parP (fullK b) ++ ks) := rfl
     rw [e1,e2]
     exact ⟨.kw (by decide) sp_sep (.sp kp),kw_hd (by decide)⟩
  ·obtain ⟨a,b,rfl⟩ := args2 (l := args) (by omega)
   have e1 : fullS (.mk op nm n [a,b]) ++ r = 40 :: (fullS a ++ 41 :: ((shapeOf op).tx ++ 40 :: (fullS b ++ 41 :: r))) := by
    show (40 :: (fullS a ++ 41 :: ((shapeOf op).tx ++ 40 :: (fullS b ++ [41])))) ++ r = _
    simp
   have e2 : fullK (.mk op nm n [a,b]) ++ ks = parP (fullK a) ++ (symK op :: (parP (fullK b) ++ ks)) := by
    show (parP (fullK a) ++ symK op :: parP (fullK b)) ++ ks = _
    simp
   rw [e1,e2]
   have k1 := Lx.bin h2 ((ha b (by simp)).par hs.hd hk)
   refine ⟨(ha a (by simp)).par ?_ k1,hdB_cons (by decide)⟩
   rw [(bin_tx op h2).1]
   exact sp_sep.hd
theorem full_read {e : Ex} (h : Ex.all frmE e = true) (hq : Ex.all namE e = true) : gX 0 (lexR (fullS e)) = .ok e [] := by
 obtain ⟨k,_⟩ := lxF_all e h hq [] [] sepB_nil .nil
 rw [List.append_nil,List.append_nil] at k
 exact (full_all e h).lex k.lex
end Go.Proofs.YthhoebdlfjffkaaDoor
namespace Go.Proofs.YthhoebdlfjffkaaDoor
open Go.RowKit Go.Par Go.Sx
structure Nf where
 op : UInt8
 nm : UInt8
 a : UInt8
 b : UInt8
 n : UInt32
def cNf (x : Nf) : List Value := [.int .u8 x.op.toNat,.int .u8 x.nm.toNat,.int .u8 x.a.toNat,.int .u8 x.b.toNat,.int .u32 x.n.toNat]
def dNf (x : Nf) : D := .str [.val (.int .u8 x.op.toNat),.val (.int .u8 x.nm.toNat),.val (.int .u8 x.a.toNat),.val (.int .u8 x.b.toNat),.val (.int .u32 x.n.toNat)]
theorem nf_open {H : Hp} {x : Nf} {cs : List Value} (h : Rep H (dNf x) cs) : cs = cNf x := by
 rw [dNf,repS] at h
 obtain ⟨_,rfl,_,_,h⟩ := repL_val.1 h
 obtain ⟨_,rfl,_,_,h⟩ := repL_val.1 h
 obtain ⟨_,rfl,_,_,h⟩ := repL_val.1 h
 obtain ⟨_,rfl,_,_,h⟩ := repL_val.1 h
 obtain ⟨_,rfl,_,_,h⟩ := repL_val.1 h
 rw [repL_nil] at h
 subst h
 rfl
theorem has_u32 {n : Int} (h : (Lit.int .u32 n).wf = true) : ∃ x : UInt32,n = x.toNat := by
 have e1 : IntKind.u32.min = 0 := rfl
 have e2 : IntKind.u32.max = 4294967295 := rfl
 simp only [Lit.wf,e1,e2,Bool.and_eq_true,decide_eq_true_eq] at h
 exact ⟨UInt32.ofNat n.toNat,by simp [UInt32.toNat_ofNat'];omega⟩
def nmsF : List Str := [[97],[98],[116],[120,49]]
def nmF (c : UInt8) : Str := nmsF.getD (c.toNat % 4) []
def opF7 (f : Nat) (o : UInt8) : Nat := if f = 0 ∧ (1 + o.toNat % 23 = 6 ∨ 1 + o.toNat % 23 = 7 ∨ 8 < 1 + o.toNat % 23) then 5 else 1 + o.toNat % 23
def nodeT (op : Nat) (x : Nf) (ra rb : Ex) : Ex :=
 if op = 1 then .mk 1 [] (Int64.ofNat x.n.toNat) []
 else if op ≤ 4 then .mk (UInt8.ofNat op) [] 0 []
 else if op = 5 ∨ op = 8 then .mk (UInt8.ofNat op) (nmF x.nm) 0 []
 else if op ≤ 7 then .mk (UInt8.ofNat op) (nmF x.nm) 0 [ra]
 else if op ≤ 10 then .mk (UInt8.ofNat op) [] 0 [ra]
 else .mk (UInt8.ofNat op) [] 0 [ra,rb]
def kidN (k : Nat) (v : UInt8) : Nat := if 0 < k then v.toNat % k + 1 else 0
def treeT (l : List Nf) : Nat → Nat → Ex
 | _,0 => .mk 4 [] 0 []
 | 0,k + 1 => match l[k]? with | none => .mk 4 [] 0 [] | some x => nodeT (opF7 0 x.op) x (.mk 4 [] 0 []) (.mk 4 [] 0 [])
 | f + 1,k + 1 => match l[k]? with | none => .mk 4 [] 0 [] | some x => nodeT (opF7 (f + 1) x.op) x (treeT l f (kidN k x.a)) (treeT l f (kidN k x.b))
theorem opF7_rng (f : Nat) (o : UInt8) : 1 ≤ opF7 f o ∧ opF7 f o ≤ 23 := by unfold opF7;split <;> omega
theorem opF7_low {o : UInt8} : opF7 0 o ≤ 5 ∨ opF7 0 o = 8 := by unfold opF7;split <;> omega
theorem nmF_len (c : UInt8) : (nmF c).length ≤ 2 := by
 have key : ∀ i ∈ List.range 4,(nmsF.getD i []).length ≤ 2 := by decide
 exact key _ (List.mem_range.2 (by omega))
theorem node_leaf {D op : Nat} {x : Nf} {ra rb : Ex} (h1 : 1 ≤ op) (h : op ≤ 5 ∨ op = 8) : wfE (D + 1) (nodeT op x ra rb) := by
 unfold nodeT
 split
 ·refine wfE0 ?_ (by show (!(shapeOf 1).nm || nameB []) = true;decide)
  have hn : (Int64.ofNat x.n.toNat).toInt = (x.n.toNat : Int) := Int64.toInt_ofNat_of_lt (by have := x.n.toNat_lt;omega)
  unfold frmE
  simp only [if_true,hn]
  have : decide (0 ≤ (x.n.toNat : Int)) = true := decide_eq_true (by omega)
  rw [this]
  decide
 split
 ·have key : ∀ i ∈ List.range 5,2 ≤ i → frmE (.mk (UInt8.ofNat i) [] 0 []) = true ∧ namE (.mk (UInt8.ofNat i) [] 0 []) = true := by decide +kernel
  obtain ⟨k1,k2⟩ := key op (List.mem_range.2 (by omega)) (by omega)
  exact wfE0 k1 k2
 split
 ·rename_i h3
  have key : ∀ i ∈ List.range 4,(frmE (.mk 5 (nmsF.getD i []) 0 []) = true ∧ namE (.mk 5 (nmsF.getD i []) 0 []) = true) ∧ frmE (.mk 8 (nmsF.getD i []) 0 []) = true ∧ namE (.mk 8 (nmsF.getD i []) 0 []) = true := by decide +kernel
  obtain ⟨⟨k1,k2⟩,k3,k4⟩ := key (x.nm.toNat % 4) (List.mem_range.2 (by omega))
  rcases h3 with rfl | rfl
  ·exact wfE0 k1 k2
  ·exact wfE0 k3 k4
 ·omega
theorem node_wf {D op : Nat} {x : Nf} {ra rb : Ex} (h1 : 1 ≤ op) (h2 : op ≤ 23) (ha : wfE (D + 1) ra) (hb : wfE (D + 1) rb) : wfE (D + 2) (nodeT op x ra rb) := by
 by_cases h : op ≤ 5 ∨ op = 8
 ·exact node_leaf h1 h
 ·unfold nodeT
  rw [if_neg (by omega),if_neg (by omega),if_neg (by omega)]
  split
  ·have key : ∀ i ∈ List.range 4,(frmE (.mk 6 (nmsF.getD i []) 0 [e0]) = true ∧ namE (.mk 6 (nmsF.getD i []) 0 []) = true) ∧ frmE (.mk 7 (nmsF.getD i []) 0 [e0]) = true ∧ namE (.mk 7 (nmsF.getD i []) 0 []) = true := by decide +kernel
   obtain ⟨⟨k1,k2⟩,k3,k4⟩ := key (x.nm.toNat % 4) (List.mem_range.2 (by omega))
   obtain rfl | rfl : op = 6 ∨ op = 7 := by omega
   ·exact wfE1 k1 k2 ha
   ·exact wfE1 k3 k4 ha
  split
  ·obtain rfl | rfl : op = 9 ∨ op = 10 := by omega
   ·exact wfE1 (by decide) (by decide) ha
   ·exact wfE1 (by decide) (by decide) ha
  ·have key : ∀ i ∈ List.range 24,11 ≤ i → frmE (.mk (UInt8.ofNat i) [] 0 [e0,e0]) = true ∧ namE (.mk (UInt8.ofNat i) [] 0 []) = true := by decide +kernel
   obtain ⟨k1,k2⟩ := key op (List.mem_range.2 (by omega)) (by omega)
   exact wfE2 k1 k2 ha hb
theorem treeT_wf (l : List Nf) : ∀ f k,wfE (f + 1) (treeT l f k)
 | 0,0 => wfE0 (by decide) (by decide)
 | f + 1,0 => wfE0 (by decide) (by decide)
 | 0,k + 1 => by
  unfold treeT
  split
  ·exact wfE0 (by decide) (by decide)
  ·exact node_leaf (opF7_rng _ _).1 opF7_low
 | f + 1,k + 1 => by
  unfold treeT
  split
  ·exact wfE0 (by decide) (by decide)
  ·exact node_wf (opF7_rng _ _).1 (opF7_rng _ _).2 (treeT_wf l f _) (treeT_wf l f _)
theorem wf_check {e : Ex} (h : wfE 8 e) : checkE e = 0 := by
 unfold checkE
 rw [if_neg (by have := h.1;omega),if_neg (by rw [h.2.2];decide),if_neg (by rw [h.2.1];decide)]
theorem frm_narrow (e : Ex) : Ex.all frmE e = true → Ex.all narrow e = true := by
 induction e using Ex.ind with
 | _ op nm n args ih =>
  intro h
  rw [all_mk,Bool.and_eq_true] at h ⊢
  obtain ⟨hf,hr⟩ := h
  refine ⟨?_,?_⟩
  ·simp only [frmE,Bool.and_eq_true,decide_eq_true_eq] at hf
   rw [narrow_mk,decide_eq_true_eq]
   have := shape_k op (ok_cases hf.1.1.1)
   omega
  ·have key : ∀ (l : List Ex),(∀ a ∈ l,Ex.all frmE a = true → Ex.all narrow a = true) → Ex.alls frmE l = true → Ex.alls narrow l = true := by
    intro l
    induction l with
    | nil => intro _ _;rfl
    | cons a l ih2 =>
     intro k h
     unfold Ex.alls at h ⊢
     rw [Bool.and_eq_true] at h ⊢
     exact ⟨k a (by simp) h.1,ih2 (fun b hb => k b (by simp [hb])) h.2⟩
   exact key args (fun a ha => ih a ha) hr
theorem full_len (e : Ex) : ∀ d,e.depth ≤ d → Ex.all frmE e = true → Ex.all namE e = true → (fullS e).length + 16 ≤ 72 * 2 ^ d := by
 induction e using Ex.ind with
 | _ op nm n args ih =>
  intro d hd h hq
  have h0 := h
  have hq0 := hq
  rw [all_mk,Bool.and_eq_true] at h hq
  obtain ⟨hf,hr⟩ := h
  obtain ⟨hg,hq⟩ := hq
  simp only [frmE,Bool.and_eq_true,Bool.or_eq_true,decide_eq_true_eq] at hf
  simp only [namE,Bool.or_eq_true,Bool.not_eq_true'] at hg
  obtain ⟨⟨⟨hop,hl⟩,hnm⟩,hn⟩ := hf
  have hnl : nm.length ≤ 12 := by
   rcases hnm with e | e
   ·have := hg.resolve_left (by rw [e];decide)
    exact (nameB_facts this).2.2.2.2
   ·rw [e];simp
  obtain ⟨d,rfl⟩ : ∃ e,d = e + 1 := ⟨d - 1,by rw [depth_mk] at hd;omega⟩
  have hp : 1 ≤ 2 ^ d := Nat.one_le_two_pow
  have ht := shape_tx op
  rcases shape_k op (ok_cases hop) with h1 | ⟨h1,h2,h3⟩ | ⟨h1,h2,h3,h4⟩
  ·obtain rfl := args0 (l := args) (by omega)
   have := text_len (.mk op nm n []) 1 (by rw [depth_mk];simp [Ex.deeps]) hq0 h0
   show (Ex.text (.mk op nm n [])).length + 16 ≤ _
   rw [Nat.pow_succ]
   omega
  ·obtain ⟨b,rfl⟩ := args1 (l := args) (by omega)
   have hb := ih b (by simp) d (by rw [depth_mk] at hd;simp only [Ex.deeps] at hd;omega) (by simpa [Ex.alls] using hr) (by simpa [Ex.alls] using hq)
   rw [Nat.pow_succ]
   rcases h2 with rfl | rfl | ⟨h2,_⟩
   ·show (nm ++ 91 :: (fullS b ++ [93])).length + 16 ≤ _
    simp only [List.length_append,List.length_cons,List.length_nil]
    omega
   ·show ([104,97,115] ++ 32 :: (nm ++ 91 :: (fullS b ++ [93]))).length + 16 ≤ _
    simp only [List.length_append,List.length_cons,List.length_nil]
    omega
   ·rcases h2 with rfl | rfl
    ·show (45 :: 32 :: 40 :: (fullS b ++ [41])).length + 16 ≤ _
     simp only [List.length_append,List.length_cons,List.length_nil]
     omega
    ·show ([110,111,116] ++ 32 :: 40 :: (fullS b ++ [41])).length + 16 ≤ _
     simp only [List.length_append,List.length_cons,List.length_nil]
     omega
  ·obtain ⟨a,b,rfl⟩ := args2 (l := args) (by omega)
   have hr2 : Ex.all frmE a = true ∧ Ex.all frmE b = true := by simpa [Ex.alls] using hr
   have hq2 : Ex.all namE a = true ∧ Ex.all namE b = true := by simpa [Ex.alls] using hq
   have hdd : a.depth ≤ d ∧ b.depth ≤ d := by rw [depth_mk] at hd;simp only [Ex.deeps] at hd;omega
   have ha := ih a (by simp) d hdd.1 hr2.1 hq2.1
   have hb := ih b (by simp) d hdd.2 hr2.2 hq2.2
   rw [Nat.pow_succ]
   show (40 :: (fullS a ++ 41 :: ((shapeOf op).tx ++ 40 :: (fullS b ++ [41])))).length + 16 ≤ _
   simp only [List.length_append,List.length_cons,List.length_nil]
   omega
theorem full_len7 {e : Ex} (h : wfE 7 e) : (fullS e).length ≤ 20000 := by
 have := full_len e 7 h.1 h.2.1 h.2.2
 omega
theorem Fx.agg5 : aggN Tryd.prog 5 = Option.some Option.none := by kernel_rfl
theorem Fx.agg65 : aggN Tryd.prog 65 = Option.some Option.none := by kernel_rfl
theorem Fx.agg67 : aggN Tryd.prog 67 = Option.some (Option.some 5) := by kernel_rfl
theorem Fx.call16 : callN Tryd.prog 16 = Bool.true := by kernel_rfl
theorem Fx.field67_0 : fieldN Tryd.prog 67 0 = Option.some 0 := by kernel_rfl
theorem Fx.field67_1 : fieldN Tryd.prog 67 1 = Option.some 1 := by kernel_rfl
theorem Fx.field67_2 : fieldN Tryd.prog 67 2 = Option.some 2 := by kernel_rfl
theorem Fx.field67_3 : fieldN Tryd.prog 67 3 = Option.some 3 := by kernel_rfl
theorem Fx.field67_4 : fieldN Tryd.prog 67 4 = Option.some 4 := by kernel_rfl
theorem Fx.int65 : intN Tryd.prog 65 = Option.some Go.IntKind.u32 := by kernel_rfl
theorem Fx.size67 : sizeN Tryd.prog 67 = Option.some 5 := by kernel_rfl
theorem Fx.sl22 : slN Tryd.prog 22 = Option.some 5 := by kernel_rfl
theorem Fx.zero67 : zeroN Tryd.prog 67 = Option.some
 [Go.Value.int Go.IntKind.u8 (Int.ofNat 0),Go.Value.int Go.IntKind.u8 (Int.ofNat 0),
  Go.Value.int Go.IntKind.u8 (Int.ofNat 0),Go.Value.int Go.IntKind.u8 (Int.ofNat 0),
  Go.Value.int Go.IntKind.u32 (Int.ofNat 0)] := by kernel_rfl
theorem Fx.bld26_0 (x0 : Int) : buildN Tryd.prog 26 [(0,.int .i64 x0)] = some [.int .i64 x0,.string ⟨#[]⟩,.int .i64 0,.slice none 0 0] := by kernel_rfl
theorem Fx.bld26_0_1 (x0 : Int) (x1 : ByteArray) : buildN Tryd.prog 26 [(0,.int .i64 x0),(1,.string x1)] = some [.int .i64 x0,.string x1,.int .i64 0,.slice none 0 0] := by kernel_rfl
theorem Fx.bld26_0_1_3 (x0 : Int) (x1 : ByteArray) (x3p : Option Addr) (x3n x3c : Nat) : buildN Tryd.prog 26 [(0,.int .i64 x0),(1,.string x1),(3,.slice x3p x3n x3c)] = some [.int .i64 x0,.string x1,.int .i64 0,.slice x3p x3n x3c] := by kernel_rfl
theorem Fx.bld26_0_2 (x0 : Int) (x2 : Int) : buildN Tryd.prog 26 [(0,.int .i64 x0),(2,.int .i64 x2)] = some [.int .i64 x0,.string ⟨#[]⟩,.int .i64 x2,.slice none 0 0] := by kernel_rfl
theorem Fx.bld26_0_3 (x0 : Int) (x3p : Option Addr) (x3n x3c : Nat) : buildN Tryd.prog 26 [(0,.int .i64 x0),(3,.slice x3p x3n x3c)] = some [.int .i64 x0,.string ⟨#[]⟩,.int .i64 0,.slice x3p x3n x3c] := by kernel_rfl
theorem Fx.bsl24_1 (x00 x01 x02 x03 : Value) : bslN Tryd.prog 24 1 [(0,.agg [x00,x01,x02,x03].toArray)] = some (26,[x00,x01,x02,x03]) := by kernel_rfl
theorem Fx.bsl24_2 (x00 x01 x02 x03 : Value) (x10 x11 x12 x13 : Value) : bslN Tryd.prog 24 2 [(0,.agg [x00,x01,x02,x03].toArray),(1,.agg [x10,x11,x12,x13].toArray)] = some (26,[x00,x01,x02,x03,x10,x11,x12,x13]) := by kernel_rfl
theorem Fx.bsl39_4 (x0 : ByteArray) (x1 : ByteArray) (x2 : ByteArray) (x3 : ByteArray) : bslN Tryd.prog 39 4 [(0,.string x0),(1,.string x1),(2,.string x2),(3,.string x3)] = some (9,[.string x0,.string x1,.string x2,.string x3]) := by kernel_rfl
def kzI : Nat → Int
 | 0 => -1
 | k + 1 => (k : Nat)
theorem tree_zero (l : List Nf) (f : Nat) : treeT l f 0 = .mk 4 [] 0 [] := by cases f <;> rfl
def kidT (l : List Nf) (f k : Nat) (v : UInt8) : Ex := match f with | 0 => .mk 4 [] 0 [] | f + 1 => treeT l f (kidN k v)
theorem tree_at {l : List Nf} {f k : Nat} {x : Nf} (hx : l[k]? = some x) : treeT l f (k + 1) = nodeT (opF7 f x.op) x (kidT l f k x.a) (kidT l f k x.b) := by
 cases f with
 | zero => rw [treeT,hx];rfl
 | succ f => rw [treeT,hx];rfl
theorem kid_le {l : List Nf} {k : Nat} {v : UInt8} (hk : k < l.length) : kidN k v ≤ l.length := by
 unfold kidN
 split
 ·have := Nat.mod_lt v.toNat (show k > 0 by assumption)
  omega
 ·omega
theorem node1 {o : UInt8} {x : Nf} {ra rb : Ex} (h : o.toNat = 1) : nodeT o.toNat x ra rb = .mk o [] (Int64.ofNat x.n.toNat) [] := by
 obtain rfl : o = 1 := UInt8.toNat_inj.1 h
 rfl
theorem node2 {o : UInt8} {x : Nf} {ra rb : Ex} (h : ¬ o.toNat = 1) (h2 : o.toNat ≤ 4) : nodeT o.toNat x ra rb = .mk o [] 0 [] := by unfold nodeT;rw [if_neg h,if_pos h2,UInt8.ofNat_toNat]
theorem node3 {o : UInt8} {x : Nf} {ra rb : Ex} (h : ¬ o.toNat = 1) (h2 : ¬ o.toNat ≤ 4) (h3 : o.toNat = 5 ∨ o.toNat = 8) : nodeT o.toNat x ra rb = .mk o (nmF x.nm) 0 [] := by unfold nodeT;rw [if_neg h,if_neg h2,if_pos h3,UInt8.ofNat_toNat]
theorem node4 {o : UInt8} {x : Nf} {ra rb : Ex} (h : ¬ o.toNat = 1) (h2 : ¬ o.toNat ≤ 4) (h3 : ¬ (o.toNat = 5 ∨ o.toNat = 8)) (h4 : o.toNat ≤ 7) : nodeT o.toNat x ra rb = .mk o (nmF x.nm) 0 [ra] := by unfold nodeT;rw [if_neg h,if_neg h2,if_neg h3,if_pos h4,UInt8.ofNat_toNat]
theorem node5 {o : UInt8} {x : Nf} {ra rb : Ex} (h : ¬ o.toNat = 1) (h2 : ¬ o.toNat ≤ 4) (h3 : ¬ (o.toNat = 5 ∨ o.toNat = 8)) (h4 : ¬ o.toNat ≤ 7) (h5 : o.toNat ≤ 10) : nodeT o.toNat x ra rb = .mk o [] 0 [ra] := by unfold nodeT;rw [if_neg h,if_neg h2,if_neg h3,if_neg h4,if_pos h5,UInt8.ofNat_toNat]
theorem node6 {o : UInt8} {x : Nf} {ra rb : Ex} (h : ¬ o.toNat = 1) (h2 : ¬ o.toNat ≤ 4) (h3 : ¬ (o.toNat = 5 ∨ o.toNat = 8)) (h4 : ¬ o.toNat ≤ 7) (h5 : ¬ o.toNat ≤ 10) : nodeT o.toNat x ra rb = .mk o [] 0 [ra,rb] := by unfold nodeT;rw [if_neg h,if_neg h2,if_neg h3,if_neg h4,if_neg h5,UInt8.ofNat_toNat]
theorem tmN (a b : Nat) : Int.tmod ((a : Nat) : Int) ((b : Nat) : Int) = ((a % b : Nat) : Int) := by
 rw [Int.tmod_eq_emod_of_nonneg (by omega)]
 rfl
theorem nms_at (c : UInt8) : ([.string ⟨#[97]⟩,.string ⟨#[98]⟩,.string ⟨#[116]⟩,.string ⟨#[120,49]⟩] : List Value)[c.toNat % 4]? = some (strV (nmF c)) := by
 have h2 : c.toNat % 4 < nmsF.length := Nat.mod_lt _ (by decide)
 have e : (nmsF.map strV)[c.toNat % 4]? = some (strV (nmF c)) := by
  unfold nmF
  rw [List.getElem?_map,List.getElem?_eq_getElem h2,List.getD_eq_getElem?_getD,List.getElem?_eq_getElem h2]
  rfl
 exact e
set_option maxRecDepth 100000 in
theorem treez_any (l : List Nf) (f : Nat) (hf : f ≤ 6) (H : Hp) (v : Value) (w : World) (hA : Agr H w) :
 Calls Tryd.prog 16 #[v,.int .i64 (-1),.int .i64 (f + 1 : Nat)] w fun r w' => ∃ (y : List Value) (H' : Hp),Rep H' (dEx .i64 (treeT l f 0)) y ∧ r = .returned (.agg y.toArray) ∧ Grow H w H' w' := by
 refine Sx.enter (H := H) Tryd.func16 rfl Tryd.ntmps16 rfl hA ?_
 refine .sr<|.al Fx.zero26 Z fun b6 => .nt<|.sq<|.sr<|.m Z Z<|.yv (.lss Z Z) Z<|.nt<|.cd Z (fun h13 => ?_) (fun h13 => ?_)
 ·skip
  refine .sr<|.yv (.build Z (Fx.bld26_0 _)) Z<|.sW .head Z Z Fx.size26 (by simp [Value.oneCell',strV]) Z<|.nt<|.rt<|.tR<|?_
  refine Sx.ret1 (.inl rfl) rfl (.cell rfl Fx.agg26 (.head _) rfl) fun W s => ⟨[.int .i64 4,.string ⟨#[]⟩,.int .i64 0,.slice none 0 0],H,?_,rfl,.pure hA s.ext⟩
  rw [tree_zero]
  exact ex_shut (op := 4) (nm := []) (n := 0) (args := []) (by decide) (Rep.empty (p := none) (c := 0) (by decide))
 exact absurd (show (-1 : Int) < 0 by decide) (of_decide_eq_false h13)
set_option maxRecDepth 100000 in
theorem tree_any (l : List Nf) : ∀ (f : Nat),f ≤ 6 → ∀ (kz : Nat),kz ≤ l.length → ∀ (H : Hp) (v : Value) (w : World),Rep H (.seq 5 (l.map dNf)) [v] → Agr H w →
 Calls Tryd.prog 16 #[v,.int .i64 (kzI kz),.int .i64 (f + 1 : Nat)] w fun r w' => ∃ (y : List Value) (H' : Hp),Rep H' (dEx .i64 (treeT l f kz)) y ∧ r = .returned (.agg y.toArray) ∧ Grow H w H' w' := by
 intro f
 induction f using Nat.strongRecOn with | _ f ih
 intro hf kz hkz H v w hs hA
 match kz,hkz with
 | 0,_ => exact treez_any l f hf H v w hA
 | k + 1,hkz =>
 obtain ⟨p,c,e,_⟩ := hs.sl
 simp only [List.cons.injEq,and_true,List.length_map] at e
 subst e
 have hcap := hs.cap
 have hk : k < l.length := hkz
 obtain ⟨bE,oE,cE,hpE,rE,lE,mE⟩ := hs.elem (map_at (f := dNf) hk)
 cases hpE
 obtain ⟨x,hxk⟩ : ∃ x,x = l[k] := ⟨_,rfl⟩
 rw [← hxk] at rE
 have hx : l[k]? = some x := by rw [hxk];exact List.getElem?_eq_getElem hk
 obtain rfl := nf_open rE
 have hn32 : (Int64.ofNat x.n.toNat).toInt = (x.n.toNat : Int) := Int64.toInt_ofNat_of_lt (by have := x.n.toNat_lt;omega)
 have hnlt := x.n.toNat_lt
 have halt := x.a.toNat_lt
 have hblt := x.b.toNat_lt
 have holt := x.op.toNat_lt
 show Calls Tryd.prog 16 #[_,.int .i64 (k : Nat),_] w _
 refine Sx.enter (H := H) Tryd.func16 rfl Tryd.ntmps16 rfl hA ?_
 refine .sr<|.al Fx.zero26 Z fun b6 => .nt<|.sq<|.sr<|.m Z Z<|.yv (.lss Z Z) Z<|.nt<|.cd Z (fun h13 => ?_) (fun h13 => ?_)
 ·exact absurd (of_decide_eq_true h13) (by omega)
 skip
 refine .sk<|.tN<|.sr<|.m Z Z<|.m Z Z<|.yv (.indexSl Fx.sl22 Z Z (i := k) Z hk (q := oE + k * 5) Z) Z<|.yv (.loadMW Z Fx.agg67 mE Z) Z<|.al Fx.zero67 Z fun b7 => .sW .head Z Z Fx.size67 (by simp [Value.oneCell',strV,cNf]) Z<|.ns<|.bl Z (Fx.bsl39_4 _ _ _ _) Z fun b19 => ?_
 refine Sx.freezeBox fun H1 u1 m1 => ?_
 refine .yv (.fieldAddr Z Fx.field67_1) Z<|.yv (.load Z Fx.agg5 (.head _) Z) Z<|.yv (.rem Z Z (by decide) (c := ((x.nm.toNat % 4 : Nat) : Int)) (by rw [Int.tmod_eq_emod_of_nonneg (by omega)];omega)) Z<|.yv (.indexSl Fx.sl39 Z Z (i := x.nm.toNat % 4) Z (by omega) (q := x.nm.toNat % 4) (by omega)) Z<|.yv (.loadM Z Fx.agg9 m1 (k := x.nm.toNat % 4) (by omega) (nms_at x.nm)) Z<|.a Z Z<|.ns<|.yv (.fieldAddr Z Fx.field67_0) Z<|.yv (.load Z Fx.agg5 (.head _) Z) Z<|.yv (.conv Z Fx.int5 Fx.int3 (c := ((x.op.toNat : Nat) : Int)) (w6 (by omega))) Z<|.yv (.rem Z Z (by decide) (c := ((x.op.toNat % 23 : Nat) : Int)) (by rw [Int.tmod_eq_emod_of_nonneg (by omega)];omega)) Z<|.yv (.add Z Z (c := ((1 + x.op.toNat % 23 : Nat) : Int)) ((w6 (by omega)).trans (by omega))) Z<|.a Z Z<|.nt<|.cu (X := Nat) [(0,_),(1,_),(2,_),(6,_),(7,_),(8,_)] ⟨rfl,rfl,rfl,rfl,rfl,rfl,trivial⟩ (fun z => [(9,.int .i64 (z : Nat))]) (fun z => H1) (fun z => [.box b7 (cNf x) 67,.box b6 [.int .i64 0,.string ⟨#[]⟩,.int .i64 0,.slice none 0 0] 26]) (fun z => z = opF7 f x.op) ?_ fun z hC => ?_
 ·
  refine .sr<|.m Z Z<|.yv (.eql Z Z) Z<|.m Z Z<|.b2 (fun h32 => ?_) (fun h32 => ?_)
  ·try simp only [dt] at h32
   refine .gd Z Z<|.yv (.move Z) Z<|.gd Z Z<|.yv (.eql Z Z) Z<|.gd Z Z<|.yv (.move Z) Z<|.b2 (fun h35 => ?_) (fun h35 => ?_)
   ·try simp only [dt] at h35
    exact .gF Z Z Z Z<|.gF Z Z Z Z<|.gd Z Z<|.yv (.pickT Z Z) Z<|.gd Z Z<|.yv (.move Z) Z<|.gF Z Z Z Z<|.gF Z Z Z Z<|.gd Z Z<|.yv (.pickT Z Z) Z<|.yv (.pickT Z Z) Z<|.nt<|.cT Z<|.rg<|.a Z Z<|.nt<|.me 5 ⟨rfl,trivial⟩ ⟨rfl,rfl,rfl,rfl,rfl,rfl,trivial⟩ (fun _ s => s) (by unfold opF7;first | rw [if_pos ⟨by omega,by omega⟩] | rw [if_neg (by omega)])
   try simp only [df] at h35
   refine .gd Z Z<|.yv (.move Z) Z<|.gd Z Z<|.yv (.eql Z Z) Z<|.gd Z Z<|.yv (.pickF Z Z) Z<|.gd Z Z<|.yv (.move Z) Z<|.b2 (fun h39 => ?_) (fun h39 => ?_)
   ·try simp only [dt] at h39
    exact .gF Z Z Z Z<|.gF Z Z Z Z<|.gd Z Z<|.yv (.pickT Z Z) Z<|.yv (.pickT Z Z) Z<|.nt<|.cT Z<|.rg<|.a Z Z<|.nt<|.me 5 ⟨rfl,trivial⟩ ⟨rfl,rfl,rfl,rfl,rfl,rfl,trivial⟩ (fun _ s => s) (by unfold opF7;first | rw [if_pos ⟨by omega,by omega⟩] | rw [if_neg (by omega)])
   try simp only [df] at h39
   refine .gd Z Z<|.yv (.move Z) Z<|.gd Z Z<|.yv (.gtr Z Z) Z<|.gd Z Z<|.yv (.pickF Z Z) Z<|.yv (.pickT Z Z) Z<|.nt<|.cd Z (fun h43 => ?_) (fun h43 => ?_)
   ·try simp only [dt] at h43
    exact .rg<|.a Z Z<|.nt<|.me 5 ⟨rfl,trivial⟩ ⟨rfl,rfl,rfl,rfl,rfl,rfl,trivial⟩ (fun _ s => s) (by unfold opF7;first | rw [if_pos ⟨by omega,by omega⟩] | rw [if_neg (by omega)])
   try simp only [df] at h43
   exact .sk<|.tN<|.me (1 + x.op.toNat % 23) ⟨rfl,trivial⟩ ⟨rfl,rfl,rfl,rfl,rfl,rfl,trivial⟩ (fun _ s => s) (by unfold opF7;first | rw [if_pos ⟨by omega,by omega⟩] | rw [if_neg (by omega)])
  try simp only [df] at h32
  exact .gF Z Z Z Z<|.gF Z Z Z Z<|.gF Z Z Z Z<|.gU Z Z Z<|.gU Z Z Z<|.gF Z Z Z Z<|.gF Z Z Z Z<|.gU Z Z Z<|.gU Z Z Z<|.gF Z Z Z Z<|.yv (.pickF Z Z) Z<|.nt<|.cF Z<|.sk<|.tN<|.me (1 + x.op.toNat % 23) ⟨rfl,trivial⟩ ⟨rfl,rfl,rfl,rfl,rfl,rfl,trivial⟩ (fun _ s => s) (by unfold opF7;first | rw [if_pos ⟨by omega,by omega⟩] | rw [if_neg (by omega)])
 have hrng := opF7_rng f x.op
 rw [← hC] at hrng
 obtain ⟨o,ho⟩ : ∃ o : UInt8,o.toNat = z := ⟨UInt8.ofNat z,by simp [UInt8.toNat_ofNat'];omega⟩
 subst ho
 have hop := hC
 refine .sr<|.a Z Z<|.a Z Z<|.nt<|.cu (X := Int × Int) [(0,_),(2,_),(6,_),(7,_),(8,_),(9,_)] ⟨rfl,rfl,rfl,rfl,rfl,rfl,trivial⟩ (fun z => [(10,.int .i64 z.1),(11,.int .i64 z.2)]) (fun z => H1) (fun z => [.box b7 (cNf x) 67,.box b6 [.int .i64 0,.string ⟨#[]⟩,.int .i64 0,.slice none 0 0] 26]) (fun z => z.1 = kzI (kidN k x.a) ∧ z.2 = kzI (kidN k x.b)) ?_ fun z hC => ?_
 ·
  refine .sr<|.m Z Z<|.yv (.gtr Z Z) Z<|.nt<|.cd Z (fun h45 => ?_) (fun h45 => ?_)
  ·try simp only [dt] at h45
   have hk0 : 0 < k := by omega
   exact .fl (trip := [(_,_,_),(_,_,_),(_,_,_),(_,_,_),(_,_,_),(_,_,_),(_,_,_),(_,_,_),(_,_,_),(_,_,_),(_,_,_)]) 11 [(0,0),(1,0),(2,0),(3,0),(4,0),(5,0),(6,0),(7,0),(8,0),(9,0),(10,0)] (by kernel_rfl) (by kernel_rfl) Z<|.yv (.fieldAddr Z Fx.field67_2) Z<|.yv (.load Z Fx.agg5 (.head _) Z) Z<|.yv (.conv Z Fx.int5 Fx.int3 (c := ((x.a.toNat : Nat) : Int)) (w6 (by omega))) Z<|.m Z Z<|.yv (.rem Z Z (by omega) (c := ((x.a.toNat % k : Nat) : Int)) (tmN _ _)) Z<|.yv (.fieldAddr Z Fx.field67_3) Z<|.yv (.load Z Fx.agg5 (.head _) Z) Z<|.yv (.conv Z Fx.int5 Fx.int3 (c := ((x.b.toNat : Nat) : Int)) (w6 (by omega))) Z<|.m Z Z<|.yv (.rem Z Z (by omega) (c := ((x.b.toNat % k : Nat) : Int)) (tmN _ _)) Z<|.a Z Z<|.fn (tl := [_]) Z<|.a Z Z<|.nt<|.me (((x.a.toNat % k : Nat) : Int),((x.b.toNat % k : Nat) : Int)) ⟨rfl,rfl,trivial⟩ ⟨rfl,rfl,rfl,rfl,rfl,rfl,trivial⟩ (fun _ s => s) ⟨by unfold kidN;rw [if_pos (by omega)];rfl,by unfold kidN;rw [if_pos (by omega)];rfl⟩
  try simp only [df] at h45
  exact .sk<|.tN<|.me (-1,-1) ⟨rfl,rfl,trivial⟩ ⟨rfl,rfl,rfl,rfl,rfl,rfl,trivial⟩ (fun _ s => s) ⟨by unfold kidN;rw [if_neg (by omega)];rfl,by unfold kidN;rw [if_neg (by omega)];rfl⟩
 obtain ⟨ka,kb⟩ := z
 obtain ⟨hka,hkb⟩ := hC
 dsimp only at hka hkb ⊢
 subst hka hkb
 refine .sq<|.bk<|.sr<|.m Z Z<|.yv (.eql Z Z) Z<|.a Z Z<|.nt<|.cd Z (fun h56 => ?_) (fun h56 => ?_)
 ·try simp only [dt] at h56
  skip
  refine .sr<|.m Z Z<|.yv (.fieldAddr Z Fx.field67_4) Z<|.yv (.load Z Fx.agg65 (.head _) Z) Z<|.yv (.conv Z Fx.int65 Fx.int2 (c := ((x.n.toNat : Nat) : Int)) (w6 (by omega))) Z<|.yv (.build Z (Fx.bld26_0_2 _ _)) Z<|.sW (.tail<|.head) Z Z Fx.size26 (by simp [Value.oneCell',strV,cNf]) Z<|.nt<|.rt<|.bR<|.tR<|?_
  refine Sx.ret1 (.inl rfl) rfl (.cell rfl Fx.agg26 (.tail _<|.head _) rfl) fun W s => ⟨[.int .i64 (o.toNat : Nat),.string ⟨#[]⟩,.int .i64 (x.n.toNat : Nat),.slice none 0 0],H1,?_,rfl,u1.grow s⟩
  rw [tree_at hx,← hop]
  rw [node1 (by omega)];have := ex_shut (H := H1) (k := .i64) (op := o) (nm := []) (n := Int64.ofNat x.n.toNat) (args := []) (by decide) (Rep.empty (p := none) (c := 0) (by decide));rw [hn32] at this;exact this
 try simp only [df] at h56
 refine .sr<|.m Z Z<|.yv (.leq Z Z) Z<|.a Z Z<|.nt<|.cd Z (fun h64 => ?_) (fun h64 => ?_)
 ·try simp only [dt] at h64
  skip
  refine .sr<|.m Z Z<|.yv (.build Z (Fx.bld26_0 _)) Z<|.sW (.tail<|.head) Z Z Fx.size26 (by simp [Value.oneCell',strV,cNf]) Z<|.nt<|.rt<|.bR<|.tR<|?_
  refine Sx.ret1 (.inl rfl) rfl (.cell rfl Fx.agg26 (.tail _<|.head _) rfl) fun W s => ⟨[.int .i64 (o.toNat : Nat),.string ⟨#[]⟩,.int .i64 0,.slice none 0 0],H1,?_,rfl,u1.grow s⟩
  rw [tree_at hx,← hop]
  rw [node2 (by omega) (by omega)];exact ex_shut (op := o) (nm := []) (n := 0) (args := []) (by decide) (Rep.empty (p := none) (c := 0) (by decide))
 try simp only [df] at h64
 refine .sr<|.m Z Z<|.yv (.eql Z Z) Z<|.m Z Z<|.b2 (fun h72 => ?_) (fun h72 => ?_)
 ·have h69p : o.toNat = 5 ∨ o.toNat = 8 := by have := of_decide_eq_true h72;omega
  refine .gF Z Z Z Z<|.gF Z Z Z Z<|.yv (.pickT Z Z) Z<|.a Z Z<|.nt<|.cT Z<|.sr<|.m Z Z<|.m Z Z<|.yv (.build Z (Fx.bld26_0_1 _ _)) Z<|.sW (.tail<|.head) Z Z Fx.size26 (by simp [Value.oneCell',strV,cNf]) Z<|.nt<|.rt<|.bR<|.tR<|?_
  refine Sx.ret1 (.inl rfl) rfl (.cell rfl Fx.agg26 (.tail _<|.head _) rfl) fun W s => ⟨[.int .i64 (o.toNat : Nat),strV (nmF x.nm),.int .i64 0,.slice none 0 0],H1,?_,rfl,u1.grow s⟩
  rw [tree_at hx,← hop]
  rw [node3 (by omega) (by omega) h69p];exact ex_shut (op := o) (nm := nmF x.nm) (n := 0) (args := []) (by have := nmF_len x.nm;omega) (Rep.empty (p := none) (c := 0) (by decide))
 skip
 refine .gd Z Z<|.yv (.move Z) Z<|.gd Z Z<|.yv (.eql Z Z) Z<|.yv (.pickF Z Z) Z<|.a Z Z<|.nt<|.cd Z (fun h69 => ?_) (fun h69 => ?_)
 ·have h69p : o.toNat = 5 ∨ o.toNat = 8 := by first | (have := of_decide_eq_true h72;omega) | (have := of_decide_eq_true h69;omega)
  refine .sr<|.m Z Z<|.m Z Z<|.yv (.build Z (Fx.bld26_0_1 _ _)) Z<|.sW (.tail<|.head) Z Z Fx.size26 (by simp [Value.oneCell',strV,cNf]) Z<|.nt<|.rt<|.bR<|.tR<|?_
  refine Sx.ret1 (.inl rfl) rfl (.cell rfl Fx.agg26 (.tail _<|.head _) rfl) fun W s => ⟨[.int .i64 (o.toNat : Nat),strV (nmF x.nm),.int .i64 0,.slice none 0 0],H1,?_,rfl,u1.grow s⟩
  rw [tree_at hx,← hop]
  rw [node3 (by omega) (by omega) h69p];exact ex_shut (op := o) (nm := nmF x.nm) (n := 0) (args := []) (by have := nmF_len x.nm;omega) (Rep.empty (p := none) (c := 0) (by decide))
 have h69n : ¬ (o.toNat = 5 ∨ o.toNat = 8) := by have := of_decide_eq_false h72;have := of_decide_eq_false h69;omega
 refine .sr<|.m Z Z<|.yv (.leq Z Z) Z<|.a Z Z<|.nt<|.cd Z (fun h79 => ?_) (fun h79 => ?_)
 ·try simp only [dt] at h79
  obtain ⟨f1,rfl⟩ : ∃ f1,f = f1 + 1 := ⟨f - 1,by have := opF7_low (o := x.op);rcases Nat.eq_zero_or_pos f with rfl | h <;> omega⟩
  refine .sr<|.m Z Z<|.m Z Z<|.m Z Z<|.m Z Z<|.m Z Z<|.yv (.sub Z Z (c := ((f1 + 1 : Nat) : Int)) ((w6 (by omega)).trans (by omega))) Z<|.ct (X := List Value) Fx.call16 Z (fun W s => ih f1 (by omega) (by omega) (kidN k x.a) (kid_le hk) H1 _ W (hs.up u1.up) s.agr) Z fun ya H2 rya uya => ?_
  obtain ⟨ya1,ya2,ya3,ya4,rfl⟩ := four (ex_len rya)
  refine .bl Z (Fx.bsl24_1 _ _ _ _) Z fun b89 => ?_
  refine Sx.freezeBox fun H3 u3 m3 => ?_
  refine .yv (.build Z (Fx.bld26_0_1_3 _ _ _ _ _)) Z<|.sW (.tail<|.head) Z Z Fx.size26 (by simp [Value.oneCell',strV,cNf]) Z<|.nt<|.rt<|.bR<|.tR<|?_
  refine Sx.ret1 (.inl rfl) rfl (.cell rfl Fx.agg26 (.tail _<|.head _) rfl) fun W s => ⟨[.int .i64 (o.toNat : Nat),strV (nmF x.nm),.int .i64 0,.slice (some ⟨b89,0,none⟩) 1 1],H3,?_,rfl,(u1.trans (uya.trans u3)).grow s⟩
  rw [tree_at hx,← hop]
  rw [node4 (by omega) (by omega) h69n (by omega)];exact ex_shut (op := o) (nm := nmF x.nm) (n := 0) (args := [_]) (by have := nmF_len x.nm;omega) (Rep.mk (n := 1) (c := 1) m3 (.single (rya.up u3.up) rfl) rfl (Nat.le_refl _) (by decide))
 try simp only [df] at h79
 refine .sr<|.m Z Z<|.yv (.leq Z Z) Z<|.a Z Z<|.nt<|.cd Z (fun h91 => ?_) (fun h91 => ?_)
 ·try simp only [dt] at h91
  obtain ⟨f1,rfl⟩ : ∃ f1,f = f1 + 1 := ⟨f - 1,by have := opF7_low (o := x.op);rcases Nat.eq_zero_or_pos f with rfl | h <;> omega⟩
  refine .sr<|.m Z Z<|.m Z Z<|.m Z Z<|.m Z Z<|.yv (.sub Z Z (c := ((f1 + 1 : Nat) : Int)) ((w6 (by omega)).trans (by omega))) Z<|.ct (X := List Value) Fx.call16 Z (fun W s => ih f1 (by omega) (by omega) (kidN k x.a) (kid_le hk) H1 _ W (hs.up u1.up) s.agr) Z fun ya H2 rya uya => ?_
  obtain ⟨ya1,ya2,ya3,ya4,rfl⟩ := four (ex_len rya)
  refine .bl Z (Fx.bsl24_1 _ _ _ _) Z fun b100 => ?_
  refine Sx.freezeBox fun H3 u3 m3 => ?_
  refine .yv (.build Z (Fx.bld26_0_3 _ _ _ _)) Z<|.sW (.tail<|.head) Z Z Fx.size26 (by simp [Value.oneCell',strV,cNf]) Z<|.nt<|.rt<|.bR<|.tR<|?_
  refine Sx.ret1 (.inl rfl) rfl (.cell rfl Fx.agg26 (.tail _<|.head _) rfl) fun W s => ⟨[.int .i64 (o.toNat : Nat),.string ⟨#[]⟩,.int .i64 0,.slice (some ⟨b100,0,none⟩) 1 1],H3,?_,rfl,(u1.trans (uya.trans u3)).grow s⟩
  rw [tree_at hx,← hop]
  rw [node5 (by omega) (by omega) h69n (by omega) (by omega)];exact ex_shut (op := o) (nm := []) (n := 0) (args := [_]) (by decide) (Rep.mk (n := 1) (c := 1) m3 (.single (rya.up u3.up) rfl) rfl (Nat.le_refl _) (by decide))
 try simp only [df] at h91
 obtain ⟨f1,rfl⟩ : ∃ f1,f = f1 + 1 := ⟨f - 1,by have := opF7_low (o := x.op);rcases Nat.eq_zero_or_pos f with rfl | h <;> omega⟩
 refine .sk<|.bN<|.tN<|.sr<|.m Z Z<|.m Z Z<|.m Z Z<|.m Z Z<|.yv (.sub Z Z (c := ((f1 + 1 : Nat) : Int)) ((w6 (by omega)).trans (by omega))) Z<|.ct (X := List Value) Fx.call16 Z (fun W s => ih f1 (by omega) (by omega) (kidN k x.a) (kid_le hk) H1 _ W (hs.up u1.up) s.agr) Z fun ya H2 rya uya => ?_
 obtain ⟨ya1,ya2,ya3,ya4,rfl⟩ := four (ex_len rya)
 refine .m Z Z<|.m Z Z<|.m Z Z<|.yv (.sub Z Z (c := ((f1 + 1 : Nat) : Int)) ((w6 (by omega)).trans (by omega))) Z<|.ct (X := List Value) Fx.call16 Z (fun W s => ih f1 (by omega) (by omega) (kidN k x.b) (kid_le hk) H2 _ W (hs.up (u1.trans uya).up) s.agr) Z fun yb H3 ryb uyb => ?_
 obtain ⟨yb1,yb2,yb3,yb4,rfl⟩ := four (ex_len ryb)
 refine .bl Z (Fx.bsl24_2 _ _ _ _ _ _ _ _) Z fun b113 => ?_
 refine Sx.freezeBox fun H4 u4 m4 => ?_
 refine .yv (.build Z (Fx.bld26_0_3 _ _ _ _)) Z<|.sW (.tail<|.head) Z Z Fx.size26 (by simp [Value.oneCell',strV,cNf]) Z<|.nt<|.rt<|?_
 refine Sx.ret1 (.inl rfl) rfl (.cell rfl Fx.agg26 (.tail _<|.head _) rfl) fun W s => ⟨[.int .i64 (o.toNat : Nat),.string ⟨#[]⟩,.int .i64 0,.slice (some ⟨b113,0,none⟩) 2 2],H4,?_,rfl,(u1.trans (uya.trans (uyb.trans u4))).grow s⟩
 rw [tree_at hx,← hop]
 rw [node6 (by omega) (by omega) h69n (by omega) (by omega)];exact ex_shut (op := o) (nm := []) (n := 0) (args := [_,_]) (by decide) (Rep.mk (n := 2) (c := 2) m4 (RepZ.app (RepZ.single (rya.up (uyb.trans u4).up) rfl) (RepZ.single (ryb.up u4.up) rfl)) rfl (Nat.le_refl _) (by decide))
set_option maxRecDepth 100000 in
theorem treeT_any (l : List Nf) (H : Hp) (v : Value) (w : World) (hs : Rep H (.seq 5 (l.map dNf)) [v]) (hA : Agr H w) :
 Calls Tryd.prog 7 #[v] w fun r w' => ∃ (y : List Value) (H' : Hp),Rep H' (dEx .i64 (treeT l 6 l.length)) y ∧ r = .returned (.agg y.toArray) ∧ Grow H w H' w' := by
 obtain ⟨p,c,e,_⟩ := hs.sl
 simp only [List.cons.injEq,and_true,List.length_map] at e
 subst e
 have hcap := hs.cap
 refine Sx.enter (H := H) Tryd.func7 rfl Tryd.ntmps7 rfl hA ?_
 refine .sr<|.al Fx.zero26 Z fun b2 => .ns<|.m Z Z<|.m Z Z<|.yv (.lenSl Fx.sl22 Z) Z<|.yv (.sub Z Z (c := kzI l.length) (by cases l <;> first | rfl | (simp only [List.length_cons,kzI];exact (w64 (by simp at hcap;omega) (by simp at hcap;omega)).trans (by omega)))) Z<|.ct (X := List Value) Fx.call16 Z (fun W s => tree_any l 6 (by decide) l.length (Nat.le_refl _) H (.slice p l.length c) W hs s.agr) Z fun ya H2 rya uya => ?_
 obtain ⟨ya1,ya2,ya3,ya4,rfl⟩ := four (ex_len rya)
 refine .sW .head Z Z Fx.size26 (Rep.one rya) Z<|.nt<|.rt<|?_
 exact Sx.ret1 (.inl rfl) rfl (.cell rfl Fx.agg26 (.head _) rfl) fun W s => ⟨_,H2,rya,rfl,uya.grow s⟩
theorem Fx.bytes59 : bytesN Tryd.prog 59 = Bool.true := by kernel_rfl
theorem Fx.call9 : callN Tryd.prog 9 = Bool.true := by kernel_rfl
theorem Fx.bsl39_24 (x0 : ByteArray) (x1 : ByteArray) (x2 : ByteArray) (x3 : ByteArray) (x4 : ByteArray) (x5 : ByteArray) (x6 : ByteArray) (x7 : ByteArray) (x8 : ByteArray) (x9 : ByteArray) (x10 : ByteArray) (x11 : ByteArray) (x12 : ByteArray) (x13 : ByteArray) (x14 : ByteArray) (x15 : ByteArray) (x16 : ByteArray) (x17 : ByteArray) (x18 : ByteArray) (x19 : ByteArray) (x20 : ByteArray) (x21 : ByteArray) (x22 : ByteArray) (x23 : ByteArray) : bslN Tryd.prog 39 24 [(0,.string x0),(1,.string x1),(2,.string x2),(3,.string x3),(4,.string x4),(5,.string x5),(6,.string x6),(7,.string x7),(8,.string x8),(9,.string x9),(10,.string x10),(11,.string x11),(12,.string x12),(13,.string x13),(14,.string x14),(15,.string x15),(16,.string x16),(17,.string x17),(18,.string x18),(19,.string x19),(20,.string x20),(21,.string x21),(22,.string x22),(23,.string x23)] = some (9,[.string x0,.string x1,.string x2,.string x3,.string x4,.string x5,.string x6,.string x7,.string x8,.string x9,.string x10,.string x11,.string x12,.string x13,.string x14,.string x15,.string x16,.string x17,.string x18,.string x19,.string x20,.string x21,.string x22,.string x23]) := by kernel_rfl
theorem Fx.bsl59_1 (x0 : Int) : bslN Tryd.prog 59 1 [(0,.int .u8 x0)] = some (5,[.int .u8 x0]) := by kernel_rfl
def wdsF : List Str := [[],[],[116,114,117,101],[102,97,108,115,101],[110,111,119],[],[],[104,97,115,32],[115,105,122,101,32],[45,32],[110,111,116,32],[32,42,32],[32,47,32],[32,37,32],[32,43,32],[32,45,32],[32,61,61,32],[32,33,61,32],[32,60,32],[32,60,61,32],[32,62,32],[32,62,61,32],[32,97,110,100,32],[32,111,114,32]]
def wdF (i : Nat) : Str := wdsF.getD i []
theorem wds_at {i : Nat} (h : i < 24) : ([.string ⟨#[]⟩,.string ⟨#[]⟩,.string ⟨#[116,114,117,101]⟩,.string ⟨#[102,97,108,115,101]⟩,.string ⟨#[110,111,119]⟩,.string ⟨#[]⟩,.string ⟨#[]⟩,.string ⟨#[104,97,115,32]⟩,.string ⟨#[115,105,122,101,32]⟩,.string ⟨#[45,32]⟩,.string ⟨#[110,111,116,32]⟩,.string ⟨#[32,42,32]⟩,.string ⟨#[32,47,32]⟩,.string ⟨#[32,37,32]⟩,.string ⟨#[32,43,32]⟩,.string ⟨#[32,45,32]⟩,.string ⟨#[32,61,61,32]⟩,.string ⟨#[32,33,61,32]⟩,.string ⟨#[32,60,32]⟩,.string ⟨#[32,60,61,32]⟩,.string ⟨#[32,62,32]⟩,.string ⟨#[32,62,61,32]⟩,.string ⟨#[32,97,110,100,32]⟩,.string ⟨#[32,111,114,32]⟩] : List Value)[i]? = some (strV (wdF i)) := by
 have h2 : i < wdsF.length := h
 have e : (wdsF.map strV)[i]? = some (strV (wdF i)) := by
  unfold wdF
  rw [List.getElem?_map,List.getElem?_eq_getElem h2,List.getD_eq_getElem?_getD,List.getElem?_eq_getElem h2]
  rfl
 exact e
theorem wdF_len (i : Nat) : (wdF i).length ≤ 10 := by
 by_cases h : i < 24
 ·have key : ∀ i ∈ List.range 24,(wdF i).length ≤ 10 := by decide
  exact key i (List.mem_range.2 h)
 ·unfold wdF
  rw [List.getD_eq_getElem?_getD,List.getElem?_eq_none (by show 24 ≤ i;omega)]
  simp
theorem dec_len7 {n : Nat} (h : n ≤ 9223372036854775807) : (Lib.decDigits n).length ≤ 21 := by
 have := Lib.itoa_length_le (n : Int) (by omega) (by omega)
 rwa [Lib.itoa,if_neg (by omega),Int.toNat_natCast] at this
theorem dec_big7 {n : Nat} (h : ¬ n < 10) : Lib.decDigits n = Lib.decDigits (n / 10) ++ [UInt8.ofNat (48 + n % 10)] := by
 conv => lhs;rw [Lib.decDigits,dif_neg h]
def DgI (N m : Nat) (t : Str) : Prop := (t = [] ∧ m = N) ∨ (t ≠ [] ∧ (if m = 0 then t else Lib.decDigits m ++ t) = Lib.decDigits N ∧ m ≤ N)
theorem DgI.le {N m : Nat} {t : Str} (h : DgI N m t) : m ≤ N := by
 rcases h with h | h
 ·omega
 ·exact h.2.2
theorem DgI.len {N m : Nat} {t : Str} (h : DgI N m t) : t.length ≤ (Lib.decDigits N).length := by
 rcases h with ⟨rfl,_⟩ | ⟨_,h,_⟩
 ·simp
 ·rw [← h]
  split <;> simp
theorem DgI.step {N m : Nat} {t : Str} (h : DgI N m t) (hg : 0 < m ∨ t = []) : DgI N (m / 10) (UInt8.ofNat (48 + m % 10) :: t) := by
 refine .inr ⟨by simp,?_,Nat.le_trans (Nat.div_le_self _ _) h.le⟩
 have key : (if m / 10 = 0 then UInt8.ofNat (48 + m % 10) :: t else Lib.decDigits (m / 10) ++ UInt8.ofNat (48 + m % 10) :: t) = Lib.decDigits m ++ t := by
  by_cases hm : m < 10
  ·rw [if_pos (by omega),Lib.decDigits_one hm,Nat.mod_eq_of_lt hm]
   rfl
  ·rw [if_neg (by omega),dec_big7 hm,List.append_assoc]
   rfl
 rw [key]
 rcases h with ⟨rfl,rfl⟩ | ⟨h1,h2,_⟩
 ·rw [List.append_nil]
 ·rcases hg with hg | hg
  ·rw [if_neg (by omega)] at h2
   exact h2
  ·exact absurd hg h1
theorem DgI.stop {N : Nat} {t : Str} (h : DgI N 0 t) (ht : ¬ t = []) : t = Lib.decDigits N := by
 rcases h with ⟨h,_⟩ | ⟨_,h,_⟩
 ·exact absurd h ht
 ·rwa [if_pos rfl] at h
theorem dg8 {d : Nat} (h : d < 10) : IntKind.u8.wrap ((48 + d : Nat) : Int) = (((UInt8.ofNat (48 + d)).toNat : Nat) : Int) := by
 have key : ∀ i ∈ List.range 10,IntKind.u8.wrap ((48 + i : Nat) : Int) = (((UInt8.ofNat (48 + i)).toNat : Nat) : Int) := by decide +kernel
 exact key d (List.mem_range.2 h)
theorem full_num {nm : Str} {n : Int64} {N : Nat} (h : n.toInt = (N : Int)) : fullS (.mk 1 nm n []) = Lib.decDigits N := by
 show Ex.text (.mk 1 nm n []) = _
 rw [text_mk,txt,if_pos rfl,h,Lib.itoa,if_neg (by omega),Int.toNat_natCast]
theorem full_leaf {op : UInt8} {nm : Str} {n : Int64} (h : op ∈ ([1,2,3,4,5,8] : List UInt8)) (h1 : ¬ op.toNat = 1) (hnm : (shapeOf op).nm = true ∨ nm = []) : fullS (.mk op nm n []) = wdF op.toNat ++ nm := by
 show Ex.text (.mk op nm n []) = _
 rw [text_mk]
 simp only [List.mem_cons,List.not_mem_nil,or_false] at h
 rcases h with rfl | rfl | rfl | rfl | rfl | rfl
 ·exact absurd rfl h1
 ·obtain rfl : nm = [] := hnm.resolve_left (by decide)
  rfl
 ·obtain rfl : nm = [] := hnm.resolve_left (by decide)
  rfl
 ·obtain rfl : nm = [] := hnm.resolve_left (by decide)
  rfl
 ·rfl
 ·rfl
theorem full_key {op : UInt8} {nm : Str} {n : Int64} {b : Ex} (h : op.toNat = 6 ∨ op.toNat = 7) : fullS (.mk op nm n [b]) = wdF op.toNat ++ nm ++ [91] ++ fullS b ++ [93] := by
 obtain rfl | rfl : op = 6 ∨ op = 7 := h.imp (fun e => UInt8.toNat_inj.1 e) (fun e => UInt8.toNat_inj.1 e)
 ·show nm ++ 91 :: (fullS b ++ [93]) = [] ++ nm ++ [91] ++ fullS b ++ [93]
  simp
 ·show [104,97,115] ++ 32 :: (nm ++ 91 :: (fullS b ++ [93])) = [104,97,115,32] ++ nm ++ [91] ++ fullS b ++ [93]
  simp
theorem full_un {op : UInt8} {nm : Str} {n : Int64} {b : Ex} (h : op.toNat = 9 ∨ op.toNat = 10) : fullS (.mk op nm n [b]) = wdF op.toNat ++ [40] ++ fullS b ++ [41] := by
 obtain rfl | rfl : op = 9 ∨ op = 10 := h.imp (fun e => UInt8.toNat_inj.1 e) (fun e => UInt8.toNat_inj.1 e)
 ·show 45 :: 32 :: 40 :: (fullS b ++ [41]) = [45,32] ++ [40] ++ fullS b ++ [41]
  simp
 ·show [110,111,116] ++ 32 :: 40 :: (fullS b ++ [41]) = [110,111,116,32] ++ [40] ++ fullS b ++ [41]
  simp
theorem full_bin {op : UInt8} {nm : Str} {n : Int64} {a b : Ex} (h : op ∈ ([11,12,13,14,15,16,17,18,19,20,21,22,23] : List UInt8)) : fullS (.mk op nm n [a,b]) = [40] ++ fullS a ++ [41] ++ wdF op.toNat ++ [40] ++ fullS b ++ [41] := by
 have key : ∀ op ∈ ([11,12,13,14,15,16,17,18,19,20,21,22,23] : List UInt8),(shapeOf op).tx = wdF op.toNat := by decide +kernel
 show 40 :: (fullS a ++ 41 :: ((shapeOf op).tx ++ 40 :: (fullS b ++ [41]))) = _
 rw [key op h]
 simp
theorem wf_arg {D : Nat} {op : UInt8} {nm : Str} {n : Int64} {args : List Ex} {a : Ex} (h : wfE D (.mk op nm n args)) (ha : a ∈ args) : wfE D a := by
 obtain ⟨h1,h2,h3⟩ := h
 rw [all_mk,Bool.and_eq_true] at h2 h3
 rw [depth_mk] at h1
 have := deeps_mem ha
 exact ⟨by omega,alls_mem ha h2.2,alls_mem ha h3.2⟩
def FullOf (e : Ex) : Prop := wfE 7 e → ∀ (H : Hp) (cs : List Value) (w : World),Rep H (dEx .i64 e) cs → Agr H w → Calls Tryd.prog 9 #[.agg cs.toArray] w fun r w' => r = .returned (strV (fullS e)) ∧ Ext w w'
theorem ops0 {op : UInt8} (h : okOp op = true) (h0 : (shapeOf op).n = 0) : op ∈ ([1,2,3,4,5,8] : List UInt8) := by
 have key : ∀ op ∈ ([1,2,3,4,5,6,7,8,9,10,11,12,13,14,15,16,17,18,19,20,21,22,23] : List UInt8),(shapeOf op).n = 0 → op ∈ ([1,2,3,4,5,8] : List UInt8) := by decide
 exact key op (ok_cases h) h0
theorem ops_rng {op : UInt8} (h : okOp op = true) : 1 ≤ op.toNat ∧ op.toNat < 24 := by
 have key : ∀ op ∈ ([1,2,3,4,5,6,7,8,9,10,11,12,13,14,15,16,17,18,19,20,21,22,23] : List UInt8),1 ≤ op.toNat ∧ op.toNat < 24 := by decide
 exact key op (ok_cases h)
set_option maxRecDepth 100000 in
theorem full0 (op : UInt8) (nm : Str) (n : Int64)  (hwf : wfE 7 (.mk op nm n [])) (hop5 : op ∈ ([1,2,3,4,5,8] : List UInt8)) (hnm : (shapeOf op).nm = true ∨ nm = []) (hn1 : op = 1 → 0 ≤ n.toInt) (hop1 : 1 ≤ op.toNat) (hop : op.toNat < 24) (hnl : nm.length ≤ 12) (H : Hp) (cs : List Value) (w : World) (h : Rep H (dEx .i64 (.mk op nm n [])) cs) (hA : Agr H w) :
 Calls Tryd.prog 9 #[.agg cs.toArray] w fun r w' => r = .returned (strV (fullS (.mk op nm n []))) ∧ Ext w w' := by
 have hwl := wdF_len op.toNat
 obtain ⟨p,c,rfl,hs,_⟩ := ex_open h
 have hop8 : op.toNat ≤ 5 ∨ op.toNat = 8 := by
  have key : ∀ op ∈ ([1,2,3,4,5,8] : List UInt8),op.toNat ≤ 5 ∨ op.toNat = 8 := by decide
  exact key op hop5
 refine Sx.enter (H := H) Tryd.func9 rfl Tryd.ntmps9 rfl hA ?_
 refine .sr<|.bx Z Z Z fun b1 => .a Z Z<|.ns<|.bl Z (Fx.bsl39_24 _ _ _ _ _ _ _ _ _ _ _ _ _ _ _ _ _ _ _ _ _ _ _ _) Z fun b7 => ?_
 refine Sx.freezeBox fun H1 u1 m1 => ?_
 refine .a Z Z<|.ns<|.m Z Z<|.yv (.fieldAddr Z Fx.field26_0) Z<|.yv (.load Z Fx.agg3 (.head _) Z) Z<|.yv (.indexSl Fx.sl39 Z Z (i := op.toNat) Z (by omega) (q := op.toNat) (by omega)) Z<|.yv (.loadM Z Fx.agg9 m1 (k := op.toNat) (by omega) (wds_at hop)) Z<|.a Z Z<|.nt<|.sq<|.bk<|.sr<|.yv (.fieldAddr Z Fx.field26_0) Z<|.yv (.load Z Fx.agg3 (.head _) Z) Z<|.yv (.eql Z Z) Z<|.a Z Z<|.nt<|.cd Z (fun h13 => ?_) (fun h13 => ?_)
 ·try simp only [dt] at h13
  have h1 : op = 1 := UInt8.toNat_inj.1 (by show op.toNat = 1;omega)
  subst h1
  have hn0 : 0 ≤ n.toInt := hn1 rfl
  obtain ⟨N,hN⟩ : ∃ N : Nat,n.toInt = (N : Int) := ⟨n.toInt.toNat,by omega⟩
  have hNb : N ≤ 9223372036854775807 := by have := n.toInt_lt;omega
  rw [hN]
  have hdl := dec_len7 hNb
  refine .sr<|.a Z Z<|.nt<|.sq<|.sr<|.yv (.fieldAddr Z Fx.field26_2) Z<|.yv (.load Z Fx.agg2 (.head _) Z) Z<|.a Z Z<|.nt<|.bk<|.lp (X := Nat × Str) [(1,_),(4,_)] ⟨rfl,rfl,trivial⟩ [_] (fun z => [(5,strV z.2),(6,.int .i64 (z.1 : Nat))]) (fun z => H1) (fun z => []) (fun z => DgI N z.1 z.2) (fun z => z.1 + (if z.2 = [] then 1 else 0)) (N,[]) (fun _ s => s) ⟨rfl,rfl,trivial⟩ (.inl ⟨rfl,rfl⟩) fun z hC => ?_
  obtain ⟨m,t⟩ := z
  dsimp only at hC ⊢
  have hml : m ≤ N := hC.le
  have htl : t.length ≤ 21 := Nat.le_trans hC.len hdl
  refine .sq<|.sr<|.m Z Z<|.yv (.gtr Z Z) Z<|.m Z Z<|.b2 (fun h21 => ?_) (fun h21 => ?_)
  ·try simp only [dt] at h21
   exact .gF Z Z Z Z<|.gF Z Z Z Z<|.yv (.pickT Z Z) Z<|.nt<|.cT Z<|.sk<|.tN<|.sq<|.bk<|.rg<|.m Z Z<|.yv (.rem Z Z (by decide) (c := ((m % 10 : Nat) : Int)) (tmN _ 10)) Z<|.yv (.add Z Z (c := ((48 + m % 10 : Nat) : Int)) ((w6 (by omega)).trans (by omega))) Z<|.yv (.conv Z Fx.int2 Fx.int5 (c := (((UInt8.ofNat (48 + m % 10)).toNat : Nat) : Int)) (dg8 (by omega))) Z<|.bl Z (Fx.bsl59_1 _) Z fun b31 => .yv (.bytesStr (l := [(UInt8.ofNat (48 + m % 10))]) Fx.bytes59 Fx.str9 Z Z (.box (.head _) z0)) Z<|.m Z Z<|.yv (.app Z Z (by (try simp only [List.length_append,List.length_cons,List.length_nil]);omega)) Z<|.a Z Z<|.nl<|.bN<|.tN<|.rg<|.m Z Z<|.yv (.quo Z Z (by decide) (c := ((m / 10 : Nat) : Int)) (by rw [Int.tdiv_eq_ediv_of_nonneg (by omega)];exact (w6 (by omega)).trans (by omega))) Z<|.a Z Z<|.nt<|.ag (x := (m,t)) (m / 10,(UInt8.ofNat (48 + m % 10)) :: t) ⟨rfl,rfl,trivial⟩ ⟨rfl,rfl,trivial⟩ (fun _ s => (s.pick [1] _ Z Z)) (hC.step (by first | exact .inl (by omega) | exact .inr h24)) (by dsimp only;rw [if_neg (by simp)];first | (have h24x := h24;rw [if_pos h24x];omega) | (split <;> omega))
  try simp only [df] at h21
  refine .gd Z Z<|.yv (.move Z) Z<|.gd Z Z<|.yv (.eqS Z Z) Z<|.yv (.pickF Z Z) Z<|.nt<|.cd Z (fun h24 => ?_) (fun h24 => ?_)
  ·try simp only [dt] at h24
   skip
   exact .sk<|.tN<|.sq<|.bk<|.rg<|.m Z Z<|.yv (.rem Z Z (by decide) (c := ((m % 10 : Nat) : Int)) (tmN _ 10)) Z<|.yv (.add Z Z (c := ((48 + m % 10 : Nat) : Int)) ((w6 (by omega)).trans (by omega))) Z<|.yv (.conv Z Fx.int2 Fx.int5 (c := (((UInt8.ofNat (48 + m % 10)).toNat : Nat) : Int)) (dg8 (by omega))) Z<|.bl Z (Fx.bsl59_1 _) Z fun b31 => .yv (.bytesStr (l := [(UInt8.ofNat (48 + m % 10))]) Fx.bytes59 Fx.str9 Z Z (.box (.head _) z0)) Z<|.m Z Z<|.yv (.app Z Z (by (try simp only [List.length_append,List.length_cons,List.length_nil]);omega)) Z<|.a Z Z<|.nl<|.bN<|.tN<|.rg<|.m Z Z<|.yv (.quo Z Z (by decide) (c := ((m / 10 : Nat) : Int)) (by rw [Int.tdiv_eq_ediv_of_nonneg (by omega)];exact (w6 (by omega)).trans (by omega))) Z<|.a Z Z<|.nt<|.ag (x := (m,t)) (m / 10,(UInt8.ofNat (48 + m % 10)) :: t) ⟨rfl,rfl,trivial⟩ ⟨rfl,rfl,trivial⟩ (fun _ s => (s.pick [1] _ Z Z)) (hC.step (by first | exact .inl (by omega) | exact .inr h24)) (by dsimp only;rw [if_neg (by simp)];first | (have h24x := h24;rw [if_pos h24x];omega) | (split <;> omega))
  try simp only [df] at h24
  obtain rfl : m = 0 := by omega
  have hend := hC.stop h24
  refine .ex<|.tE<|.tE<|.bE<|.tN<|.sr<|.m Z Z<|.a Z Z<|.nt<|.rt<|.bR<|.tR<|?_
  exact Sx.ret1 (.inl rfl) rfl (.tmp rfl) fun W s => ⟨by rw [hend,full_num hN],s.ext⟩
 try simp only [df] at h13
 have h1 : ¬ op.toNat = 1 := by omega
 refine .sr<|.yv (.fieldAddr Z Fx.field26_0) Z<|.yv (.load Z Fx.agg3 (.head _) Z) Z<|.yv (.cast (.eql Z Z) (congrArg Value.bool (decide_eq_false (by omega)))) Z<|.m Z Z<|.gd Z Z<|.yv (.fieldAddr Z Fx.field26_0) Z<|.gd Z Z<|.yv (.load Z Fx.agg3 (.head _) Z) Z<|.gd Z Z<|.yv (.cast (.eql Z Z) (congrArg Value.bool (decide_eq_false (by omega)))) Z<|.yv (.pickF Z Z) Z<|.a Z Z<|.nt<|.cF Z<|.sr<|.yv (.fieldAddr Z Fx.field26_3) Z<|.yv (.load Z Fx.agg24 (.head _) Z) Z<|.yv (.lenSl Fx.sl24 Z) Z<|.yv (.cast (.eql Z Z) (congrArg Value.bool (decide_eq_false (by simp)))) Z<|.a Z Z<|.nt<|.cF Z<|.sr<|.yv (.fieldAddr Z Fx.field26_3) Z<|.yv (.load Z Fx.agg24 (.head _) Z) Z<|.yv (.lenSl Fx.sl24 Z) Z<|.yv (.cast (.eql Z Z) (congrArg Value.bool (decide_eq_false (by simp)))) Z<|.a Z Z<|.nt<|.cF Z<|.sk<|.bN<|.tN<|.sr<|.m Z Z<|.yv (.fieldAddr Z Fx.field26_1) Z<|.yv (.load Z Fx.agg9 (.head _) Z) Z<|.yv (.app Z Z (by (try simp only [List.length_append,List.length_cons,List.length_nil]);omega)) Z<|.a Z Z<|.nt<|.rt<|?_
 exact Sx.ret1 (.inl rfl) rfl (.tmp rfl) fun W s => ⟨by rw [full_leaf hop5 h1 hnm];rfl,s.ext⟩
set_option maxRecDepth 100000 in
theorem full1 (op : UInt8) (nm : Str) (n : Int64) (x : Ex) (ih : ∀ a ∈ [x],FullOf a) (hwf : wfE 7 (.mk op nm n [x])) (hop6 : op.toNat = 6 ∨ op.toNat = 7 ∨ op.toNat = 9 ∨ op.toNat = 10) (hop1 : 1 ≤ op.toNat) (hop : op.toNat < 24) (hnl : nm.length ≤ 12) (H : Hp) (cs : List Value) (w : World) (h : Rep H (dEx .i64 (.mk op nm n [x])) cs) (hA : Agr H w) :
 Calls Tryd.prog 9 #[.agg cs.toArray] w fun r w' => r = .returned (strV (fullS (.mk op nm n [x]))) ∧ Ext w w' := by
 have hwl := wdF_len op.toNat
 obtain ⟨p,c,rfl,hs,_⟩ := ex_open h
 have hwx := wf_arg hwf (a := x) (by simp)
 have hlx := full_len7 hwx
 obtain ⟨bE,oE,cE,hpE,rE,lE,mE⟩ := hs.elem (i := 0) (d := dEx .i64 x) rfl
 cases hpE
 refine Sx.enter (H := H) Tryd.func9 rfl Tryd.ntmps9 rfl hA ?_
 refine .sr<|.bx Z Z Z fun b1 => .a Z Z<|.ns<|.bl Z (Fx.bsl39_24 _ _ _ _ _ _ _ _ _ _ _ _ _ _ _ _ _ _ _ _ _ _ _ _) Z fun b7 => ?_
 refine Sx.freezeBox fun H1 u1 m1 => ?_
 refine .a Z Z<|.ns<|.m Z Z<|.yv (.fieldAddr Z Fx.field26_0) Z<|.yv (.load Z Fx.agg3 (.head _) Z) Z<|.yv (.indexSl Fx.sl39 Z Z (i := op.toNat) Z (by omega) (q := op.toNat) (by omega)) Z<|.yv (.loadM Z Fx.agg9 m1 (k := op.toNat) (by omega) (wds_at hop)) Z<|.a Z Z<|.nt<|.sq<|.bk<|.sr<|.yv (.fieldAddr Z Fx.field26_0) Z<|.yv (.load Z Fx.agg3 (.head _) Z) Z<|.yv (.cast (.eql Z Z) (congrArg Value.bool (decide_eq_false (by omega)))) Z<|.a Z Z<|.nt<|.cF Z<|.sr<|.yv (.fieldAddr Z Fx.field26_0) Z<|.yv (.load Z Fx.agg3 (.head _) Z) Z<|.yv (.eql Z Z) Z<|.m Z Z<|.b2 (fun h40 => ?_) (fun h40 => ?_)
 ·try simp only [dt] at h40
  refine .gF Z Z Z Z<|.gF Z Z Z Z<|.gF Z Z Z Z<|.yv (.pickT Z Z) Z<|.a Z Z<|.nt<|.cT Z<|.sq<|.fl (trip := [(_,_,_),(_,_,_),(_,_,_),(_,_,_),(_,_,_),(_,_,_),(_,_,_),(_,_,_),(_,_,_),(_,_,_),(_,_,_),(_,_,_)]) 12 [(0,0),(1,0),(2,0),(3,0),(4,0),(5,0),(6,0),(7,0),(8,0),(9,0),(10,0),(11,0)] (by kernel_rfl) (by kernel_rfl) Z<|.m Z Z<|.yv (.fieldAddr Z Fx.field26_1) Z<|.yv (.load Z Fx.agg9 (.head _) Z) Z<|.yv (.app Z Z (by (try simp only [List.length_append,List.length_cons,List.length_nil]);omega)) Z<|.yv (.app Z Z (by (try simp only [List.length_append,List.length_cons,List.length_nil]);omega)) Z<|.yv (.fieldAddr Z Fx.field26_3) Z<|.yv (.load Z Fx.agg24 (.head _) Z) Z<|.yv (.indexSl Fx.sl24 Z Z (i := 0) Z (by simp) (q := oE + 0 * 4) (by omega)) Z<|.yv (.loadMW Z Fx.agg26 (mE.up u1.up) lE) Z<|.yv (.call Fx.call9 Z (fun W s => ih x (by simp) hwx H1 cE W (rE.up u1.up) s.agr)) Z<|.yv (.app Z Z (by (try simp only [List.length_append,List.length_cons,List.length_nil]);omega)) Z<|.yv (.app Z Z (by (try simp only [List.length_append,List.length_cons,List.length_nil]);omega)) Z<|.fn (tl := [_]) Z<|.a Z Z<|.nt<|.rt<|.bR<|.tR<|?_
  exact Sx.ret1 (.inl rfl) rfl (.tmp rfl) fun W s => ⟨by rw [full_key (by omega)];rfl,s.ext⟩
 try simp only [df] at h40
 refine .gd Z Z<|.yv (.fieldAddr Z Fx.field26_0) Z<|.gd Z Z<|.yv (.load Z Fx.agg3 (.head _) Z) Z<|.gd Z Z<|.yv (.eql Z Z) Z<|.yv (.pickF Z Z) Z<|.a Z Z<|.nt<|.cd Z (fun h36 => ?_) (fun h36 => ?_)
 ·try simp only [dt] at h36
  refine .sq<|.fl (trip := [(_,_,_),(_,_,_),(_,_,_),(_,_,_),(_,_,_),(_,_,_),(_,_,_),(_,_,_),(_,_,_),(_,_,_),(_,_,_),(_,_,_)]) 12 [(0,0),(1,0),(2,0),(3,0),(4,0),(5,0),(6,0),(7,0),(8,0),(9,0),(10,0),(11,0)] (by kernel_rfl) (by kernel_rfl) Z<|.m Z Z<|.yv (.fieldAddr Z Fx.field26_1) Z<|.yv (.load Z Fx.agg9 (.head _) Z) Z<|.yv (.app Z Z (by (try simp only [List.length_append,List.length_cons,List.length_nil]);omega)) Z<|.yv (.app Z Z (by (try simp only [List.length_append,List.length_cons,List.length_nil]);omega)) Z<|.yv (.fieldAddr Z Fx.field26_3) Z<|.yv (.load Z Fx.agg24 (.head _) Z) Z<|.yv (.indexSl Fx.sl24 Z Z (i := 0) Z (by simp) (q := oE + 0 * 4) (by omega)) Z<|.yv (.loadMW Z Fx.agg26 (mE.up u1.up) lE) Z<|.yv (.call Fx.call9 Z (fun W s => ih x (by simp) hwx H1 cE W (rE.up u1.up) s.agr)) Z<|.yv (.app Z Z (by (try simp only [List.length_append,List.length_cons,List.length_nil]);omega)) Z<|.yv (.app Z Z (by (try simp only [List.length_append,List.length_cons,List.length_nil]);omega)) Z<|.fn (tl := [_]) Z<|.a Z Z<|.nt<|.rt<|.bR<|.tR<|?_
  exact Sx.ret1 (.inl rfl) rfl (.tmp rfl) fun W s => ⟨by rw [full_key (by omega)];rfl,s.ext⟩
 try simp only [df] at h36
 have h9 : op.toNat = 9 ∨ op.toNat = 10 := by omega
 refine .sr<|.yv (.fieldAddr Z Fx.field26_3) Z<|.yv (.load Z Fx.agg24 (.head _) Z) Z<|.yv (.lenSl Fx.sl24 Z) Z<|.yv (.cast (.eql Z Z) (congrArg Value.bool (decide_eq_true (by simp)))) Z<|.a Z Z<|.nt<|.cT Z<|.sr<|.m Z Z<|.yv (.app Z Z (by (try simp only [List.length_append,List.length_cons,List.length_nil]);omega)) Z<|.yv (.fieldAddr Z Fx.field26_3) Z<|.yv (.load Z Fx.agg24 (.head _) Z) Z<|.yv (.indexSl Fx.sl24 Z Z (i := 0) Z (by simp) (q := oE + 0 * 4) (by omega)) Z<|.yv (.loadMW Z Fx.agg26 (mE.up u1.up) lE) Z<|.yv (.call Fx.call9 Z (fun W s => ih x (by simp) hwx H1 cE W (rE.up u1.up) s.agr)) Z<|.yv (.app Z Z (by (try simp only [List.length_append,List.length_cons,List.length_nil]);omega)) Z<|.yv (.app Z Z (by (try simp only [List.length_append,List.length_cons,List.length_nil]);omega)) Z<|.a Z Z<|.nt<|.rt<|.bR<|.tR<|?_
 exact Sx.ret1 (.inl rfl) rfl (.tmp rfl) fun W s => ⟨by rw [full_un h9];rfl,s.ext⟩
set_option maxRecDepth 100000 in
theorem full2 (op : UInt8) (nm : Str) (n : Int64) (x y : Ex) (ih : ∀ a ∈ [x,y],FullOf a) (hwf : wfE 7 (.mk op nm n [x,y])) (hop2 : op ∈ ([11,12,13,14,15,16,17,18,19,20,21,22,23] : List UInt8)) (hop11 : 11 ≤ op.toNat) (hop1 : 1 ≤ op.toNat) (hop : op.toNat < 24) (hnl : nm.length ≤ 12) (H : Hp) (cs : List Value) (w : World) (h : Rep H (dEx .i64 (.mk op nm n [x,y])) cs) (hA : Agr H w) :
 Calls Tryd.prog 9 #[.agg cs.toArray] w fun r w' => r = .returned (strV (fullS (.mk op nm n [x,y]))) ∧ Ext w w' := by
 have hwl := wdF_len op.toNat
 obtain ⟨p,c,rfl,hs,_⟩ := ex_open h
 have hwx := wf_arg hwf (a := x) (by simp)
 have hlx := full_len7 hwx
 have hwy := wf_arg hwf (a := y) (by simp)
 have hly := full_len7 hwy
 obtain ⟨bE,oE,cE,hpE,rE,lE,mE⟩ := hs.elem (i := 0) (d := dEx .i64 x) rfl
 obtain ⟨bF,oF,cF,hpF,rF,lF,mF⟩ := hs.elem (i := 1) (d := dEx .i64 y) rfl
 cases hpE
 cases hpF
 refine Sx.enter (H := H) Tryd.func9 rfl Tryd.ntmps9 rfl hA ?_
 refine .sr<|.bx Z Z Z fun b1 => .a Z Z<|.ns<|.bl Z (Fx.bsl39_24 _ _ _ _ _ _ _ _ _ _ _ _ _ _ _ _ _ _ _ _ _ _ _ _) Z fun b7 => ?_
 refine Sx.freezeBox fun H1 u1 m1 => ?_
 refine .a Z Z<|.ns<|.m Z Z<|.yv (.fieldAddr Z Fx.field26_0) Z<|.yv (.load Z Fx.agg3 (.head _) Z) Z<|.yv (.indexSl Fx.sl39 Z Z (i := op.toNat) Z (by omega) (q := op.toNat) (by omega)) Z<|.yv (.loadM Z Fx.agg9 m1 (k := op.toNat) (by omega) (wds_at hop)) Z<|.a Z Z<|.nt<|.sq<|.bk<|.sr<|.yv (.fieldAddr Z Fx.field26_0) Z<|.yv (.load Z Fx.agg3 (.head _) Z) Z<|.yv (.cast (.eql Z Z) (congrArg Value.bool (decide_eq_false (by omega)))) Z<|.a Z Z<|.nt<|.cF Z<|.sr<|.yv (.fieldAddr Z Fx.field26_0) Z<|.yv (.load Z Fx.agg3 (.head _) Z) Z<|.yv (.cast (.eql Z Z) (congrArg Value.bool (decide_eq_false (by omega)))) Z<|.m Z Z<|.gd Z Z<|.yv (.fieldAddr Z Fx.field26_0) Z<|.gd Z Z<|.yv (.load Z Fx.agg3 (.head _) Z) Z<|.gd Z Z<|.yv (.cast (.eql Z Z) (congrArg Value.bool (decide_eq_false (by omega)))) Z<|.yv (.pickF Z Z) Z<|.a Z Z<|.nt<|.cF Z<|.sr<|.yv (.fieldAddr Z Fx.field26_3) Z<|.yv (.load Z Fx.agg24 (.head _) Z) Z<|.yv (.lenSl Fx.sl24 Z) Z<|.yv (.cast (.eql Z Z) (congrArg Value.bool (decide_eq_false (by simp)))) Z<|.a Z Z<|.nt<|.cF Z<|.sr<|.yv (.fieldAddr Z Fx.field26_3) Z<|.yv (.load Z Fx.agg24 (.head _) Z) Z<|.yv (.lenSl Fx.sl24 Z) Z<|.yv (.cast (.eql Z Z) (congrArg Value.bool (decide_eq_true (by simp)))) Z<|.a Z Z<|.nt<|.cT Z<|.sq<|.fl (trip := [(_,_,_),(_,_,_),(_,_,_),(_,_,_),(_,_,_),(_,_,_),(_,_,_),(_,_,_),(_,_,_),(_,_,_),(_,_,_),(_,_,_),(_,_,_),(_,_,_),(_,_,_),(_,_,_),(_,_,_)]) 17 [(0,0),(1,0),(2,0),(3,0),(4,0),(5,0),(6,0),(7,0),(8,0),(9,0),(10,0),(11,0),(12,0),(13,0),(14,0),(15,0),(16,0)] (by kernel_rfl) (by kernel_rfl) Z<|.yv (.fieldAddr Z Fx.field26_3) Z<|.yv (.load Z Fx.agg24 (.head _) Z) Z<|.yv (.indexSl Fx.sl24 Z Z (i := 0) Z (by simp) (q := oE + 0 * 4) (by omega)) Z<|.yv (.loadMW Z Fx.agg26 (mE.up u1.up) lE) Z<|.yv (.call Fx.call9 Z (fun W s => ih x (by simp) hwx H1 cE W (rE.up u1.up) s.agr)) Z<|.yv (.app Z Z (by (try simp only [List.length_append,List.length_cons,List.length_nil]);omega)) Z<|.yv (.app Z Z (by (try simp only [List.length_append,List.length_cons,List.length_nil]);omega)) Z<|.m Z Z<|.yv (.app Z Z (by (try simp only [List.length_append,List.length_cons,List.length_nil]);omega)) Z<|.yv (.app Z Z (by (try simp only [List.length_append,List.length_cons,List.length_nil]);omega)) Z<|.yv (.fieldAddr Z Fx.field26_3) Z<|.yv (.load Z Fx.agg24 (.head _) Z) Z<|.yv (.indexSl Fx.sl24 Z Z (i := 1) Z (by simp) (q := oE + 1 * 4) (by omega)) Z<|.yv (.loadMW Z Fx.agg26 (mF.up u1.up) lF) Z<|.yv (.call Fx.call9 Z (fun W s => ih y (by simp) hwy H1 cF W (rF.up u1.up) s.agr)) Z<|.yv (.app Z Z (by (try simp only [List.length_append,List.length_cons,List.length_nil]);omega)) Z<|.yv (.app Z Z (by (try simp only [List.length_append,List.length_cons,List.length_nil]);omega)) Z<|.fn (tl := [_]) Z<|.a Z Z<|.nt<|.rt<|.bR<|.tR<|?_
 exact Sx.ret1 (.inl rfl) rfl (.tmp rfl) fun W s => ⟨by rw [full_bin hop2];rfl,s.ext⟩
theorem full_any (e : Ex) : FullOf e := by
 induction e using Ex.ind with
 | _ op nm n args ih =>
  intro hwf H cs w h hA
  have hf := hwf.2.1
  have hg := hwf.2.2
  rw [all_mk,Bool.and_eq_true] at hf hg
  replace hf := hf.1
  replace hg := hg.1
  simp only [frmE,Bool.and_eq_true,Bool.or_eq_true,decide_eq_true_eq] at hf
  simp only [namE,Bool.or_eq_true,Bool.not_eq_true'] at hg
  obtain ⟨⟨⟨hop,hl⟩,hnm⟩,hn⟩ := hf
  have hnl : nm.length ≤ 12 := by
   rcases hnm with e | e
   ·have := hg.resolve_left (by rw [e];decide)
    exact (nameB_facts this).2.2.2.2
   ·rw [e];simp
  obtain ⟨r1,r2⟩ := ops_rng hop
  rcases shape_k op (ok_cases hop) with h1 | ⟨h1,h2,h3⟩ | ⟨h1,h2,h3,h4⟩
  ·obtain rfl := args0 (l := args) (by omega)
   exact full0 op nm n hwf (ops0 hop h1) hnm (fun e => by rw [if_pos e,decide_eq_true_eq] at hn;exact hn) r1 r2 hnl H cs w h hA
  ·obtain ⟨b,rfl⟩ := args1 (l := args) (by omega)
   refine full1 op nm n b ih hwf ?_ r1 r2 hnl H cs w h hA
   rcases h2 with rfl | rfl | ⟨rfl | rfl,_⟩ <;> decide
  ·obtain ⟨a,b,rfl⟩ := args2 (l := args) (by omega)
   refine full2 op nm n a b ih hwf h2 ?_ r1 r2 hnl H cs w h hA
   have key : ∀ op ∈ ([11,12,13,14,15,16,17,18,19,20,21,22,23] : List UInt8),11 ≤ op.toNat := by decide
   exact key op h2
theorem Fx.call7 : callN Tryd.prog 7 = Bool.true := by kernel_rfl
set_option maxRecDepth 100000 in
theorem parserFull_any (H : Hp) (G : Gl H) (l : List Nf) (v : Value) (hs : Rep H (.seq 5 (l.map dNf)) [v]) (w : World) (hA : Agr H w) :
 Calls Tryd.prog 3 #[v] w fun r w' => r = .returned (.bool true) ∧ Ext w w' := by
 obtain ⟨e,he⟩ : ∃ e,e = treeT l 6 l.length := ⟨_,rfl⟩
 have hwf : wfE 7 e := by rw [he];exact treeT_wf l 6 l.length
 have hck := wf_check (hwf.mono (by decide : 7 ≤ 8))
 refine Sx.enter (H := H) Tryd.func3 rfl Tryd.ntmps3 rfl hA ?_
 refine .sr<|.a Z Z<|.nt<|.sq<|.sr<|.yv (.call Fx.call6 Z (fun W s => awake_any H G W s.agr)) Z<|.yv (.not Z) Z<|.nt<|.cF Z<|.sk<|.tN<|.sr<|.m Z Z<|.ct (X := List Value) Fx.call7 Z (fun W t => treeT_any l H v W hs t.agr) Z fun ya H1 rya uya => ?_
 replace rya : Rep H1 (dEx .i64 e) ya := he ▸ rya
 obtain ⟨ya1,ya2,ya3,ya4,rfl⟩ := four (ex_len rya)
 refine .al Fx.zero26 Z fun b3 => .sW .head Z Z Fx.size26 (Rep.one rya) Z<|.ns<|.yv (.loadW Z Fx.agg26 (.head _) Z) Z<|.yv (.call Fx.call9 Z (fun W s => full_any e hwf H1 _ W rya s.agr)) Z<|.ct (X := List Value) Fx.call8 Z (fun W t => exprP_okG H1 (G.up uya.up) (fullS e) e (full_len7 hwf) (full_read hwf.2.1 hwf.2.2) hck W t.agr) Z fun yb H2 ryb uyb => ?_
 obtain ⟨yb1,yb2,yb3,yb4,rfl⟩ := four (ex_len ryb)
 refine .m Z Z<|.yv (.extract Z Z) Z<|.yv (.extract Z Z) Z<|.yv (.extract Z Z) Z<|.al Fx.zero31 Z fun b4 => .sW .head Z Z Fx.size31 (Rep.one ryb) Z<|.a Z Z<|.a Z Z<|.nt<|.sq<|.fl (trip := [(_,_,_),(_,_,_),(_,_,_),(_,_,_),(_,_,_),(_,_,_),(_,_,_),(_,_,_),(_,_,_),(_,_,_),(_,_,_),(_,_,_)]) 12 [(0,0),(1,0),(2,0),(3,0),(4,0),(5,0),(6,0),(7,0),(8,0),(9,1),(10,0),(11,0)] (by kernel_rfl) (by kernel_rfl) Z<|.m Z Z<|.yv (.cast (.eql Z Z) (congrArg Value.bool (decide_eq_true Z))) Z<|.m Z Z<|.yg Z Z (.move Z) Z<|.yg Z Z (.cast (.eql Z Z) (congrArg Value.bool (decide_eq_true Z))) Z<|.yv (.pickT Z Z) Z<|.m Z Z<|.yg Z Z (.loadW Z Fx.agg31 (.head _) Z) Z<|.yg Z Z (.loadW Z Fx.agg26 (.tail _<|.head _) Z) Z<|.gd Z Z<|.ct (X := List Value) Fx.call11 Z (fun W t => expr_any e (frm_narrow e hwf.2.1) H2 _ W (rya.up uyb.up) t.agr) Z fun yc H3 ryc uyc => ?_
 obtain ⟨yc1,yc2,yc3,yc4,rfl⟩ := four (ex_len ryc)
 refine .yg Z Z (.call Fx.call10 Z (fun W s => eqx_same H3 e _ _ W (ryb.up uyc.up) ryc s.agr)) Z<|.yv (.pickT Z Z) Z<|.fn (tl := [_]) Z<|.a Z Z<|.nt<|.rt<|?_
 exact Sx.ret1 (.inl rfl) rfl (.tmp rfl) fun W s => ⟨rfl,s.ext⟩
variable {H : Type} {enc : TypeId × Value → H}
theorem wrap {a : Assume} {C : Checked} {os : Os} {f : FuncId} {fn : Func} {s : ChangeSpec} {conds : List PathCond} {apart fresh handsOn again : Bool} {X : World → Array Value → Prop}
 (hX : ∀ (w w' : World) (args : Array Value),w.heap = w'.heap → X w args → X w' args)
 (own : ownKnob C.prog.godebug = none) (started : os.Started) (noInit : C.prog.inits.idxOf? f = none) (hfn : C.prog.funcs[f]? = some fn)
 (witness : ∃ (w : World) (tape : Tape) (i : Input),w.os = os ∧ (w.forCall tape i).Shaped C.prog ∧ i.vars = [] ∧ Input.okWide C.prog (w.forCall tape i) .any w.heap.size f i ∧
  ((s.pre enc C.prog fn conds apart (w.forCall tape i).memory i.args ∧ X (w.forCall tape i).memory i.args) ∧ sizedMet enc C.prog fn (OpenSpec.ofChange s) apart (w.forCall tape i).memory i.args) ∧ a.holds C.prog (lone (Frame.enter C.prog f i.args .normal) [] (w.forCall tape i)))
 (contract : ∀ (W : World) (base : Nat) (args : Array Value) (ds gs : List (DataW H)) (before : List MemPlace),
  (∀ (j : Nat) t v,fn.params[j]? = some t → args[j]? = some v → Value.okWide C.prog W .any base t v) →
  DataW.Whole enc C.prog fn.params.toList s.vars apart W args.toList ds gs before →
  X W args → W.ShapedOpen C.prog →
  Calls C.prog f args W fun e W' => ∃ v,e = .returned v ∧ s.post enc C.prog fn apart fresh handsOn again W args v W') :
 ReturnsInHanded a C os f .any (fun w args => (s.pre enc C.prog fn conds apart w args ∧ X w args) ∧ sizedMet enc C.prog fn (OpenSpec.ofChange s) apart w args) (s.post enc C.prog fn apart fresh handsOn again) := by
 refine returnsInHanded_of_calls own started noInit witness ?_
 intro w tape i _ hsh _ hok hpre _
 obtain ⟨_,_,_,fn',hfn',_,_,_,_,hval⟩ := hok
 have e : fn' = fn := Option.some.inj (hfn'.symm.trans hfn)
 subst e
 obtain ⟨⟨⟨ds,gs,before,hw,_⟩,hx⟩,_⟩ := hpre
 have hw' := DataW.Whole.of_heap (w' := w.forCall tape i) (by rfl) hw
 refine (contract (w.forCall tape i) w.heap.size i.args ds gs before hval hw' (hX _ _ _ (by rfl) hx) hsh).mono fun e W' ⟨v,he,hp⟩ => ?_
 subst he
 exact ChangeSpec.post_blind hp

theorem own : ownKnob Tryd.prog.godebug = none := by kernel_rfl
def laids : List (String × DataW Unit) := [("rootcause/lexer.words",Rows.laid_rootcause_lexer_words),("rootcause/lexer.symbols",Rows.laid_rootcause_lexer_symbols),("rootcause/syntax.shapes",Rows.laid_rootcause_syntax_shapes),("rootcause/syntax.forms",Rows.laid_rootcause_syntax_forms)]
theorem gl_of {W : World} (h : laidMet Tryd.prog laids W) : Gl (allH W) :=
 ⟨laid_mem (t := 101) (.arr 24 (.str [.int .i64,.bool,.int .i64,.strg])) _ (by kernel_rfl) (by kernel_rfl) (by kernel_rfl) (by kernel_rfl) (by kernel_rfl) h.tail.tail,
  laid_mem (t := 161) (.arr 11 (.str [.bool,.bool,.int .i64,.int .i64,.bool,.bool])) _ (by kernel_rfl) (by kernel_rfl) (by kernel_rfl) (by kernel_rfl) (by kernel_rfl) h.tail.tail.tail,
  laid_mem (t := 153) (.arr 39 .strg) _ (by kernel_rfl) (by kernel_rfl) (by kernel_rfl) (by kernel_rfl) (by kernel_rfl) h,
  laid_mem (t := 131) (.arr 25 .strg) _ (by kernel_rfl) (by kernel_rfl) (by kernel_rfl) (by kernel_rfl) (by kernel_rfl) h.tail⟩
theorem laid_met (os : Os) (args : Array Value) : laidMet Tryd.prog laids ((World.laidAll Tryd.prog os laids).forCall (fun _ _ => 0) ⟨#[],args,[]⟩).memory :=
 laidMet_laidAll _ (by kernel_rfl) (by kernel_rfl)
theorem laid_shaped (os : Os) (args : Array Value) : ((World.laidAll Tryd.prog os laids).forCall (fun _ _ => 0) ⟨#[],args,[]⟩).Shaped Tryd.prog :=
 World.shaped_of_ZipB (by kernel_rfl) (by kernel_rfl)
theorem ext_kept {W W' : World} (h : Ext W W') : ∀ may,W.keptBut W' may := fun may => (Ext.below h).frame may
theorem laidOut : laidOutB Tryd.prog = true := by kernel_rfl
end Go.Proofs.YthhoebdlfjffkaaDoor
