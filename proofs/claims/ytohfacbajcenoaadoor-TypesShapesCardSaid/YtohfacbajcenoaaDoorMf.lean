/- Texts of the proof, one behind the other. -/
import Derived.Test.YtohfacbajcenoaaDoorMe
import Derived.Test.YtohfacbajcenoaaDoorTie
import Derived.ProofKit
import Derived.OpenShut
import Derived.ShutString
import Derived.Lay
import Derived.Stop.LaidErr
import Derived.Stop.Joined
import Derived.Shelf.Vars
import Derived.Lib.LaidTab
import Derived.Lib.SmallJoins
import Derived.SevenTiedAt
set_option linter.all false
set_option maxRecDepth 100000
namespace Go.Sx
open Go.RowKit Go.Par
def lessH (H : Hp) (b : Nat) : Hp := ⟨fun c => if c = b then none else H c,H.lo⟩
theorem lessH_at {H : Hp} {b : Nat} : lessH H b b = none := by simp [lessH]
theorem lessH_ne {H : Hp} {b c : Nat} (h : c ≠ b) : lessH H b c = H c := by simp [lessH,h]
theorem putH_lessH (H : Hp) (b : Nat) (o : Obj) : putH (lessH H b) b o = putH H b o := by
 unfold putH lessH
 congr 1
 funext c
 split <;> simp_all
section
variable {dfs : List Deferred} {n : Nat} {L : Sl} {H : Hp} {w0 : World} {bs : List Res}
theorem St.thaw {b : Nat} {arr : Array Value} {t : TypeId} {W : World} (s : St H w0 bs W) (hb : w0.heap.size ≤ b) (hH : H b = some (.cells arr t (0,0))) : St (lessH H b) w0 (.box b arr.toList t :: bs) W := by
 have hW := s.agr b _ hH;refine ⟨s.ext,⟨fun c o e => ?_,s.agr.lo⟩,fun x hx => ?_,.cons ?_ s.apart,s.lo⟩
 ·by_cases hc : c = b
  ·subst hc;rw [lessH_at] at e;cases e
  ·rw [lessH_ne hc] at e;exact s.agr c o e
 ·rcases List.mem_cons.1 hx with rfl | hx
  ·refine ⟨⟨hb,by simpa using hW⟩,fun c e => ?_⟩;obtain rfl : b = c := Option.some.inj e;exact lessH_at
  ·refine ⟨(s.own x hx).1,fun c e => ?_⟩
   by_cases hc : c = b
   ·subst hc;exact lessH_at
   ·rw [lessH_ne hc];exact (s.own x hx).2 c e
 ·intro y hy c e e2;obtain rfl : b = c := Option.some.inj e;rw [(s.own y hy).2 b e2] at hH;cases hH
theorem At.thaw {b : Nat} {arr : Array Value} {t : TypeId} {G : Act → World → Prop} (hb : w0.heap.size ≤ b) (hH : H b = some (.cells arr t (0,0))) (h : At dfs n L (lessH H b) w0 (.box b arr.toList t :: bs) G) : At dfs n L H w0 bs G := fun a W f s => h a W f (s.thaw hb hH)
theorem At.cool {b : Nat} {l : List Value} {t : TypeId} {G : Act → World → Prop} (h : At dfs n L (putH H b (.cells l.toArray t (0,0))) w0 bs G) : At dfs n L (lessH H b) w0 (.box b l t :: bs) G := fun a W f s => by
 have hm := (s.own _ (.head _)).1.2;obtain ⟨s',u⟩ := s.freeze rfl hm ⟨_,_,rfl⟩;have e := putH_lessH H b (.cells l.toArray t (0,0));exact h a W f (e ▸ s')
theorem At.stH {P : Program} {Q : Exit → Act → World → Prop} {ops : Array Oper} {rest : List Oper} {T ty : TypeId} {pos : String} {aft : Array Edge} {x y : Operand} {b off : Nat} {arr : Array Value} {t : TypeId} {v : Value}
 (hp : ev L x = some (.pointer (some ⟨b,off,none⟩))) (hv : ev L y = some v) (hT : sizeN P T = some 1) (h1 : v.oneCell' = true) (hH : H b = some (.cells arr t (0,0))) (hb : w0.heap.size ≤ b) (ho : off < arr.size)
 (h : ∀ H',H' = putH H b (.cells (arr.setIfInBounds off v) t (0,0)) → At dfs n L H' w0 bs (wpList P ops Q rest)) :
 At dfs n L H w0 bs (wpList P ops Q (⟨none,.store T x y,ty,pos,aft,none⟩ :: rest)) := by
 refine .thaw hb hH ?_;refine .st .head hp hv hT h1 (l := arr.toList) (l' := arr.toList.set off v) (by rw [Array.length_toList];exact ho) Z ?_;refine .cool ?_
 have e : (arr.toList.set off v).toArray = arr.setIfInBounds off v := by
  apply Array.ext';rw [Array.toList_setIfInBounds]
 rw [e];exact h _ rfl
end
theorem HUp.put {w0 : World} {H H1 : Hp} {b : Nat} {arr : Array Value} {t : TypeId} (u : HUp w0 H H1) (hb : H b = none) (hw : w0.heap.size ≤ b) : HUp w0 H (putH H1 b (.cells arr t (0,0))) := by
 refine ⟨⟨fun c o e => ?_,u.up.lo⟩,fun c e hc => ?_,fun c o e h0 => ?_⟩
 ·have : c ≠ b := fun h => by subst h;rw [hb] at e;cases e
  rw [putH_ne this];exact u.up c o e
 ·rw [putH_ne (by omega)];exact u.new c e hc
 ·by_cases h : c = b
  ·subst h;rw [putH_at] at e;cases e;exact ⟨_,_,rfl⟩
  ·rw [putH_ne h] at e;exact u.mark c o e h0
theorem HUp.cells {w0 : World} {H H1 : Hp} {b : Nat} {arr : Array Value} {t : TypeId} {m : Nat × Nat} (u : HUp w0 H H1) (hb : H b = none) (h : H1 b = some (.cells arr t m)) : H1 b = some (.cells arr t (0,0)) := by
 obtain ⟨arr',t',e⟩ := u.mark b _ h hb;cases e;exact h
def Hp.at (H : Hp) (n : Nat) : Hp := ⟨H.get,n⟩
mutual
theorem Rep.relo {H : Hp} (n : Nat) : ∀ {d : D} {l : List Value},Rep H d l → d.txt = false → Rep (H.at n) d l
 | .val v,l,h,k => by unfold Rep at h ⊢;exact h
 | .any v,l,h,k => by unfold Rep at h ⊢;exact h
 | .str ds,l,h,k => by
  unfold Rep at h ⊢;exact RepL.relo n h k
 | .seq z ds,l,h,k => by
  unfold Rep at h ⊢;obtain ⟨p,c,h1,h2,h3,h4⟩ := h;refine ⟨p,c,h1,h2,h3,h4.imp id ?_⟩;rintro ⟨b,off,cs,h5,h6,h7,h8⟩;exact ⟨b,off,cs,h5,h6,RepZ.relo n h7 k,fun e => by rw [show D.txtL ds = false from k] at e;cases e⟩
theorem RepL.relo {H : Hp} (n : Nat) : ∀ {ds : List D} {l : List Value},RepL H ds l → D.txtL ds = false → RepL (H.at n) ds l
 | [],l,h,k => by unfold RepL at h ⊢;exact h
 | d :: r,l,h,k => by
  unfold RepL at h ⊢;simp only [D.txtL,Bool.or_eq_false_iff] at k;obtain ⟨x,y,h1,h2,h3⟩ := h;exact ⟨x,y,h1,Rep.relo n h2 k.1,RepL.relo n h3 k.2⟩
theorem RepZ.relo {H : Hp} (n : Nat) {z : Nat} : ∀ {ds : List D} {l : List Value},RepZ H z ds l → D.txtL ds = false → RepZ (H.at n) z ds l
 | [],l,h,k => by unfold RepZ at h ⊢;exact h
 | d :: r,l,h,k => by
  unfold RepZ at h ⊢;simp only [D.txtL,Bool.or_eq_false_iff] at k;obtain ⟨x,y,h1,h2,h3,h4⟩ := h;exact ⟨x,y,h1,h2,Rep.relo n h3 k.1,RepZ.relo n h4 k.2⟩
end
theorem Hp.at_agr {W : World} {H : Hp} (h : Agr H W) : Agr (H.at W.heap.size) W := ⟨h.get,Nat.le_refl _⟩
theorem Rep.elemT {H : Hp} {z n c i : Nat} {ds : List D} {p : Option Addr} {d : D} (h : Rep H (.seq z ds) [.slice p n c]) (hi : ds[i]? = some d) (ht : d.txt = true) : ∃ b off cs,p = some ⟨b,off,none⟩ ∧ Rep H d cs ∧ cs.length = z ∧ MemAt H b (off + i * z) cs ∧ H.lo ≤ b := by
 obtain ⟨b,off,cs,e,h1,h2,h3⟩ := h.elem hi;refine ⟨b,off,cs,e,h1,h2,h3,?_⟩;unfold Rep at h;obtain ⟨p',c',e1,_,_,h4⟩ := h;injection e1 with e1 _
 injection e1 with e1 _ _
 subst e1;rcases h4 with rfl | ⟨b',off',cs',e2,_,_,h5⟩
 ·simp at hi
 ·rw [e] at e2;cases e2;refine h5 ?_;rw [D.txtL_any,List.any_eq_true];exact ⟨d,List.mem_of_getElem? hi,ht⟩
end Go.Sx
namespace Go.Proofs.YtohfacbajcenoaaDoor
open Go.RowKit Go.Par Go.Sx
inductive Kin : Value → Value → Prop where
 | same (v : Value) : Kin v v
 | str (s s' : ByteArray) : s'.size ≤ 1000000 → Kin (.string s) (.string s')
 | int (k : IntKind) (i j : Int) : 0 ≤ j → j ≤ 100 → Kin (.int k i) (.int k j)
abbrev SpT := Nat → Nat → Value → Value → Prop
structure ChgS (Sp : SpT) (H H' : Hp) : Prop where
 get : ∀ b arr t m,H b = some (.cells arr t m) → ∃ arr' m',H' b = some (.cells arr' t m') ∧ ∀ (j : Nat) u,arr[j]? = some u → ∃ u',arr'[j]? = some u' ∧ (Kin u u' ∨ Sp b j u u')
 lo : H'.lo = H.lo
def Cor (Sp : SpT) (b : Nat) : Nat → List Value → List Value → Prop
 | _,[],l => l = []
 | off,v :: r,l => ∃ v' q,l = v' :: q ∧ (Kin v v' ∨ Sp b off v v') ∧ Cor Sp b (off + 1) r q
section
variable {Sp : SpT} {H H' : Hp} {E : Prop}
theorem Cor.split {b : Nat} : ∀ {x y l : List Value} {off : Nat},Cor Sp b off (x ++ y) l → ∃ x' y',l = x' ++ y' ∧ Cor Sp b off x x' ∧ Cor Sp b (off + x.length) y y'
 | [],y,l,off,h => ⟨[],l,rfl,rfl,h⟩
 | v :: x,y,l,off,h => by
  obtain ⟨v',q,rfl,h1,h2⟩ := h;obtain ⟨x',y',rfl,h3,h4⟩ := Cor.split h2;exact ⟨v' :: x',y',rfl,⟨v',x',rfl,h1,h3⟩,by rw [List.length_cons,show off + (x.length + 1) = off + 1 + x.length by omega];exact h4⟩
theorem Cor.len {b : Nat} : ∀ {x l : List Value} {off : Nat},Cor Sp b off x l → l.length = x.length
 | [],l,off,h => by rw [show l = [] from h]
 | v :: x,l,off,h => by
  obtain ⟨v',q,rfl,h1,h2⟩ := h;simp [Cor.len h2]
theorem cor_of {b : Nat} {arr : Array Value} : ∀ (cs : List Value) (off : Nat),(∀ (j : Nat) u,cs[j]? = some u → ∃ u',arr[off + j]? = some u' ∧ (Kin u u' ∨ Sp b (off + j) u u')) → ∃ cs',Cor Sp b off cs cs' ∧ ∀ (j : Nat) u,cs'[j]? = some u → arr[off + j]? = some u
 | [],off,_ => ⟨[],rfl,fun j u e => by simp at e⟩
 | v :: r,off,h => by
  obtain ⟨v',h1,h2⟩ := h 0 v rfl
  obtain ⟨q,h3,h4⟩ := cor_of r (off + 1) fun j u e => by
   obtain ⟨u',e1,e2⟩ := h (j + 1) u (by simpa using e);have h9 : off + (j + 1) = off + 1 + j := by omega
   rw [h9] at e1 e2;exact ⟨u',e1,e2⟩
  refine ⟨v' :: q,⟨v',q,rfl,h2,h3⟩,fun j u e => ?_⟩;cases j with
  | zero => simp at e;subst e;exact h1
  | succ j => simp at e;have := h4 j u e;rw [Nat.add_assoc,Nat.add_comm 1 j] at this;exact this
theorem memAt_chgS {b off : Nat} {cs : List Value} (u : ChgS Sp H H') (h : MemAt H b off cs) : ∃ cs',Cor Sp b off cs cs' ∧ MemAt H' b off cs' := by
 obtain ⟨arr,t,m,h1,h2⟩ := h;obtain ⟨arr',m',k1,k2⟩ := u.get b arr t m h1;obtain ⟨cs',h3,h4⟩ := cor_of (arr := arr') cs off fun j u e => k2 (off + j) u (h2 j u e);exact ⟨cs',h3,arr',t,m',k1,h4⟩
theorem memAt_left {b off : Nat} {x y : List Value} (h : MemAt H b off (x ++ y)) : MemAt H b off x := by
 have := h.take x.length;simpa using this
theorem memAt_right {b off : Nat} {x y : List Value} (h : MemAt H b off (x ++ y)) : MemAt H b (off + x.length) y := by
 have := h.drop x.length;simpa using this
def A2 {α : Type} (Q : α → α → Prop) : List α → List α → Prop
 | [],l => l = []
 | x :: r,l => ∃ y q,l = y :: q ∧ Q x y ∧ A2 Q r q
theorem A2.len {α : Type} {Q : α → α → Prop} : ∀ {l l' : List α},A2 Q l l' → l'.length = l.length
 | [],l',h => by rw [show l' = [] from h]
 | x :: r,l',h => by
  obtain ⟨y,q,rfl,_,h2⟩ := h;simp [A2.len h2]
theorem A2.refl {α : Type} {Q : α → α → Prop} (hr : ∀ x,Q x x) : ∀ l : List α,A2 Q l l
 | [] => rfl
 | x :: r => ⟨x,r,rfl,hr x,A2.refl hr r⟩
theorem A2.at {α : Type} {Q : α → α → Prop} : ∀ {l l' : List α} (_ : A2 Q l l') {i : Nat} (h1 : i < l.length) (h2 : i < l'.length),Q l[i] l'[i]
 | [],l',_,i,h1,_ => by simp at h1
 | x :: r,l',h,i,h1,h2 => by
  obtain ⟨y,q,rfl,h3,h4⟩ := h;cases i with
  | zero => exact h3
  | succ i => exact A2.at h4 (by simpa using h1) (by simpa using h2)
theorem A2.mem {α : Type} {Q : α → α → Prop} : ∀ {l l' : List α},A2 Q l l' → ∀ y ∈ l',∃ x ∈ l,Q x y
 | [],l',h,y,hy => by rw [show l' = [] from h] at hy;cases hy
 | x :: r,l',h,y,hy => by
  obtain ⟨y',q,rfl,h1,h2⟩ := h;rcases List.mem_cons.1 hy with rfl | hy
  ·exact ⟨x,.head _,h1⟩
  ·obtain ⟨x',hx,hq⟩ := A2.mem h2 y hy;exact ⟨x',.tail _ hx,hq⟩
theorem repZ_chgS {α : Type} {g : α → D} {Q : α → α → Prop} {z b : Nat} : ∀ {l : List α} {off : Nat} {cs cs' : List Value},(∀ x ∈ l,∀ off cs cs',MemAt H b off cs → Rep H (g x) cs → Cor Sp b off cs cs' → ∃ y,Q x y ∧ Rep H' (g y) cs') →
 MemAt H b off cs → RepZ H z (l.map g) cs → Cor Sp b off cs cs' → ∃ l',A2 Q l l' ∧ RepZ H' z (l'.map g) cs'
 | [],off,cs,cs',_,_,h,hc => by
  unfold List.map RepZ at h;subst h;obtain rfl : cs' = [] := hc;exact ⟨[],rfl,RepZ.nil⟩
 | x :: r,off,cs,cs',hg,hm,h,hc => by
  rw [List.map_cons] at h;unfold RepZ at h;obtain ⟨a,c,rfl,h1,h2,h3⟩ := h;obtain ⟨a',c',rfl,k1,k2⟩ := hc.split;obtain ⟨y,q1,q2⟩ := hg x (.head _) off a a' (memAt_left hm) h2 k1;obtain ⟨l',q3,q4⟩ := repZ_chgS (fun z hz => hg z (.tail _ hz)) (memAt_right hm) h3 k2;refine ⟨y :: l',⟨y,l',rfl,q1,q3⟩,?_⟩;rw [List.map_cons];unfold RepZ;exact ⟨a',c',rfl,k1.len.trans h1,q2,q4⟩
theorem A2.txt {α : Type} {g : α → D} {Q : α → α → Prop} (ht : ∀ x y,Q x y → (g y).txt = true → (g x).txt = true) : ∀ {l l' : List α},A2 Q l l' → D.txtL (l'.map g) = true → D.txtL (l.map g) = true
 | [],l',h,k => by rw [show l' = [] from h] at k;exact k
 | x :: r,l',h,k => by
  obtain ⟨y,q,rfl,h1,h2⟩ := h;rw [List.map_cons,D.txtL,Bool.or_eq_true] at k ⊢;exact k.imp (ht x y h1) (A2.txt ht h2)
theorem seq_chgS {α : Type} {g : α → D} {Q : α → α → Prop} {z : Nat} {l : List α} {v : Value} (u : ChgS Sp H H') (hg : ∀ x ∈ l,∀ b off cs cs',MemAt H b off cs → Rep H (g x) cs → Cor Sp b off cs cs' → ∃ y,Q x y ∧ Rep H' (g y) cs')
 (ht : ∀ x y,Q x y → (g y).txt = true → (g x).txt = true) (h : Rep H (.seq z (l.map g)) [v]) : ∃ l',A2 Q l l' ∧ Rep H' (.seq z (l'.map g)) [v] := by
 unfold Rep at h;obtain ⟨p,c,h1,h2,h3,h4⟩ := h;injection h1 with h1 _
 subst h1;rcases h4 with h4 | ⟨b,off,cs,rfl,h7,h8,h9⟩
 ·obtain rfl : l = [] := by simpa using h4
  exact ⟨[],rfl,.empty h3⟩
 ·obtain ⟨cs',k1,k2⟩ := memAt_chgS u h7;obtain ⟨l',k3,k4⟩ := repZ_chgS (fun x hx => hg x hx b) h7 h8 k1;have hl := k3.len;refine ⟨l',k3,.mkM k2 k4 (by simp [hl]) h2 h3 fun e => u.lo ▸ h9 (k3.txt ht e)⟩
/-! ### Bounds -/
theorem alls_eq {q : Ex → Bool} : ∀ l,Ex.alls q l = l.all (Ex.all q)
 | [] => rfl
 | e :: r => by rw [Ex.alls,List.all_cons,alls_eq r]
def okSD (N D : Nat) : Sm → Bool
 | .mk _ _ _ ex _ _ => decide (ex.length ≤ N) && decide (Ex.deeps ex ≤ D) && ex.all (Ex.all narrow)
def EB (e e' : Ex) : Prop := e'.depth ≤ 2 * e.depth ∧ (Ex.all narrow e = true → Ex.all narrow e' = true)
def AB (l l' : List Ex) : Prop := Ex.deeps l' ≤ 2 * Ex.deeps l + 1 ∧ (l.length ≤ 3 → Ex.alls narrow l = true → l'.length ≤ 3 ∧ Ex.alls narrow l' = true)
def XB (l l' : List Ex) : Prop := l'.length ≤ l.length ∧ Ex.deeps l' ≤ 2 * Ex.deeps l ∧ (Ex.alls narrow l = true → Ex.alls narrow l' = true)
def LB (l l' : List Sm) : Prop := Sm.counts l' ≤ Sm.counts l ∧ Sm.deeps l' ≤ Sm.deeps l ∧ ∀ N D,Sm.alls (okSD N D) l = true → Sm.alls (okSD N (2 * D)) l' = true
def SB (s s' : Sm) : Prop := LB [s] [s']
def HB (h h' : Hd) : Prop := h'.ps.length ≤ h.ps.length + 1 ∧ LB h.body h'.body
def VB (E : Prop) (v v' : List Hd) : Prop := A2 HB v v' ∨ E ∧ v' = []
def CB (E : Prop) (c c' : Cp) : Prop := (c'.vars.length = c.vars.length ∨ E ∧ c'.vars = []) ∧ (A2 (VB E) c.vers c'.vers ∨ E ∧ c'.vers = [])
def FB (E : Prop) (f f' : Ft) : Prop := f'.nm = f.nm ∧ f'.flags.length = f.flags.length ∧ f'.links.length = f.links.length ∧ A2 (CB E) f.comps f'.comps
theorem A2.xb : ∀ {l l' : List Ex},A2 EB l l' → XB l l'
 | [],l',h => by rw [show l' = [] from h];exact ⟨Nat.le_refl _,by simp [Ex.deeps],fun h => h⟩
 | x :: r,l',h => by
  obtain ⟨y,q,rfl,h1,h2⟩ := h;obtain ⟨k1,k2,k3⟩ := A2.xb h2;refine ⟨by simp [k1],by simp only [Ex.deeps];have := h1.1;omega,fun hh => ?_⟩;rw [Ex.alls,Bool.and_eq_true] at hh ⊢;exact ⟨h1.2 hh.1,k3 hh.2⟩
theorem A2.ab {l l' : List Ex} (h : A2 EB l l') : AB l l' := by
 obtain ⟨_,k2,k3⟩ := h.xb;exact ⟨by omega,fun h1 h2 => ⟨by rw [h.len];exact h1,k3 h2⟩⟩
theorem lb_nil {l : List Sm} : LB l [] := ⟨by simp [Sm.counts],by simp [Sm.deeps],fun _ _ _ => rfl⟩
theorem sms_cons {s : Sm} {l : List Sm} : s :: l = [s] ++ l := rfl
theorem A2.lb : ∀ {l l' : List Sm},A2 SB l l' → LB l l'
 | [],l',h => by rw [show l' = [] from h];exact lb_nil
 | x :: r,l',h => by
  obtain ⟨y,q,rfl,h1,h2⟩ := h;obtain ⟨k1,k2,k3⟩ := A2.lb h2;obtain ⟨j1,j2,j3⟩ := h1;rw [sms_cons,sms_cons (s := y)];refine ⟨by rw [scounts_app,scounts_app];omega,by rw [sdeeps_app,sdeeps_app];omega,fun N D hh => ?_⟩;rw [salls_app,Bool.and_eq_true] at hh ⊢;exact ⟨j3 N D hh.1,k3 N D hh.2⟩
theorem sb_mk {kd kd' : UInt8} {nm hd nm' hd' : Str} {ex ex' : List Ex} {th th' el el' : List Sm} (h1 : XB ex ex') (h2 : LB th th') (h3 : LB el el') : SB (.mk kd nm hd ex th el) (.mk kd' nm' hd' ex' th' el') := by
 obtain ⟨a1,a2,a3⟩ := h1;obtain ⟨b1,b2,b3⟩ := h2;obtain ⟨c1,c2,c3⟩ := h3;refine ⟨?_,?_,fun N D hh => ?_⟩
 ·simp only [Sm.counts,scount_mk];omega
 ·simp only [Sm.deeps,sdepth_mk];omega
 ·simp only [Sm.alls,sall_mk,okSD,Bool.and_eq_true,decide_eq_true_eq,← alls_eq] at hh ⊢;exact ⟨⟨⟨⟨⟨by omega,by omega⟩,a3 hh.1.1.1.2⟩,b3 N D hh.1.1.2⟩,c3 N D hh.1.2⟩,trivial⟩
/-! ### What the special cells become, where they are read -/
structure Spc (E : Prop) (Sp : SpT) (H H' : Hp) : Prop where
 sl : ∀ b j u u',Sp b j u u' → ∃ p n c,u = .slice p n c
 ar : ∀ b o (op : UInt8) nm (n : Int64) v v' (args args2 : List Ex),Sp b (o + 3) v v' → MemAt H b o [.int .i64 op.toNat,strV nm,.int .i64 n.toInt,v] → Rep H (.seq 4 (args.map (dEx .i64))) [v] → A2 EB args args2 → Rep H' (.seq 4 (args2.map (dEx .i64))) [v] → ∃ l,AB args l ∧ Rep H' (.seq 4 (l.map (dEx .i64))) [v']
 ex : ∀ b o (kd : UInt8) nm hd v w1 w2 v' (es es2 : List Ex),Sp b (o + 3) v v' → MemAt H b o [.int .i64 kd.toNat,strV nm,strV hd,v,w1,w2] → Rep H (.seq 4 (es.map (dEx .i64))) [v] → A2 EB es es2 → Rep H' (.seq 4 (es2.map (dEx .i64))) [v] → ∃ l,XB es l ∧ Rep H' (.seq 4 (l.map (dEx .i64))) [v']
 th : ∀ b o (kd : UInt8) nm hd w1 v w2 v' (l : List Sm),Sp b (o + 4) v v' → MemAt H b o [.int .i64 kd.toNat,strV nm,strV hd,w1,v,w2] → (∃ p n c,w1 = .slice p n c) → Rep H (.seq 6 (l.map (dSm .i64))) [v] → ∃ l',LB l l' ∧ Rep H' (.seq 6 (l'.map (dSm .i64))) [v']
 el : ∀ b o (kd : UInt8) nm hd w1 w2 v v' (l : List Sm),Sp b (o + 5) v v' → MemAt H b o [.int .i64 kd.toNat,strV nm,strV hd,w1,w2,v] → (∃ p n c,w2 = .slice p n c) → Rep H (.seq 6 (l.map (dSm .i64))) [v] → ∃ l',LB l l' ∧ Rep H' (.seq 6 (l'.map (dSm .i64))) [v']
 ps : ∀ b o nm v w v' (ps : List Str),Sp b (o + 1) v v' → MemAt H b o [strV nm,v,w] → Rep H (.seq 1 (ps.map dStr)) [v] → ∃ l : List Str,l.length ≤ ps.length + 1 ∧ Rep H' (.seq 1 (l.map dStr)) [v']
 bd : ∀ b o nm w v v' (l : List Sm),Sp b (o + 2) v v' → MemAt H b o [strV nm,w,v] → (∃ p n c,w = .slice p n c) → Rep H (.seq 6 (l.map (dSm .i64))) [v] → ∃ l',LB l l' ∧ Rep H' (.seq 6 (l'.map (dSm .i64))) [v']
 va : ∀ b o nm v w v' (c : Cp),Sp b (o + 1) v v' → MemAt H b o [strV nm,v,w] → Rep H (.seq 3 (c.vars.map (dVr .i64))) [v] → Rep H (.seq 1 (c.vers.map (dVs .i64))) [w] → ∃ l : List Vr,(l.length = c.vars.length ∨ E ∧ l = []) ∧ Rep H' (.seq 3 (l.map (dVr .i64))) [v']
 ve : ∀ b o nm w v v' (c : Cp),Sp b (o + 2) v v' → MemAt H b o [strV nm,w,v] → Rep H (.seq 3 (c.vars.map (dVr .i64))) [w] → Rep H (.seq 1 (c.vers.map (dVs .i64))) [v] → ∃ l,(A2 (VB E) c.vers l ∨ E ∧ l = []) ∧ Rep H' (.seq 1 (l.map (dVs .i64))) [v']
 vs : ∀ b o v v' (x : List Hd),Sp b o v v' → MemAt H b o [v] → Rep H (.seq 3 (x.map (dHd .i64))) [v] → ∃ l,VB E x l ∧ Rep H' (.seq 3 (l.map (dHd .i64))) [v']
theorem Spc.u (S : Spc E Sp H H') {b o : Nat} {k : IntKind} {n : UInt8} {v : Value} (h : Kin (.int k n.toNat) v ∨ Sp b o (.int k n.toNat) v) : ∃ m : UInt8,v = .int k m.toNat := by
 rcases h with h | h
 ·generalize hv : Value.int k n.toNat = w at h;cases h with
  | same => exact ⟨n,hv.symm⟩
  | str => cases hv
  | int k2 i j h0 h1 =>
   cases hv;refine ⟨UInt8.ofNat j.toNat,?_⟩;have : (UInt8.ofNat j.toNat).toNat = j.toNat := by rw [UInt8.toNat_ofNat'];omega
   rw [this,Int.toNat_of_nonneg h0]
 ·obtain ⟨p,n,c,e⟩ := S.sl _ _ _ _ h;cases e
theorem Spc.i (S : Spc E Sp H H') {b o : Nat} {n : Int64} {v : Value} (h : Kin (.int .i64 n.toInt) v ∨ Sp b o (.int .i64 n.toInt) v) : ∃ m : Int64,v = .int .i64 m.toInt := by
 rcases h with h | h
 ·generalize hv : Value.int .i64 n.toInt = w at h;cases h with
  | same => exact ⟨n,hv.symm⟩
  | str => cases hv
  | int k2 i j h0 h1 =>
   cases hv;refine ⟨Int64.ofInt j,?_⟩;rw [Int64.toInt_ofInt_of_le (by omega) (by omega)]
 ·obtain ⟨p,n,c,e⟩ := S.sl _ _ _ _ h;cases e
theorem Spc.s (S : Spc E Sp H H') {b o : Nat} {s : Str} {v : Value} (hs : s.length ≤ 1000000) (h : Kin (strV s) v ∨ Sp b o (strV s) v) : ∃ m : Str,v = strV m ∧ m.length ≤ 1000000 := by
 unfold strV at h;rcases h with h | h
 ·cases h with
  | same => exact ⟨s,rfl,hs⟩
  | str _ s' hs' => exact ⟨s'.data.toList,by unfold strV;simp,by rw [Array.length_toList];exact hs'⟩
 ·obtain ⟨p,n,c,e⟩ := S.sl _ _ _ _ h;cases e
theorem Spc.b (S : Spc E Sp H H') {b o : Nat} {q : Bool} {v : Value} (h : Kin (.bool q) v ∨ Sp b o (.bool q) v) : v = .bool q := by
 rcases h with h | h
 ·cases h;rfl
 ·obtain ⟨p,n,c,e⟩ := S.sl _ _ _ _ h;cases e
theorem kin_l {p : Option Addr} {n c : Nat} {v : Value} (h : Kin (.slice p n c) v) : v = .slice p n c := by cases h;rfl
theorem txt_ex {k : IntKind} (e : Ex) : (dEx k e).txt = true := by
 obtain ⟨op,nm,n,a⟩ := e;rw [dEx_mk];rfl
theorem txt_sm {k : IntKind} (s : Sm) : (dSm k s).txt = true := by
 obtain ⟨kd,nm,hd,ex,th,el⟩ := s;rw [dSm_mk];rfl
theorem ex_chgS (u : ChgS Sp H H') (S : Spc E Sp H H') (e : Ex) : ∀ b off cs cs',MemAt H b off cs → Rep H (dEx .i64 e) cs → Cor Sp b off cs cs' → ∃ e',EB e e' ∧ Rep H' (dEx .i64 e') cs' := by
 induction e using Ex.ind with | _ op nm nn args ih
 intro b off cs cs' hm h hc;obtain ⟨p,c,rfl,ha,hn⟩ := ex_open h;obtain ⟨v1,q1,rfl,c1,hc⟩ := hc;obtain ⟨v2,q2,rfl,c2,hc⟩ := hc;obtain ⟨v3,q3,rfl,c3,hc⟩ := hc;obtain ⟨v4,q4,rfl,c4,hc⟩ := hc;obtain rfl : q4 = [] := hc;obtain ⟨op',rfl⟩ := S.u c1;obtain ⟨nm',rfl,hn'⟩ := S.s hn c2;obtain ⟨nn',rfl⟩ := S.i c3;obtain ⟨a2,h2,r2⟩ := seq_chgS u ih (fun x y _ _ => txt_ex x) ha
 obtain ⟨a3,h3,r3⟩ : ∃ l,AB args l ∧ Rep H' (.seq 4 (l.map (dEx .i64))) [v4] := by
  rcases c4 with c4 | c4
  ·rw [kin_l c4];exact ⟨a2,h2.ab,r2⟩
  ·exact S.ar b off op nm nn _ _ args a2 c4 hm ha h2 r2
 refine ⟨.mk op' nm' nn' a3,⟨?_,fun hh => ?_⟩,ex_shut hn' r3⟩
 ·rw [depth_mk,depth_mk];have := h3.1;omega
 ·rw [all_mk,Bool.and_eq_true,narrow_mk,decide_eq_true_eq] at hh ⊢;exact h3.2 hh.1 hh.2
theorem exs_chgS (u : ChgS Sp H H') (S : Spc E Sp H H') {l : List Ex} {v : Value} (h : Rep H (.seq 4 (l.map (dEx .i64))) [v]) : ∃ l',A2 EB l l' ∧ Rep H' (.seq 4 (l'.map (dEx .i64))) [v] :=
 seq_chgS u (fun x _ => ex_chgS u S x) (fun x y _ _ => txt_ex x) h
theorem sm_chgS (u : ChgS Sp H H') (S : Spc E Sp H H') (s : Sm) : ∀ b off cs cs',MemAt H b off cs → Rep H (dSm .i64 s) cs → Cor Sp b off cs cs' → ∃ s',SB s s' ∧ Rep H' (dSm .i64 s') cs' := by
 induction s using Sm.ind with | _ kd nm hd ex th el iht ihe
 intro b off cs cs' hm h hc;obtain ⟨p,c,p1,c1,p2,c2,rfl,hx,ht,he,hn,hh⟩ := sm_open h;obtain ⟨v1,q1,rfl,k1,hc⟩ := hc;obtain ⟨v2,q2,rfl,k2,hc⟩ := hc;obtain ⟨v3,q3,rfl,k3,hc⟩ := hc;obtain ⟨v4,q4,rfl,k4,hc⟩ := hc;obtain ⟨v5,q5,rfl,k5,hc⟩ := hc;obtain ⟨v6,q6,rfl,k6,hc⟩ := hc;obtain rfl : q6 = [] := hc;obtain ⟨kd',rfl⟩ := S.u k1;obtain ⟨nm',rfl,hn'⟩ := S.s hn k2;obtain ⟨hd',rfl,hh'⟩ := S.s hh k3;obtain ⟨e2,h2,r2⟩ := exs_chgS u S hx
 obtain ⟨e3,h3,r3⟩ : ∃ l,XB ex l ∧ Rep H' (.seq 4 (l.map (dEx .i64))) [v4] := by
  rcases k4 with k4 | k4
  ·rw [kin_l k4];exact ⟨e2,h2.xb,r2⟩
  ·exact S.ex b off kd nm hd _ _ _ _ ex e2 k4 hm hx h2 r2
 obtain ⟨t3,h4,r4⟩ : ∃ l,LB th l ∧ Rep H' (.seq 6 (l.map (dSm .i64))) [v5] := by
  rcases k5 with k5 | k5
  ·rw [kin_l k5];obtain ⟨l,a,r⟩ := seq_chgS u iht (fun x y _ _ => txt_sm x) ht;exact ⟨l,a.lb,r⟩
  ·exact S.th b off kd nm hd _ _ _ _ th k5 hm ⟨_,_,_,rfl⟩ ht
 obtain ⟨l3,h5,r5⟩ : ∃ l,LB el l ∧ Rep H' (.seq 6 (l.map (dSm .i64))) [v6] := by
  rcases k6 with k6 | k6
  ·rw [kin_l k6];obtain ⟨l,a,r⟩ := seq_chgS u ihe (fun x y _ _ => txt_sm x) he;exact ⟨l,a.lb,r⟩
  ·exact S.el b off kd nm hd _ _ _ _ el k6 hm ⟨_,_,_,rfl⟩ he
 exact ⟨.mk kd' nm' hd' e3 t3 l3,sb_mk h3 h4 h5,sm_shut hn' hh' r3 r4 r5⟩
theorem sms_chgS (u : ChgS Sp H H') (S : Spc E Sp H H') {l : List Sm} {v : Value} (h : Rep H (.seq 6 (l.map (dSm .i64))) [v]) : ∃ l',LB l l' ∧ Rep H' (.seq 6 (l'.map (dSm .i64))) [v] := by
 obtain ⟨l',a,r⟩ := seq_chgS u (fun x _ => sm_chgS u S x) (fun x y _ _ => txt_sm x) h;exact ⟨l',a.lb,r⟩
theorem strs_chgS (u : ChgS Sp H H') (S : Spc E Sp H H') {l : List Str} {v : Value} (h : Rep H (.seq 1 (l.map dStr)) [v]) : ∃ l' : List Str,l'.length = l.length ∧ Rep H' (.seq 1 (l'.map dStr)) [v] := by
 obtain ⟨l',a,r⟩ := seq_chgS (Q := fun _ _ => True) u (fun x _ b off cs cs' hm h hc => by
  obtain ⟨rfl,hx⟩ := str_open h;obtain ⟨v1,q1,rfl,k1,hc⟩ := hc;obtain rfl : q1 = [] := hc;obtain ⟨s,rfl,hs⟩ := S.s hx k1;exact ⟨s,trivial,str_shut hs⟩) (fun x y _ _ => rfl) h
 exact ⟨l',a.len,r⟩
theorem hd_chgS (u : ChgS Sp H H') (S : Spc E Sp H H') (x : Hd) : ∀ b off cs cs',MemAt H b off cs → Rep H (dHd .i64 x) cs → Cor Sp b off cs cs' → ∃ y,HB x y ∧ Rep H' (dHd .i64 y) cs' := by
 intro b off cs cs' hm h hc;obtain ⟨p1,c1,p2,c2,rfl,hn,h1,h2⟩ := hd_open h;obtain ⟨v1,q1,rfl,k1,hc⟩ := hc;obtain ⟨v2,q2,rfl,k2,hc⟩ := hc;obtain ⟨v3,q3,rfl,k3,hc⟩ := hc;obtain rfl : q3 = [] := hc;obtain ⟨nm',rfl,hn'⟩ := S.s hn k1
 obtain ⟨ps',a1,r1⟩ : ∃ l : List Str,l.length ≤ x.ps.length + 1 ∧ Rep H' (.seq 1 (l.map dStr)) [v2] := by
  rcases k2 with k2 | k2
  ·rw [kin_l k2];obtain ⟨l,a,r⟩ := strs_chgS u S h1;exact ⟨l,by omega,r⟩
  ·exact S.ps b off _ _ _ _ _ k2 hm h1
 obtain ⟨bd',a2,r2⟩ : ∃ l,LB x.body l ∧ Rep H' (.seq 6 (l.map (dSm .i64))) [v3] := by
  rcases k3 with k3 | k3
  ·rw [kin_l k3];exact sms_chgS u S h2
  ·exact S.bd b off _ _ _ _ _ k3 hm ⟨_,_,_,rfl⟩ h2
 exact ⟨⟨nm',ps',bd'⟩,⟨a1,a2⟩,hd_shut (x := ⟨nm',ps',bd'⟩) hn' r1 r2⟩
theorem hds_chgS (u : ChgS Sp H H') (S : Spc E Sp H H') {l : List Hd} {v : Value} (h : Rep H (.seq 3 (l.map (dHd .i64))) [v]) : ∃ l',A2 HB l l' ∧ Rep H' (.seq 3 (l'.map (dHd .i64))) [v] :=
 seq_chgS u (fun x _ => hd_chgS u S x) (fun x y _ _ => rfl) h
theorem vb_txt {x y : List Hd} (h : VB E x y) (k : (dVs .i64 y).txt = true) : (dVs .i64 x).txt = true := by
 rcases h with h | ⟨_,rfl⟩
 ·exact h.txt (g := dHd .i64) (fun x y _ _ => rfl) k
 ·cases k
theorem vs_chgS (u : ChgS Sp H H') (S : Spc E Sp H H') (x : List Hd) : ∀ b off cs cs',MemAt H b off cs → Rep H (dVs .i64 x) cs → Cor Sp b off cs cs' → ∃ y,VB E x y ∧ Rep H' (dVs .i64 y) cs' := by
 intro b off cs cs' hm h hc;obtain ⟨p,c,rfl,h1⟩ := vs_open h;obtain ⟨v1,q1,rfl,k1,hc⟩ := hc;obtain rfl : q1 = [] := hc;rcases k1 with k1 | k1
 ·rw [kin_l k1];obtain ⟨l,a,r⟩ := hds_chgS u S h1;exact ⟨l,.inl a,r⟩
 ·exact S.vs b off _ _ x k1 hm h1
theorem vss_chgS (u : ChgS Sp H H') (S : Spc E Sp H H') {l : List (List Hd)} {v : Value} (h : Rep H (.seq 1 (l.map (dVs .i64))) [v]) : ∃ l',A2 (VB E) l l' ∧ Rep H' (.seq 1 (l'.map (dVs .i64))) [v] :=
 seq_chgS u (fun x _ => vs_chgS u S x) (fun x y h k => vb_txt h k) h
theorem vars_chgS (u : ChgS Sp H H') (S : Spc E Sp H H') {l : List Vr} {v : Value} (h : Rep H (.seq 3 (l.map (dVr .i64))) [v]) : ∃ l' : List Vr,l'.length = l.length ∧ Rep H' (.seq 3 (l'.map (dVr .i64))) [v] := by
 obtain ⟨l',a,r⟩ := seq_chgS (Q := fun _ _ => True) u (fun x _ b off cs cs' hm h hc => by
  obtain ⟨rfl,hx⟩ := vr_open h;obtain ⟨v1,q1,rfl,k1,hc⟩ := hc;obtain ⟨v2,q2,rfl,k2,hc⟩ := hc;obtain ⟨v3,q3,rfl,k3,hc⟩ := hc;obtain rfl : q3 = [] := hc;obtain ⟨s,rfl,hs⟩ := S.s hx k1;obtain ⟨t,rfl⟩ := S.u k2;obtain ⟨i,rfl⟩ := S.i k3;exact ⟨⟨s,t,i⟩,trivial,vr_shut (x := ⟨s,t,i⟩) hs⟩) (fun x y _ _ => rfl) h
 exact ⟨l',a.len,r⟩
theorem fgs_chgS (u : ChgS Sp H H') (S : Spc E Sp H H') {l : List Fg} {v : Value} (h : Rep H (.seq 2 (l.map dFg)) [v]) : ∃ l' : List Fg,l'.length = l.length ∧ Rep H' (.seq 2 (l'.map dFg)) [v] := by
 obtain ⟨l',a,r⟩ := seq_chgS (Q := fun _ _ => True) u (fun x _ b off cs cs' hm h hc => by
  obtain ⟨rfl,hx⟩ := fg_open h;obtain ⟨v1,q1,rfl,k1,hc⟩ := hc;obtain ⟨v2,q2,rfl,k2,hc⟩ := hc;obtain rfl : q2 = [] := hc;obtain ⟨s,rfl,hs⟩ := S.s hx k1;rw [S.b k2];exact ⟨⟨s,x.init⟩,trivial,fg_shut (x := ⟨s,x.init⟩) hs⟩) (fun x y _ _ => rfl) h
 exact ⟨l',a.len,r⟩
theorem lks_chgS (u : ChgS Sp H H') (S : Spc E Sp H H') {l : List Lk} {v : Value} (h : Rep H (.seq 3 (l.map dLk)) [v]) : ∃ l' : List Lk,l'.length = l.length ∧ Rep H' (.seq 3 (l'.map dLk)) [v] := by
 obtain ⟨l',a,r⟩ := seq_chgS (Q := fun _ _ => True) u (fun x _ b off cs cs' hm h hc => by
  obtain ⟨rfl,hx,hy⟩ := lk_open h;obtain ⟨v1,q1,rfl,k1,hc⟩ := hc;obtain ⟨v2,q2,rfl,k2,hc⟩ := hc;obtain ⟨v3,q3,rfl,k3,hc⟩ := hc;obtain rfl : q3 = [] := hc;obtain ⟨s,rfl,hs⟩ := S.s hx k1;obtain ⟨t,rfl,ht⟩ := S.s hy k2;obtain ⟨i,rfl⟩ := S.i k3;exact ⟨⟨s,t,i⟩,trivial,lk_shut (x := ⟨s,t,i⟩) hs ht⟩) (fun x y _ _ => rfl) h
 exact ⟨l',a.len,r⟩
theorem cp_chgS (u : ChgS Sp H H') (S : Spc E Sp H H') (x : Cp) : ∀ b off cs cs',MemAt H b off cs → Rep H (dCp .i64 x) cs → Cor Sp b off cs cs' → ∃ y,CB E x y ∧ Rep H' (dCp .i64 y) cs' := by
 intro b off cs cs' hm h hc;obtain ⟨p1,c1,p2,c2,rfl,hn,h1,h2⟩ := cp_open h;obtain ⟨v1,q1,rfl,k1,hc⟩ := hc;obtain ⟨v2,q2,rfl,k2,hc⟩ := hc;obtain ⟨v3,q3,rfl,k3,hc⟩ := hc;obtain rfl : q3 = [] := hc;obtain ⟨nm',rfl,hn'⟩ := S.s hn k1
 obtain ⟨vr',a1,r1⟩ : ∃ l : List Vr,(l.length = x.vars.length ∨ E ∧ l = []) ∧ Rep H' (.seq 3 (l.map (dVr .i64))) [v2] := by
  rcases k2 with k2 | k2
  ·rw [kin_l k2];obtain ⟨l,a,r⟩ := vars_chgS u S h1;exact ⟨l,.inl a,r⟩
  ·exact S.va b off _ _ _ _ x k2 hm h1 h2
 obtain ⟨vs',a2,r2⟩ : ∃ l,(A2 (VB E) x.vers l ∨ E ∧ l = []) ∧ Rep H' (.seq 1 (l.map (dVs .i64))) [v3] := by
  rcases k3 with k3 | k3
  ·rw [kin_l k3];obtain ⟨l,a,r⟩ := vss_chgS u S h2;exact ⟨l,.inl a,r⟩
  ·exact S.ve b off _ _ _ _ x k3 hm h1 h2
 exact ⟨⟨nm',vr',vs'⟩,⟨a1,a2⟩,cp_shut (x := ⟨nm',vr',vs'⟩) hn' r1 r2⟩
theorem ft_chgS (u : ChgS Sp H H') (S : Spc E Sp H H') {f : Ft} {cs : List Value} (h : Rep H (dFt .i64 f) cs) : ∃ f',FB E f f' ∧ Rep H' (dFt .i64 f') cs := by
 obtain ⟨p1,c1,p2,c2,p3,c3,rfl,hn,h1,h2,h3⟩ := ft_open h;obtain ⟨l1,a1,r1⟩ := fgs_chgS u S h1;obtain ⟨l2,a2,r2⟩ := lks_chgS u S h2;obtain ⟨l3,a3,r3⟩ := seq_chgS u (fun x _ => cp_chgS u S x) (fun x y _ _ => rfl) h3;exact ⟨⟨f.nm,l1,l2,l3⟩,⟨rfl,a1,a2,a3⟩,ft_shut (x := ⟨f.nm,l1,l2,l3⟩) hn r1 r2 r3⟩
end
structure bndH (M D : Nat) (h : Hd) : Prop where
 ps : h.ps.length ≤ M
 cnt : Sm.counts h.body ≤ 100
 dep : Sm.deeps h.body ≤ 100
 all : Sm.alls (okSD 100 D) h.body = true
structure bndC (M D : Nat) (c : Cp) : Prop where
 vars : c.vars.length ≤ 100
 vers : c.vers.length < 99
 all : ∀ v ∈ c.vers,v.length ≤ 100 ∧ ∀ h ∈ v,bndH M D h
structure bndF (M D : Nat) (f : Ft) : Prop where
 flags : f.flags.length ≤ 100
 links : f.links.length ≤ 100
 comps : f.comps.length ≤ 100
 all : ∀ c ∈ f.comps,bndC M D c
theorem deeps_le {D : Nat} : ∀ {l : List Ex},(∀ e ∈ l,e.depth ≤ D) → Ex.deeps l ≤ D
 | [],_ => by simp [Ex.deeps]
 | e :: r,h => by
  have h1 := h e (.head _);have h2 := deeps_le fun x hx => h x (.tail _ hx);simp only [Ex.deeps];omega
theorem okS2_SD {N : Nat} : ∀ s,okS2 N s = true → okSD N 64 s = true
 | .mk kd nm hd ex th el,h => by
  simp only [okS2,okSD,Bool.and_eq_true,decide_eq_true_eq,List.all_eq_true] at h ⊢;refine ⟨⟨h.1,deeps_le fun e he => ?_⟩,fun e he => ?_⟩
  ·have := h.2 e he;simp only [okE,Bool.and_eq_true,decide_eq_true_eq] at this;exact this.1
  ·have := h.2 e he;simp only [okE,Bool.and_eq_true] at this;exact this.2
theorem bndF_of {f : Ft} (h : okFt 100 f) (hv : ∀ c ∈ f.comps,c.vers.length < 99) : bndF 100 64 f :=
 ⟨h.flags,h.links,h.comps,fun c hc => ⟨(h.all c hc).vars,hv c hc,fun v hm => ⟨((h.all c hc).all v hm).len,fun x hx => by
  have k := ((h.all c hc).all v hm).all x hx;exact ⟨k.ps,k.body.cnt,k.body.dep,salls_imp okS2_SD _ k.body.all⟩⟩⟩⟩
theorem HB.bnd {M D : Nat} {x y : Hd} (h : HB x y) (k : bndH M D x) : bndH (M + 1) (2 * D) y := by
 obtain ⟨h1,h2,h3,h4⟩ := h;exact ⟨by have := k.ps;omega,by have := k.cnt;omega,by have := k.dep;omega,h4 _ _ k.all⟩
theorem CB.bnd {E : Prop} {M D : Nat} {x y : Cp} (h : CB E x y) (k : bndC M D x) : bndC (M + 1) (2 * D) y := by
 obtain ⟨h1,h2⟩ := h;refine ⟨?_,?_,fun v hv => ?_⟩
 ·rcases h1 with h1 | ⟨_,h1⟩
  ·rw [h1];exact k.vars
  ·rw [h1];simp
 ·rcases h2 with h2 | ⟨_,h2⟩
  ·rw [h2.len];exact k.vers
  ·rw [h2];simp
 ·rcases h2 with h2 | ⟨_,h2⟩
  ·obtain ⟨w,hw,h3⟩ := h2.mem v hv;have k2 := k.all w hw;rcases h3 with h3 | ⟨_,rfl⟩
   ·refine ⟨by rw [h3.len];exact k2.1,fun q hq => ?_⟩;obtain ⟨q0,h5,h6⟩ := h3.mem q hq;exact h6.bnd (k2.2 q0 h5)
   ·exact ⟨by simp,fun q hq => by cases hq⟩
  ·rw [h2] at hv;cases hv
theorem FB.bnd {E : Prop} {M D : Nat} {f g : Ft} (h : FB E f g) (k : bndF M D f) : bndF (M + 1) (2 * D) g := by
 obtain ⟨_,h1,h2,h3⟩ := h;refine ⟨by rw [h1];exact k.flags,by rw [h2];exact k.links,by rw [h3.len];exact k.comps,fun c hc => ?_⟩;obtain ⟨c0,hc0,h4⟩ := h3.mem c hc;exact h4.bnd (k.all c0 hc0)
theorem okSD_1 {N D : Nat} (hD : D ≤ 1000000) : ∀ s,okSD N D s = true → okS1 s = true
 | .mk kd nm hd ex th el,h => by
  simp only [okS1,okSD,Bool.and_eq_true,decide_eq_true_eq,List.all_eq_true] at h ⊢;intro x hx;have := deeps_mem hx;omega
theorem okSD_3 {N D : Nat} : ∀ s,okSD N D s = true → okS3 1000 s = true ∨ 1000 < N
 | .mk kd nm hd ex th el,h => by
  simp only [okS3,okSD,Bool.and_eq_true,decide_eq_true_eq,List.all_eq_true] at h ⊢
  by_cases hn : 1000 < N
  ·exact .inr hn
  ·exact .inl ⟨by omega,h.2⟩
theorem bndF.sy {M D : Nat} {f : Ft} (k : bndF M D f) (hM : M ≤ 1000) : syFt 1000 f :=
 ⟨by have := k.flags;omega,by have := k.links;omega,by have := k.comps;omega,fun c hc => by
  have kc := k.all c hc;refine ⟨by have := kc.vars;omega,by have := kc.vers;omega,fun v hv => ?_⟩;have kv := kc.all v hv;refine ⟨by have := kv.1;omega,fun h hh => ?_⟩;have kh := kv.2 h hh;exact ⟨by have := kh.ps;omega,by have := kh.cnt;omega,by have := kh.dep;omega,salls_imp (fun s hs => (okSD_3 s hs).resolve_right (by decide)) _ kh.all⟩⟩
theorem bndF.ev {M D : Nat} {f : Ft} (k : bndF M D f) (hD : D ≤ 1000000) : evH okH f = true := by
 simp only [evH,List.all_eq_true];intro c hc v hv h hh;have kh := ((k.all c hc).all v hv).2 h hh;simp only [okH,Bool.and_eq_true,decide_eq_true_eq];exact ⟨⟨by have := kh.cnt;omega,by have := kh.dep;omega⟩,salls_imp (okSD_1 hD) _ kh.all⟩
theorem ft_names {H : Hp} {k : IntKind} {f : Ft} {cs : List Value} (h : Rep H (dFt k f) cs) : ∀ c ∈ f.comps,c.nm.length ≤ 1000000 := by
 intro c hc;obtain ⟨p1,c1,p2,c2,p3,c3,rfl,hn,h1,h2,h3⟩ := ft_open h;obtain ⟨i,hi,rfl⟩ := List.getElem_of_mem hc;obtain ⟨b,o,cs,_,r,_⟩ := h3.elem (map_at hi);obtain ⟨_,_,_,_,_,hm,_⟩ := cp_open r;exact hm
/-! ### One cell -/
theorem chgS_put {Sp : SpT} {H : Hp} {b off : Nat} {arr : Array Value} {t : TypeId} {m m' : Nat × Nat} {v : Value} (hH : H b = some (.cells arr t m)) (h : ∀ u,arr[off]? = some u → Kin u v ∨ Sp b off u v) : ChgS Sp H (putH H b (.cells (arr.setIfInBounds off v) t m')) := by
 refine ⟨fun c a t' k e => ?_,rfl⟩
 by_cases hc : c = b
 ·subst hc;rw [hH] at e;cases e;refine ⟨arr.setIfInBounds off v,m',putH_at,fun j u hu => ?_⟩
  by_cases hj : off = j
  ·subst hj
   have hl : off < arr.size := by
    rcases Nat.lt_or_ge off arr.size with h1 | h1
    ·exact h1
    ·rw [Array.getElem?_eq_none h1] at hu;cases hu
   exact ⟨v,by rw [Array.getElem?_setIfInBounds_self_of_lt hl],h u hu⟩
  ·exact ⟨u,by rw [Array.getElem?_setIfInBounds_ne hj];exact hu,.inl (.same u)⟩
 ·exact ⟨a,k,by rw [putH_ne hc];exact e,fun j u hu => ⟨u,hu,.inl (.same u)⟩⟩
def nilS : SpT := fun _ _ u u' => (∃ p n c,u = .slice p n c) ∧ u' = .slice none 0 0
theorem nilS_spc {H H' : Hp} : Spc True nilS H H' := by
 have e4 : ∀ z,Rep H' (.seq z []) [.slice none 0 0] := fun z => .empty (by decide);refine ⟨fun _ _ _ _ h => h.1,?_,?_,?_,?_,?_,?_,?_,?_,?_⟩
 ·rintro _ _ _ _ _ _ _ _ _ ⟨_,rfl⟩ _ _ _ _;exact ⟨[],⟨by simp [Ex.deeps],fun _ _ => ⟨by simp,rfl⟩⟩,e4 _⟩
 ·rintro _ _ _ _ _ _ _ _ _ _ _ ⟨_,rfl⟩ _ _ _ _;exact ⟨[],⟨by simp,by simp [Ex.deeps],fun _ => rfl⟩,e4 _⟩
 ·rintro _ _ _ _ _ _ _ _ _ _ ⟨_,rfl⟩ _ _ _;exact ⟨[],lb_nil,e4 _⟩
 ·rintro _ _ _ _ _ _ _ _ _ _ ⟨_,rfl⟩ _ _ _;exact ⟨[],lb_nil,e4 _⟩
 ·rintro _ _ _ _ _ _ _ ⟨_,rfl⟩ _ _;exact ⟨[],by simp,e4 _⟩
 ·rintro _ _ _ _ _ _ _ ⟨_,rfl⟩ _ _ _;exact ⟨[],lb_nil,e4 _⟩
 ·rintro _ _ _ _ _ _ _ ⟨_,rfl⟩ _ _ _;exact ⟨[],.inr ⟨trivial,rfl⟩,e4 _⟩
 ·rintro _ _ _ _ _ _ _ ⟨_,rfl⟩ _ _ _;exact ⟨[],.inr ⟨trivial,rfl⟩,e4 _⟩
 ·rintro _ _ _ _ _ ⟨_,rfl⟩ _ _;exact ⟨[],.inr ⟨trivial,rfl⟩,e4 _⟩
theorem memAt_put {H : Hp} {b off : Nat} {arr : Array Value} {t : TypeId} {m : Nat × Nat} {v : Value} (ho : off < arr.size) : MemAt (putH H b (.cells (arr.setIfInBounds off v) t m)) b off [v] := by
 refine ⟨_,t,m,putH_at,fun j u e => ?_⟩;cases j with
 | zero => simp at e;subst e;rw [Nat.add_zero,Array.getElem?_setIfInBounds_self_of_lt ho]
 | succ j => simp at e
theorem memAt_in {H : Hp} {b off : Nat} {x y : List Value} (h : MemAt H b off x) (k : MemAt H b off y) (hl : x.length = y.length) : x = y := by
 obtain ⟨arr,t,m,h1,h2⟩ := h;obtain ⟨arr',t',m',k1,k2⟩ := k;rw [h1] at k1;cases k1;apply List.ext_getElem? ;intro j;cases e : x[j]? with
 | none =>
  have := List.getElem?_eq_none_iff.1 e;exact (List.getElem?_eq_none_iff.2 (by omega)).symm
 | some u =>
  have hj := (List.getElem?_eq_some_iff.1 e).1;have h3 := h2 j u e;have h4 : y[j]? = some y[j] := List.getElem?_eq_getElem (by omega);have h5 := k2 j _ h4;rw [h3] at h5;rw [h4];exact h5
theorem memAt_one {H : Hp} {b off : Nat} {cs : List Value} (h : MemAt H b off cs) {j : Nat} {u : Value} (e : cs[j]? = some u) : MemAt H b (off + j) [u] := by
 obtain ⟨arr,t,m,h1,h2⟩ := h;refine ⟨arr,t,m,h1,fun i w k => ?_⟩;cases i with
 | zero => simp at k;subst k;exact h2 j u e
 | succ i => simp at k
theorem memAt_lt {H : Hp} {b off : Nat} {cs : List Value} {arr : Array Value} {t : TypeId} {m : Nat × Nat} (h : MemAt H b off cs) (k : H b = some (.cells arr t m)) {j : Nat} (hj : j < cs.length) : off + j < arr.size := by
 obtain ⟨arr',t',m',h1,h2⟩ := h;rw [h1] at k;cases k;have := h2 j _ (List.getElem?_eq_getElem hj);exact (Array.getElem?_eq_some_iff.1 this).1
theorem checkF_ne {f : Ft} (h : smlF f = false ∨ namF f = false ∨ frmF f = false) : checkF f ≠ 0 := by
 unfold checkF;rcases h with h | h | h
 ·rw [if_pos h];decide
 ·by_cases h1 : smlF f = false
  ·rw [if_pos h1];decide
  ·rw [if_neg h1,if_pos h];decide
 ·by_cases h1 : smlF f = false
  ·rw [if_pos h1];decide
  ·by_cases h2 : namF f = false
   ·rw [if_neg h1,if_pos h2];decide
   ·rw [if_neg h1,if_neg h2,if_pos h];decide
theorem nameB_one : nameB [49] = false := by decide +kernel
theorem nameB_if : nameB [105,102] = false := by decide +kernel
theorem shape_name {f : Ft} {i : Nat} (hi : i < f.comps.length) (h : f.comps[i].nm = [49]) : checkF f ≠ 0 := by
 refine checkF_ne (.inr<|.inl ?_);have hb : f.comps.all (fun c => nameB c.nm && c.vars.all fun v => nameB v.nm) = false := lall_bad hi (by rw [h,nameB_one];rfl);rw [namF,hb,Bool.and_false,Bool.false_and]
theorem shape_type {f : Ft} {i : Nat} (hi : i < f.comps.length) (hj : 0 < f.comps[i].vars.length) (h : (f.comps[i].vars[0]).ty = 4) : checkF f ≠ 0 := by
 refine checkF_ne (.inr<|.inr ?_)
 have hv : frmV (f.comps[i].vars[0]) = false := by
  rw [frmV,h];rfl
 have hb : f.comps.all (fun c => c.vars.all frmV) = false := lall_bad hi (lall_bad hj hv);rw [frmF,hb,Bool.and_false,Bool.false_and]
theorem shape_vers {f : Ft} {i : Nat} (hi : i < f.comps.length) (h : f.comps[i].vers = []) : checkF f ≠ 0 := by
 refine checkF_ne (.inl ?_)
 have hs : smlC f.comps[i] = false := by
  rw [smlC,h];simp
 have hb : f.comps.all smlC = false := lall_bad hi hs;rw [smlF,hb,Bool.false_and,Bool.and_false]
theorem shape_fleet {f : Ft} (h : f.nm = [105,102]) : checkF f ≠ 0 := by
 refine checkF_ne (.inr<|.inl ?_);rw [namF,h,nameB_if];simp only [Bool.false_and]
def noS : SpT := fun _ _ _ _ => False
theorem noS_spc {H H' : Hp} : Spc False noS H H' := by
 refine ⟨fun _ _ _ _ h => h.elim,?_,?_,?_,?_,?_,?_,?_,?_,?_⟩ <;> (intros;rename noS _ _ _ _ => h;exact h.elim)
theorem strV_inj {a b : Str} (h : strV a = strV b) : a = b := by
 unfold strV at h;injection h with h
 injection h with h
 exact congrArg Array.toList h
theorem varsP_pos (p : Pln) : ∀ c ∈ (buildF p).comps,0 < c.vars.length := by
 intro c hc;simp only [buildF,cmpsP] at hc;obtain ⟨i,hi,rfl⟩ := List.mem_mapIdx.1 hc;show 0 < (varsP _).length;simp only [varsP,List.length_append,List.length_cons];omega
section
variable {H : Hp} {f : Ft} {b o n c i : Nat} {arr : Array Value} {t : TypeId} {m : Nat × Nat} {s1 s2 : Value}
theorem fb_len {E : Prop} {f g : Ft} (h : FB E f g) : g.comps.length = f.comps.length := h.2.2.2.len
theorem shp_name (h : Rep H (dFt .i64 f) [strV f.nm,s1,s2,.slice (some ⟨b,o,none⟩) n c]) (hi : i < f.comps.length) (hH : H b = some (.cells arr t m)) {H3 : Hp} (e3 : H3 = putH H b (.cells (arr.setIfInBounds (o + i * 3) (strV [49])) t (0,0))) :
 ∃ g,FB False f g ∧ Rep H3 (dFt .i64 g) [strV f.nm,s1,s2,.slice (some ⟨b,o,none⟩) n c] ∧ checkF g ≠ 0 := by
 subst e3;obtain ⟨_,_,_,_,p3,c3,e,hn,h1,h2,h3⟩ := ft_open h;simp only [List.cons.injEq,Value.slice.injEq,and_true,true_and] at e;obtain ⟨-,-,rfl,rfl,rfl⟩ := e;obtain ⟨b',o',cs,e1,r,hl,hm⟩ := h3.elem (map_at hi);cases e1;obtain ⟨q1,d1,q2,d2,rfl,hnm,_,_⟩ := cp_open r;have hlt : o + i * 3 < arr.size := by have := memAt_lt hm hH (j := 0) (by simp);simpa using this
 have hu : ∀ u,arr[o + i * 3]? = some u → Kin u (strV [49]) ∨ noS b (o + i * 3) u (strV [49]) := by
  intro u hu;obtain ⟨arr',t',m',k1,k2⟩ := hm;rw [hH] at k1;cases k1;have := k2 0 _ rfl;rw [Nat.add_zero,hu] at this;cases this;exact .inl (.str _ _ (by decide))
 obtain ⟨g,hg,rg⟩ := ft_chgS (chgS_put (m' := (0,0)) hH hu) noS_spc h;refine ⟨g,hg,rg,?_⟩;have hi' : i < g.comps.length := by rw [fb_len hg];exact hi
 refine shape_name hi' ?_;obtain ⟨_,_,_,_,p3,c3,e,_,_,_,h3'⟩ := ft_open rg;simp only [List.cons.injEq,Value.slice.injEq,and_true,true_and] at e;obtain ⟨-,-,-,rfl,-,rfl⟩ := e;obtain ⟨b',o',cs,e1,r',hl',hm'⟩ := h3'.elem (map_at hi');cases e1;obtain ⟨q1,d1,q2,d2,rfl,_,_,_⟩ := cp_open r';have k1 := memAt_one hm' (j := 0) rfl;have k2 := memAt_in k1 (memAt_put hlt) rfl;exact strV_inj (List.cons.inj k2).1
theorem shp_vers (h : Rep H (dFt .i64 f) [strV f.nm,s1,s2,.slice (some ⟨b,o,none⟩) n c]) (hi : i < f.comps.length) (hH : H b = some (.cells arr t m)) {H3 : Hp} (e3 : H3 = putH H b (.cells (arr.setIfInBounds (o + i * 3 + 2) (.slice none 0 0)) t (0,0))) :
 ∃ g,FB True f g ∧ Rep H3 (dFt .i64 g) [strV f.nm,s1,s2,.slice (some ⟨b,o,none⟩) n c] ∧ checkF g ≠ 0 := by
 subst e3;obtain ⟨_,_,_,_,p3,c3,e,hn,h1,h2,h3⟩ := ft_open h;simp only [List.cons.injEq,Value.slice.injEq,and_true,true_and] at e;obtain ⟨-,-,rfl,rfl,rfl⟩ := e;obtain ⟨b',o',cs,e1,r,hl,hm⟩ := h3.elem (map_at hi);cases e1;obtain ⟨q1,d1,q2,d2,rfl,hnm,_,_⟩ := cp_open r;have hlt : o + i * 3 + 2 < arr.size := memAt_lt hm hH (j := 2) (by simp)
 have hu : ∀ u,arr[o + i * 3 + 2]? = some u → Kin u (.slice none 0 0) ∨ nilS b (o + i * 3 + 2) u (.slice none 0 0) := by
  intro u hu;obtain ⟨arr',t',m',k1,k2⟩ := hm;rw [hH] at k1;cases k1;have := k2 2 _ rfl;rw [hu] at this;cases this;exact .inr ⟨⟨_,_,_,rfl⟩,rfl⟩
 obtain ⟨g,hg,rg⟩ := ft_chgS (chgS_put (m' := (0,0)) hH hu) nilS_spc h;refine ⟨g,hg,rg,?_⟩;have hi' : i < g.comps.length := by rw [fb_len hg];exact hi
 refine shape_vers hi' ?_;obtain ⟨_,_,_,_,p3,c3,e,_,_,_,h3'⟩ := ft_open rg;simp only [List.cons.injEq,Value.slice.injEq,and_true,true_and] at e;obtain ⟨-,-,-,rfl,-,rfl⟩ := e;obtain ⟨b',o',cs,e1,r',hl',hm'⟩ := h3'.elem (map_at hi');cases e1;obtain ⟨q1,d1,q2,d2,rfl,_,_,_⟩ := cp_open r';have k1 := memAt_one hm' (j := 2) rfl;have k2 := memAt_in k1 (memAt_put hlt) rfl;have k3 := (List.cons.inj k2).1;injection k3 with _ k4 _
 exact List.eq_nil_of_length_eq_zero k4
theorem shp_type {bV oV k cV : Nat} {q2 : Value} {nm : Str} (h : Rep H (dFt .i64 f) [strV f.nm,s1,s2,.slice (some ⟨b,o,none⟩) n c]) (hi : i < f.comps.length) (hm : MemAt H b (o + i * 3) [strV nm,.slice (some ⟨bV,oV,none⟩) k cV,q2]) (hk : 0 < f.comps[i].vars.length) (hH : H bV = some (.cells arr t m)) {H3 : Hp} (e3 : H3 = putH H bV (.cells (arr.setIfInBounds (oV + 1) (.int .i64 4)) t (0,0))) :
 ∃ g,FB False f g ∧ Rep H3 (dFt .i64 g) [strV f.nm,s1,s2,.slice (some ⟨b,o,none⟩) n c] ∧ checkF g ≠ 0 := by
 subst e3;obtain ⟨_,_,_,_,p3,c3,e,hn,h1,h2,h3⟩ := ft_open h;simp only [List.cons.injEq,Value.slice.injEq,and_true,true_and] at e;obtain ⟨-,-,rfl,rfl,rfl⟩ := e;obtain ⟨b',o',cs,e1,r,hl,hm0⟩ := h3.elem (map_at hi);cases e1;obtain ⟨q1,d1,q3,d2,rfl,hnm,hvr,_⟩ := cp_open r;have e2 := memAt_in hm0 hm rfl;simp only [List.cons.injEq,Value.slice.injEq,and_true] at e2;obtain ⟨-,⟨rfl,rfl,rfl⟩,-⟩ := e2;obtain ⟨b',o',cs,e1,rv,hlv,hmv⟩ := hvr.elem (map_at hk);cases e1;obtain ⟨rfl,_⟩ := vr_open rv;have hlt : oV + 1 < arr.size := by have := memAt_lt hmv hH (j := 1) (by simp);simpa using this
 have hu : ∀ u,arr[oV + 1]? = some u → Kin u (.int .i64 4) ∨ noS bV (oV + 1) u (.int .i64 4) := by
  intro u hu;obtain ⟨arr',t',m',k1,k2⟩ := hmv;rw [hH] at k1;cases k1;have := k2 1 _ rfl;rw [Nat.zero_mul,Nat.add_zero,hu] at this;cases this;exact .inl (.int _ _ _ (by decide) (by decide))
 have hch := chgS_put (m' := (0,0)) hH hu;obtain ⟨g,hg,rg⟩ := ft_chgS hch noS_spc h;refine ⟨g,hg,rg,?_⟩;have hi' : i < g.comps.length := by rw [fb_len hg];exact hi
 have hcb := hg.2.2.2.at hi hi'
 have hk' : 0 < g.comps[i].vars.length := by
  rcases hcb.1 with e | ⟨e,_⟩
  ·rw [e];exact hk
  ·exact e.elim
 refine shape_type hi' hk' ?_;obtain ⟨_,_,_,_,p3,c3,e,_,_,_,h3'⟩ := ft_open rg;simp only [List.cons.injEq,Value.slice.injEq,and_true,true_and] at e;obtain ⟨-,-,-,rfl,-,rfl⟩ := e;obtain ⟨b',o',cs,e1,r',hl',hm'⟩ := h3'.elem (map_at hi');cases e1;obtain ⟨q4,d4,q5,d5,rfl,_,hv',_⟩ := cp_open r'
 -- the variables' slice is the same
 obtain ⟨cs2,k1,k2⟩ := memAt_chgS hch hm;obtain ⟨w1,x1,rfl,_,k1⟩ := k1;obtain ⟨w2,x2,rfl,kv,k1⟩ := k1;obtain ⟨w3,x3,rfl,_,k1⟩ := k1;obtain rfl : x3 = [] := k1;have kv2 := kin_l (kv.resolve_right fun h => h);subst kv2;have e3 := memAt_in hm' k2 rfl;simp only [List.cons.injEq,Value.slice.injEq,and_true] at e3;obtain ⟨-,⟨rfl,-,rfl⟩,-⟩ := e3;obtain ⟨b',o',cs,e1,rv',hlv',hmv'⟩ := hv'.elem (map_at hk');cases e1;obtain ⟨rfl,_⟩ := vr_open rv';have j1 := memAt_one hmv' (j := 1) rfl;rw [Nat.zero_mul,Nat.add_zero] at j1;have j2 := memAt_in j1 (memAt_put hlt) rfl;have j3 := (List.cons.inj j2).1;injection j3 with _ j4
 exact UInt8.toNat_inj.1 (by have : ((4 : UInt8).toNat : Int) = 4 := by decide
                             omega)
end
theorem Fx.call10 : callN Tryd.prog 10 = Bool.true := by kernel_rfl
def atN (n : UInt8) (m : Nat) : Nat := if m = 0 then 0 else n.toNat % m
theorem atN_lt {n : UInt8} {m : Nat} (h : 0 < m) : atN n m < m := by
 unfold atN;rw [if_neg (by omega)];exact Nat.mod_lt _ h
theorem gl_at {H : Hp} (n : Nat) (G : Gl H) : Gl (H.at n) := ⟨G.shapes,G.forms,G.words,G.symbols⟩
theorem txtL_map {α : Type} {f : α → D} (h : ∀ x,(f x).txt = false) : ∀ l : List α,D.txtL (l.map f) = false
 | [] => rfl
 | x :: r => by rw [List.map_cons,D.txtL,h x,txtL_map h r];rfl
theorem txt_cd (x : Cd) : (dCd x).txt = false := by
 simp only [dCd,D.txt,D.txtL,txtL_map (f := dU8) (fun _ => rfl),Bool.or_false]
theorem txt_prt (x : Prt) : (dPrt x).txt = false := by
 simp only [dPrt,D.txt,D.txtL,txtL_map txt_cd,Bool.or_false]
theorem txt_pln (x : Pln) : (dPln x).txt = false := by
 simp only [dPln,D.txt,D.txtL,txtL_map (f := dU8) (fun _ => rfl),txtL_map txt_prt,Bool.or_false]
theorem shapes_pb {f : Ft} {c : Nat} (h : c ≠ 0) : frsP noP (probs f c) = ⟨[102,108,101,101,116],f.nm,c⟩ := by
 unfold probs;rw [if_neg h]
 rfl
set_option maxRecDepth 100000 in
theorem at8_any (H : Hp) (n : UInt8) (m : Nat) (hm : m ≤ 9223372036854775807) (w : World) (hA : Agr H w) :
 Calls Tryd.prog 10 #[.int .u8 n.toNat,.int .i64 (m : Nat)] w fun r w' => r = .returned (.int .i64 (atN n m : Nat)) ∧ Ext w w' := by
 have hn := n.toNat_lt;refine Sx.enter (H := H) Tryd.func10 rfl Tryd.ntmps10 rfl hA ?_;refine .sr<|.a Z Z<|.nt<|.sq<|.sr<|.m Z Z<|.yv (.eql Z Z) Z<|.nt<|.cd Z (fun h6 => ?_) (fun h6 => ?_)
 ·try simp only [dt] at h6
  have h0 : m = 0 := by omega
  refine .sr<|.a Z Z<|.nt<|.rt<|.tR<|?_
  exact Sx.ret1 (.inl rfl) rfl (.tmp rfl) fun W t => ⟨by unfold atN;first | (rw [if_pos h0];rfl) | (rw [if_neg h0]),t.ext⟩
 try simp only [df] at h6
 have h0 : ¬ m = 0 := by omega
 refine .sk<|.tN<|.sr<|.m Z Z<|.yv (.conv Z Fx.int5 Fx.int3 (c := ((n.toNat : Nat) : Int)) (w6 (by omega))) Z<|.m Z Z<|.yv (.rem Z Z (by omega) (c := ((n.toNat % m : Nat) : Int)) (tm2 _ _)) Z<|.a Z Z<|.nt<|.rt<|?_
 exact Sx.ret1 (.inl rfl) rfl (.tmp rfl) fun W t => ⟨by unfold atN;first | (rw [if_pos h0];rfl) | (rw [if_neg h0]),t.ext⟩
set_option maxRecDepth 100000 in
theorem typesShapes_any (H : Hp) (G : Gl H) (p : Pln) (how c : UInt8) (cs : List Value) (h : Rep H (dPln p) cs) (w : World) (hA : Agr H w) (hlo : H.lo = w.heap.size) :
 Calls Tryd.prog 4 #[.agg cs.toArray,.int .u8 how.toNat,.int .u8 c.toNat] w fun r w' => r = .returned (.bool true) ∧ Ext w w' := by
 obtain ⟨p1,c1,p2,c2,rfl,_,_⟩ := pln_open h;have hhow := how.toNat_lt;refine Sx.enter (H := H) Tryd.func4 rfl Tryd.ntmps4 rfl hA ?_;refine .sr<|.bx Z Z Z fun b3 => .a Z Z<|.ns<|.yv (.loadW Z Fx.agg25 (.head _) Z) Z<|.ct (X := List Value) Fx.call8 Z (fun W t => build_plan H p _ W h t.agr) Z fun x1 H1 hx1 u1 => ?_
 obtain ⟨q1,d1,q2,d2,q3,d3,rfl,nf,g1,g2,g3⟩ := ft_open hx1;have hcapf := g3.cap;have hb1 : bndF 100 64 (buildF p) := bndF_of (buildF_ok p) fun c hc => (buildF_sm p c hc).2.1;refine .al Fx.zero41 Z fun b7 => .sW .head Z Z Fx.size41 (by simp [Value.oneCell',strV]) Z<|.ns<|.m Z Z<|.yv (.fieldAddr Z Fx.field41_3) Z<|.yv (.load Z Fx.agg39 (.head _) Z) Z<|.yv (.lenSl Fx.sl39 Z) Z<|.yv (.call Fx.call10 Z (fun W t => at8_any _ c (buildF p).comps.length hcapf W t.agr)) Z<|.a Z Z<|.nt<|.cu (X := Hp × Ft × List Value) [(7,_)] ⟨rfl,trivial⟩ (fun z => []) (fun z => z.1) (fun z => [.box b7 z.2.2 41]) (fun z => HUp w H z.1 ∧ Rep z.1 (dFt .i64 z.2.1) z.2.2 ∧ (∃ M D,M ≤ 1000 ∧ D ≤ 1000000 ∧ bndF M D z.2.1) ∧ checkF z.2.1 ≠ 0) ?_ fun z hC => ?_
 ·
  refine .sq<|?_
  have hi : (atN c (buildF p).comps.length) < (buildF p).comps.length := atN_lt (buildF_ok p).pos;obtain ⟨bC,oC,csC,eC,rC,lC,mC,loC⟩ := g3.elemT (map_at hi) rfl;subst eC;obtain ⟨q4,d4,q5,d5,rfl,nmC,hvC,hsC⟩ := cp_open rC;have hbC : w.heap.size ≤ bC := by rw [← hlo,← u1.up.lo];exact loC
  obtain ⟨arC,tC,mkC,hHC0,_⟩ := id mC;have hHC := u1.cells (hA.lt hbC) hHC0;refine .rg<|.m Z Z<|.yv (.rem Z Z (by decide) (c := ((how.toNat % 4 : Nat) : Int)) (by rw [Int.tmod_eq_emod_of_nonneg (by omega)];omega)) Z<|.nt<|.bk<|.sr<|.yv (.eql Z Z) Z<|.a Z Z<|.nt<|.cd Z (fun h23 => ?_) (fun h23 => ?_)
  ·try simp only [dt] at h23
   refine .rg<|.yv (.fieldAddr Z Fx.field41_3) Z<|.yv (.load Z Fx.agg39 (.head _) Z) Z<|.m Z Z<|.yv (.indexSl Fx.sl39 Z Z (i := (atN c (buildF p).comps.length)) Z hi (q := oC + (atN c (buildF p).comps.length) * 3) Z) Z<|.yv (.fieldAddr Z Fx.field49_0) Z<|.stH Z Z Fx.size9 Z hHC hbC (memAt_lt mC hHC (j := 0) (Nat.succ_pos _)) fun H3 e3 => ?_
   obtain ⟨f2,hf2,hx3,hck⟩ := shp_name hx1 hi hHC e3;have u3 : HUp w H H3 := by rw [e3];exact u1.put (hA.lt hbC) hbC
   exact .nl<|.bN<|.tN<|.me (H3,f2,_) trivial ⟨rfl,trivial⟩ (fun _ s => s.pick [0] [_] Z Z) ⟨u3,hx3,⟨101,128,by decide,by decide,hf2.bnd hb1⟩,hck⟩
  try simp only [df] at h23
  refine .sr<|.yv (.eql Z Z) Z<|.a Z Z<|.nt<|.cd Z (fun h30 => ?_) (fun h30 => ?_)
  ·try simp only [dt] at h30
   have hk := varsP_pos p _ (List.getElem_mem hi);obtain ⟨bV,oV,csV,eV,rV,lV,mV,loV⟩ := hvC.elemT (map_at hk) rfl;subst eV;have hbV : w.heap.size ≤ bV := by rw [← hlo,← u1.up.lo];exact loV
   obtain ⟨arV,tV,mkV,hHV0,_⟩ := id mV;have hHV := u1.cells (hA.lt hbV) hHV0;have hoV : oV + 1 < arV.size := by have := memAt_lt mV hHV (j := 1) (by omega);omega
   refine .rg<|.yv (.fieldAddr Z Fx.field41_3) Z<|.yv (.load Z Fx.agg39 (.head _) Z) Z<|.m Z Z<|.yv (.indexSl Fx.sl39 Z Z (i := (atN c (buildF p).comps.length)) Z hi (q := oC + (atN c (buildF p).comps.length) * 3) Z) Z<|.yv (.fieldAddr Z Fx.field49_1) Z<|.yv (.loadM Z Fx.agg46 mC (k := 1) Z Z) Z<|.yv (.indexSl Fx.sl46 Z Z (i := 0) Z hk (q := oV) (by omega)) Z<|.yv (.fieldAddr Z Fx.field51_1) Z<|.stH Z Z Fx.size3 Z hHV hbV hoV fun H3 e3 => ?_
   obtain ⟨f2,hf2,hx3,hck⟩ := shp_type hx1 hi mC hk hHV e3;have u3 : HUp w H H3 := by rw [e3];exact u1.put (hA.lt hbV) hbV
   exact .nl<|.bN<|.tN<|.me (H3,f2,_) trivial ⟨rfl,trivial⟩ (fun _ s => s.pick [0] [_] Z Z) ⟨u3,hx3,⟨101,128,by decide,by decide,hf2.bnd hb1⟩,hck⟩
  try simp only [df] at h30
  refine .sr<|.yv (.eql Z Z) Z<|.a Z Z<|.nt<|.cd Z (fun h40 => ?_) (fun h40 => ?_)
  ·try simp only [dt] at h40
   refine .rg<|.yv (.fieldAddr Z Fx.field41_3) Z<|.yv (.load Z Fx.agg39 (.head _) Z) Z<|.m Z Z<|.yv (.indexSl Fx.sl39 Z Z (i := (atN c (buildF p).comps.length)) Z hi (q := oC + (atN c (buildF p).comps.length) * 3) Z) Z<|.yv (.fieldAddr Z Fx.field49_2) Z<|.stH Z Z Fx.size47 Z hHC hbC (memAt_lt mC hHC (j := 2) (Nat.lt_succ_self _)) fun H3 e3 => ?_
   obtain ⟨f2,hf2,hx3,hck⟩ := shp_vers hx1 hi hHC e3;have u3 : HUp w H H3 := by rw [e3];exact u1.put (hA.lt hbC) hbC
   exact .nl<|.bN<|.tN<|.me (H3,f2,_) trivial ⟨rfl,trivial⟩ (fun _ s => s.pick [0] [_] Z Z) ⟨u3,hx3,⟨101,128,by decide,by decide,hf2.bnd hb1⟩,hck⟩
  try simp only [df] at h40
  refine .rg<|.yv (.fieldAddr Z Fx.field41_0) Z<|.st .head Z Z Fx.size9 Z (nb Z) Z<|?_
  have hx3 := ft_shut (k := .i64) (x := ⟨[105,102],(buildF p).flags,(buildF p).links,(buildF p).comps⟩) (show 2 ≤ 1000000 by decide) g1 g2 g3;exact .nl<|.bN<|.tN<|.me (H1,_,_) trivial ⟨rfl,trivial⟩ (fun _ s => s.pick [0] [_] Z Z) ⟨u1,hx3,⟨100,64,by decide,by decide,⟨hb1.flags,hb1.links,hb1.comps,hb1.all⟩⟩,shape_fleet Z⟩
 obtain ⟨H3,f2,x3⟩ := z;dsimp only at hC ⊢;obtain ⟨u3,hx3,⟨M,D,hM,hD,hb3⟩,hck⟩ := hC;obtain ⟨q6,e6,q7,e7,q8,e8,rfl,nf2,_,_,_⟩ := ft_open hx3;have hck2 : ((checkF f2 : Nat) : Int) ≠ 0 := by omega
 refine .sr<|.yv (.loadW Z Fx.agg41 (.head _) Z) Z<|.ct (X := List Value) Fx.call7 Z (fun W t => syntax_sy 1000 (by decide) H3 f2 (hb3.sy hM) _ W hx3 t.agr) Z fun x4 H4 hx4 u4 => .al Fx.zero35 Z fun b9 => .sV .head Z Z Fx.size35 (ft_len hx4) hx4.one Z<|.ns<|.yv (.loadW Z Fx.agg35 (.head _) (ft_len hx4)) Z<|.yv (.cast (v' := .tuple #[.agg (pbV ⟨[102,108,101,101,116],f2.nm,checkF f2⟩).toArray,.int .i64 (checkF f2 : Nat)]) (.call Fx.call6 Z (fun W t => typesCheck_any H4 (G.up (u3.up.trans u4.up)) f2 x4 hx4 (hb3.ev hD) (fun c hc => ⟨ft_names hx4 c hc,(hb3.all c hc).vers,fun v hv h hh => (((hb3.all c hc).all v hv).2 h hh).cnt⟩) W t.agr)) (by rw [shapes_pb hck])) Z<|.m Z Z<|.yv (.extract Z Z) Z<|.yv (.extract Z Z) Z<|.al Fx.zero28 Z fun b10 => .sW .head Z Z Fx.size28 (by simp [pbV,Value.oneCell',strV]) Z<|.a Z Z<|.ns<|.yv (.loadW Z Fx.agg35 (.tail _<|.head _) (ft_len hx4)) Z<|.yv (.call Fx.call11 Z (fun W t => check_any H4 (G.up (u3.up.trans u4.up)) f2 x4 hx4 (hb3.ev hD) W t.agr)) Z<|.a Z Z<|.ns<|.yv (.call Fx.call9 Z (fun W t => awake8_any H4 (G.up (u3.up.trans u4.up)) W t.agr)) Z<|.m Z Z<|.gd Z Z<|.yv (.move Z) Z<|.gd Z Z<|.yv (.cast (v' := .bool true) (.neq Z Z) (by rw [decide_eq_true hck2])) Z<|.yv (.pickT Z Z) Z<|.m Z Z<|.gd Z Z<|.yv (.move Z) Z<|.gd Z Z<|.yv (.move Z) Z<|.gd Z Z<|.yv (.cast (v' := .bool true) (.eql Z Z) (by rw [decide_eq_true Z])) Z<|.yv (.pickT Z Z) Z<|.m Z Z<|.gd Z Z<|.yv (.loadW Z Fx.agg28 (.head _) Z) Z<|.gd Z Z<|.yv (.fieldAddr Z Fx.field41_0) Z<|.gd Z Z<|.yv (.load Z Fx.agg9 (.tail _<|.tail _<|.head _) Z) Z<|.gd Z Z<|.yv (.move Z) Z<|.gd Z Z<|.yv (.build Z (Fx.bld28_0_1_2 _ _ _)) Z<|.gd Z Z<|.yv (.eqA Fx.eqt28 Z Z (pbEq ⟨[102,108,101,101,116],f2.nm,checkF f2⟩ ⟨[102,108,101,101,116],f2.nm,checkF f2⟩ rfl Z)) Z<|.yv (.pickT Z Z) Z<|.a Z Z<|.nt<|.rt<|?_
 exact Sx.ret1 (.inl rfl) rfl (.tmp rfl) fun W t => ⟨rfl,t.ext⟩
variable {H : Type} {enc : TypeId × Value → H}
theorem wrap {a : Assume} {C : Checked} {os : Os} {f : FuncId} {fn : Func} {s : ChangeSpec} {conds : List PathCond} {apart fresh handsOn again : Bool} {X : World → Array Value → Prop}
 (hX : ∀ (w w' : World) (args : Array Value),w.heap = w'.heap → X w args → X w' args)
 (own : ownKnob C.prog.godebug = none) (started : os.Started) (noInit : C.prog.inits.idxOf? f = none) (hfn : C.prog.funcs[f]? = some fn)
 (witness : ∃ (w : World) (tape : Tape) (i : Input),w.os = os ∧ (w.forCall tape i).Shaped C.prog ∧ i.vars = [] ∧ Input.okWide C.prog (w.forCall tape i) .any w.heap.size f i ∧
  ((s.pre enc C.prog fn conds apart (w.forCall tape i).memory i.args ∧ X (w.forCall tape i).memory i.args) ∧ sizedMet enc C.prog fn (OpenSpec.ofChange s) apart (w.forCall tape i).memory i.args) ∧ a.holds C.prog (lone (Frame.enter C.prog f i.args .normal) [] (w.forCall tape i)))
 (contract : ∀ (W : World) (base : Nat) (args : Array Value) (ds gs : List (DataW H)) (before : List MemPlace),
  (∀ (j : Nat) t v,fn.params[j]? = some t → args[j]? = some v → Value.okWide C.prog W .any base t v) →
  DataW.Whole enc C.prog fn.params.toList s.vars apart W args.toList ds gs before →
  X W args → W.ShapedOpen C.prog →
  Calls C.prog f args W fun e W' => ∃ v,e = .returned v ∧ s.post enc C.prog fn apart fresh handsOn again W args v W') :
 ReturnsInHanded a C os f .any (fun w args => (s.pre enc C.prog fn conds apart w args ∧ X w args) ∧ sizedMet enc C.prog fn (OpenSpec.ofChange s) apart w args) (s.post enc C.prog fn apart fresh handsOn again) := by
 refine returnsInHanded_of_calls own started noInit witness ?_;intro w tape i _ hsh _ hok hpre _;obtain ⟨_,_,_,fn',hfn',_,_,_,_,hval⟩ := hok;have e : fn' = fn := Option.some.inj (hfn'.symm.trans hfn);subst e;obtain ⟨⟨⟨ds,gs,before,hw,_⟩,hx⟩,_⟩ := hpre;have hw' := DataW.Whole.of_heap (w' := w.forCall tape i) (by rfl) hw;refine (contract (w.forCall tape i) w.heap.size i.args ds gs before hval hw' (hX _ _ _ (by rfl) hx) hsh).mono fun e W' ⟨v,he,hp⟩ => ?_;subst he;exact ChangeSpec.post_blind hp

theorem own : ownKnob Tryd.prog.godebug = none := by kernel_rfl
def laids : List (String × DataW Unit) := [("math/bits.deBruijn32tab",Rows.laid_math_bits_deBruijn32tab),("math/bits.deBruijn64tab",Rows.laid_math_bits_deBruijn64tab),("internal/strconv.uint64pow10",Rows.laid_internal_strconv_uint64pow10),("rootcause/lexer.words",Rows.laid_rootcause_lexer_words),("rootcause/lexer.symbols",Rows.laid_rootcause_lexer_symbols),("rootcause/syntax.shapes",Rows.laid_rootcause_syntax_shapes),("rootcause/syntax.forms",Rows.laid_rootcause_syntax_forms)]
theorem gTab : Tryd.prog.globalNamed "internal/strconv.uint64pow10" = some 4 := by kernel_rfl
theorem gTabT : (Tryd.prog.globals[4]?).map (·.type) = some 198 := by kernel_rfl
theorem cellsTab : Tryd.prog.cellsOf 198 = 20 := by kernel_rfl
theorem cellsTabE : Tryd.prog.cellsOf 188 = 1 := by kernel_rfl
theorem tabEq : (Rows.laid_internal_strconv_uint64pow10 : DataW Unit) = Lib.tabData .u64 Lib.pow10Tab := by kernel_rfl
theorem gt_of {W : World} (h : laidMet Tryd.prog laids W) : Gt (allH W) := by
 intro W' hA;have h1 : Lib.TabIs Tryd.prog W "internal/strconv.uint64pow10" .u64 Lib.pow10Tab := Lib.tabIs_of_head gTab gTabT Tryd.underlying198 Tryd.underlying188 cellsTabE cellsTab (tabEq ▸ h.tail.tail);unfold Lib.TabIs World.var? at *;rw [gTab] at *;simp only [Option.bind_some] at *
 split at h1
 ·rename_i cs T m hb;rw [hA 4 _ hb];exact h1
 ·cases h1
theorem gl_of {W : World} (h : laidMet Tryd.prog laids W) : Gl (allH W) :=
 ⟨laid_mem (t := 186) (.arr 24 (.str [.int .i64,.bool,.int .i64,.strg])) _ (by kernel_rfl) (by kernel_rfl) (by kernel_rfl) (by kernel_rfl) (by kernel_rfl) h.tail.tail.tail.tail.tail,
  laid_mem (t := 185) (.arr 11 (.str [.bool,.bool,.int .i64,.int .i64,.bool,.bool])) _ (by kernel_rfl) (by kernel_rfl) (by kernel_rfl) (by kernel_rfl) (by kernel_rfl) h.tail.tail.tail.tail.tail.tail,
  laid_mem (t := 196) (.arr 39 .strg) _ (by kernel_rfl) (by kernel_rfl) (by kernel_rfl) (by kernel_rfl) (by kernel_rfl) h.tail.tail.tail,
  laid_mem (t := 183) (.arr 25 .strg) _ (by kernel_rfl) (by kernel_rfl) (by kernel_rfl) (by kernel_rfl) (by kernel_rfl) h.tail.tail.tail.tail⟩
theorem laid_met (os : Os) (args : Array Value) : laidMet Tryd.prog laids ((World.laidAll Tryd.prog os laids).forCall (fun _ _ => 0) ⟨#[],args,[]⟩).memory :=
 laidMet_laidAll _ (by kernel_rfl) (by kernel_rfl)
theorem laid_shaped (os : Os) (args : Array Value) : ((World.laidAll Tryd.prog os laids).forCall (fun _ _ => 0) ⟨#[],args,[]⟩).Shaped Tryd.prog :=
 World.shaped_of_ZipB (by kernel_rfl) (by kernel_rfl)
theorem ext_kept {W W' : World} (h : Ext W W') : ∀ may,W.keptBut W' may := fun may => (Ext.below h).frame may
theorem laidOut : laidOutB Tryd.prog = true := by kernel_rfl
end Go.Proofs.YtohfacbajcenoaaDoor
