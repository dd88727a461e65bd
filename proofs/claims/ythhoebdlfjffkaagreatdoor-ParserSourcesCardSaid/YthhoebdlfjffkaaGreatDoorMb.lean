/- Texts of the proof, one behind the other. -/
import Derived.Test.YthhoebdlfjffkaaGreatDoorMa
import Derived.Lib.ItoaNum
import Derived.Lib.Join
import Derived.Lib.ItoaLen
import Derived.Lib.ParseIntB
import Derived.Lib.ParseIntBCases
import Derived.Lib.IndexMore
import Derived.Test.YthhoebdlfjffkaaGreatDoorProg
set_option linter.all false
namespace Go.Proofs.YthhoebdlfjffkaaGreatDoor
open Go.RowKit Go.Par Go.Sx
abbrev Str := List UInt8
def strV (l : Str) : Value := .string ⟨l.toArray⟩
inductive Ex where
 | mk (op : UInt8) (nm : Str) (n : Int64) (args : List Ex)
inductive Sm where
 | mk (kind : UInt8) (nm hd : Str) (ex : List Ex) (th el : List Sm)
def Ex.op : Ex → UInt8 | .mk op _ _ _ => op
def Ex.nm : Ex → Str | .mk _ nm _ _ => nm
def Ex.n : Ex → Int64 | .mk _ _ n _ => n
def Ex.args : Ex → List Ex | .mk _ _ _ args => args
mutual
def dEx (k : IntKind) : Ex → D
 | .mk op nm n args => .str [.val (.int k op.toNat),.val (strV nm),.val (.int .i64 n.toInt),.seq 4 (dExs k args)]
def dExs (k : IntKind) : List Ex → List D
 | [] => []
 | e :: r => dEx k e :: dExs k r
end
theorem dExs_map (k : IntKind) : ∀ l,dExs k l = l.map (dEx k)
 | [] => rfl
 | e :: r => by rw [dExs,dExs_map k r];rfl
theorem dEx_mk (k : IntKind) (op : UInt8) (nm : Str) (n : Int64) (args : List Ex) : dEx k (.mk op nm n args) = .str [.val (.int k op.toNat),.val (strV nm),.val (.int .i64 n.toInt),.seq 4 (args.map (dEx k))] := by rw [dEx,dExs_map]
mutual
def dSm (k : IntKind) : Sm → D
 | .mk kd nm hd ex th el => .str [.val (.int k kd.toNat),.val (strV nm),.val (strV hd),.seq 4 (ex.map (dEx k)),.seq 6 (dSms k th),.seq 6 (dSms k el)]
def dSms (k : IntKind) : List Sm → List D
 | [] => []
 | e :: r => dSm k e :: dSms k r
end
theorem dSms_map (k : IntKind) : ∀ l,dSms k l = l.map (dSm k)
 | [] => rfl
 | e :: r => by rw [dSms,dSms_map k r];rfl
theorem dSm_mk (k : IntKind) (kd : UInt8) (nm hd : Str) (ex : List Ex) (th el : List Sm) : dSm k (.mk kd nm hd ex th el) = .str [.val (.int k kd.toNat),.val (strV nm),.val (strV hd),.seq 4 (ex.map (dEx k)),.seq 6 (th.map (dSm k)),.seq 6 (el.map (dSm k))] := by rw [dSm,dSms_map,dSms_map]
theorem Ex.ind {C : Ex → Prop} (h : ∀ op nm n args,(∀ a ∈ args,C a) → C (.mk op nm n args)) : ∀ e,C e
 | .mk op nm n args => h op nm n args fun a ha => Ex.ind h a
termination_by e => SizeOf.sizeOf e
decreasing_by
 have := List.sizeOf_lt_of_mem ha
 simp;omega
theorem Sm.ind {C : Sm → Prop} (h : ∀ kd nm hd ex th el,(∀ a ∈ th,C a) → (∀ a ∈ el,C a) → C (.mk kd nm hd ex th el)) : ∀ e,C e
 | .mk kd nm hd ex th el => h kd nm hd ex th el (fun a ha => Sm.ind h a) (fun a ha => Sm.ind h a)
termination_by e => SizeOf.sizeOf e
decreasing_by
 all_goals
  have := List.sizeOf_lt_of_mem ha
  simp;omega
structure Hd where
 nm : Str
 ps : List Str
 body : List Sm
structure Vr where
 nm : Str
 ty : UInt8
 init : Int64
structure Cp where
 nm : Str
 vars : List Vr
 vers : List (List Hd)
structure Fg where
 nm : Str
 init : Bool
structure Lk where
 fr : Str
 to : Str
 lat : Int64
structure Ft where
 nm : Str
 flags : List Fg
 links : List Lk
 comps : List Cp
def dStr (s : Str) : D := .val (strV s)
def dStrL (s : Str) : D := .any (strV s)
def dHd (k : IntKind) (h : Hd) : D := .str [.val (strV h.nm),.seq 1 (h.ps.map dStr),.seq 6 (h.body.map (dSm k))]
def dVr (k : IntKind) (v : Vr) : D := .str [.val (strV v.nm),.val (.int k v.ty.toNat),.val (.int .i64 v.init.toInt)]
def dVs (k : IntKind) (v : List Hd) : D := .seq 3 (v.map (dHd k))
def dCp (k : IntKind) (c : Cp) : D := .str [.val (strV c.nm),.seq 3 (c.vars.map (dVr k)),.seq 1 (c.vers.map (dVs k))]
def dFg (f : Fg) : D := .str [.val (strV f.nm),.val (.bool f.init)]
def dLk (l : Lk) : D := .str [.val (strV l.fr),.val (strV l.to),.val (.int .i64 l.lat.toInt)]
def dFt (k : IntKind) (f : Ft) : D := .str [.val (strV f.nm),.seq 2 (f.flags.map dFg),.seq 3 (f.links.map dLk),.seq 3 (f.comps.map (dCp k))]
/-! ### Structs opened and shut -/
section
variable {H : Hp}
theorem repV {v : Value} (h : v.oneCell' = true) (k : okV v) : Rep H (.val v) [v] := by unfold Rep;exact ⟨rfl,h,k⟩
theorem okS {l : Str} : okV (strV l) ↔ l.length ≤ 1000000 := by simp [okV,strV,ByteArray.size]
theorem repL_cons {d : D} {ds : List D} {l : List Value} : RepL H (d :: ds) l ↔ ∃ x y,l = x ++ y ∧ Rep H d x ∧ RepL H ds y := by
 constructor
 ·intro h;unfold RepL at h;exact h
 ·intro h;unfold RepL;exact h
theorem repL_nil {l : List Value} : RepL H [] l ↔ l = [] := by
 constructor
 ·intro h;unfold RepL at h;exact h
 ·intro h;unfold RepL;exact h
theorem repS {ds : List D} {l : List Value} : Rep H (.str ds) l ↔ RepL H ds l := by
 constructor
 ·intro h;unfold Rep at h;exact h
 ·intro h;unfold Rep;exact h
theorem repL_val {v : Value} {ds : List D} {l : List Value} : RepL H (.val v :: ds) l ↔ ∃ y,l = v :: y ∧ v.oneCell' = true ∧ okV v ∧ RepL H ds y := by
 rw [repL_cons]
 constructor
 ·rintro ⟨x,y,rfl,hx,hy⟩
  unfold Rep at hx
  obtain ⟨rfl,h,k⟩ := hx
  exact ⟨y,rfl,h,k,hy⟩
 ·rintro ⟨y,rfl,h,k,hy⟩
  exact ⟨[v],y,rfl,repV h k,hy⟩
theorem repL_seq {z : Nat} {es ds : List D} {l : List Value} : RepL H (.seq z es :: ds) l ↔ ∃ p c y,l = .slice p es.length c :: y ∧ Rep H (.seq z es) [.slice p es.length c] ∧ RepL H ds y := by
 rw [repL_cons]
 constructor
 ·rintro ⟨x,y,rfl,hx,hy⟩
  obtain ⟨p,c,rfl,_⟩ := hx.sl
  exact ⟨p,c,y,rfl,hx,hy⟩
 ·rintro ⟨p,c,y,rfl,hx,hy⟩
  exact ⟨_,y,rfl,hx,hy⟩
theorem map_at {α β : Type} {f : α → β} {l : List α} {k : Nat} (h : k < l.length) : (l.map f)[k]? = some (f l[k]) := by simp [h]
theorem ex_open {k : IntKind} {op : UInt8} {nm : Str} {n : Int64} {args : List Ex} {cs : List Value} (h : Rep H (dEx k (.mk op nm n args)) cs) :
 ∃ p c,cs = [.int k op.toNat,strV nm,.int .i64 n.toInt,.slice p args.length c] ∧ Rep H (.seq 4 (args.map (dEx k))) [.slice p args.length c] ∧ nm.length ≤ 1000000 := by
 rw [dEx_mk,repS] at h
 obtain ⟨_,rfl,_,_,h⟩ := repL_val.1 h
 obtain ⟨_,rfl,_,hn,h⟩ := repL_val.1 h
 obtain ⟨_,rfl,_,_,h⟩ := repL_val.1 h
 obtain ⟨p,c,_,rfl,hs,h⟩ := repL_seq.1 h
 rw [repL_nil] at h
 subst h
 rw [List.length_map] at hs ⊢
 exact ⟨p,c,rfl,hs,okS.1 hn⟩
theorem ex_shut {k : IntKind} {op : UInt8} {nm : Str} {n : Int64} {args : List Ex} {s : Value} (hn : nm.length ≤ 1000000) (h : Rep H (.seq 4 (args.map (dEx k))) [s]) :
 Rep H (dEx k (.mk op nm n args)) [.int k op.toNat,strV nm,.int .i64 n.toInt,s] := by
 rw [dEx_mk,repS]
 exact repL_val.2 ⟨_,rfl,rfl,trivial,repL_val.2 ⟨_,rfl,rfl,okS.2 hn,repL_val.2 ⟨_,rfl,rfl,trivial,repL_cons.2 ⟨[s],[],rfl,h,repL_nil.2 rfl⟩⟩⟩⟩
theorem sm_open {k : IntKind} {kd : UInt8} {nm hd : Str} {ex : List Ex} {th el : List Sm} {cs : List Value} (h : Rep H (dSm k (.mk kd nm hd ex th el)) cs) :
 ∃ p c p1 c1 p2 c2,cs = [.int k kd.toNat,strV nm,strV hd,.slice p ex.length c,.slice p1 th.length c1,.slice p2 el.length c2] ∧ Rep H (.seq 4 (ex.map (dEx k))) [.slice p ex.length c] ∧ Rep H (.seq 6 (th.map (dSm k))) [.slice p1 th.length c1] ∧ Rep H (.seq 6 (el.map (dSm k))) [.slice p2 el.length c2] ∧ nm.length ≤ 1000000 ∧ hd.length ≤ 1000000 := by
 rw [dSm_mk,repS] at h
 obtain ⟨_,rfl,_,_,h⟩ := repL_val.1 h
 obtain ⟨_,rfl,_,hn,h⟩ := repL_val.1 h
 obtain ⟨_,rfl,_,hm,h⟩ := repL_val.1 h
 obtain ⟨p,c,_,rfl,hs,h⟩ := repL_seq.1 h
 obtain ⟨p1,c1,_,rfl,hs1,h⟩ := repL_seq.1 h
 obtain ⟨p2,c2,_,rfl,hs2,h⟩ := repL_seq.1 h
 rw [repL_nil] at h
 subst h
 rw [List.length_map] at hs hs1 hs2
 exact ⟨p,c,p1,c1,p2,c2,by rw [List.length_map,List.length_map,List.length_map],hs,hs1,hs2,okS.1 hn,okS.1 hm⟩
theorem sm_shut {k : IntKind} {kd : UInt8} {nm hd : Str} {ex : List Ex} {th el : List Sm} {s s1 s2 : Value} (hn : nm.length ≤ 1000000) (hm : hd.length ≤ 1000000) (h : Rep H (.seq 4 (ex.map (dEx k))) [s]) (h1 : Rep H (.seq 6 (th.map (dSm k))) [s1]) (h2 : Rep H (.seq 6 (el.map (dSm k))) [s2]) :
 Rep H (dSm k (.mk kd nm hd ex th el)) [.int k kd.toNat,strV nm,strV hd,s,s1,s2] := by
 rw [dSm_mk,repS]
 exact repL_val.2 ⟨_,rfl,rfl,trivial,repL_val.2 ⟨_,rfl,rfl,okS.2 hn,repL_val.2 ⟨_,rfl,rfl,okS.2 hm,repL_cons.2 ⟨[s],_,rfl,h,repL_cons.2 ⟨[s1],_,rfl,h1,repL_cons.2 ⟨[s2],[],rfl,h2,repL_nil.2 rfl⟩⟩⟩⟩⟩⟩
theorem hd_open {k : IntKind} {x : Hd} {cs : List Value} (h : Rep H (dHd k x) cs) :
 ∃ p1 c1 p2 c2,cs = [strV x.nm,.slice p1 x.ps.length c1,.slice p2 x.body.length c2] ∧ x.nm.length ≤ 1000000 ∧ Rep H (.seq 1 (x.ps.map dStr)) [.slice p1 x.ps.length c1] ∧ Rep H (.seq 6 (x.body.map (dSm k))) [.slice p2 x.body.length c2] := by
 rw [dHd,repS] at h
 obtain ⟨_,rfl,_,k0,h⟩ := repL_val.1 h
 obtain ⟨p1,c1,_,rfl,k1,h⟩ := repL_seq.1 h
 obtain ⟨p2,c2,_,rfl,k2,h⟩ := repL_seq.1 h
 rw [repL_nil] at h
 subst h
 exact ⟨p1,c1,p2,c2,by simp,okS.1 k0,(by simpa using k1),(by simpa using k2)⟩
theorem hd_shut {k : IntKind} {x : Hd} (k0 : x.nm.length ≤ 1000000) {s1 : Value} (k1 : Rep H (.seq 1 (x.ps.map dStr)) [s1]) {s2 : Value} (k2 : Rep H (.seq 6 (x.body.map (dSm k))) [s2]) : Rep H (dHd k x) [strV x.nm,s1,s2] := by
 rw [dHd,repS]
 exact repL_val.2 ⟨_,rfl,rfl,okS.2 k0,repL_cons.2 ⟨[s1],_,rfl,k1,repL_cons.2 ⟨[s2],_,rfl,k2,repL_nil.2 rfl⟩⟩⟩
theorem vr_open {k : IntKind} {x : Vr} {cs : List Value} (h : Rep H (dVr k x) cs) :
 cs = [strV x.nm,.int k x.ty.toNat,.int .i64 x.init.toInt] ∧ x.nm.length ≤ 1000000 := by
 rw [dVr,repS] at h
 obtain ⟨_,rfl,_,k0,h⟩ := repL_val.1 h
 obtain ⟨_,rfl,_,_,h⟩ := repL_val.1 h
 obtain ⟨_,rfl,_,_,h⟩ := repL_val.1 h
 rw [repL_nil] at h
 subst h
 exact ⟨by simp,okS.1 k0⟩
theorem vr_shut {k : IntKind} {x : Vr} (k0 : x.nm.length ≤ 1000000) : Rep H (dVr k x) [strV x.nm,.int k x.ty.toNat,.int .i64 x.init.toInt] := by
 rw [dVr,repS]
 exact repL_val.2 ⟨_,rfl,rfl,okS.2 k0,repL_val.2 ⟨_,rfl,rfl,trivial,repL_val.2 ⟨_,rfl,rfl,trivial,repL_nil.2 rfl⟩⟩⟩
theorem cp_open {k : IntKind} {x : Cp} {cs : List Value} (h : Rep H (dCp k x) cs) :
 ∃ p1 c1 p2 c2,cs = [strV x.nm,.slice p1 x.vars.length c1,.slice p2 x.vers.length c2] ∧ x.nm.length ≤ 1000000 ∧ Rep H (.seq 3 (x.vars.map (dVr k))) [.slice p1 x.vars.length c1] ∧ Rep H (.seq 1 (x.vers.map (dVs k))) [.slice p2 x.vers.length c2] := by
 rw [dCp,repS] at h
 obtain ⟨_,rfl,_,k0,h⟩ := repL_val.1 h
 obtain ⟨p1,c1,_,rfl,k1,h⟩ := repL_seq.1 h
 obtain ⟨p2,c2,_,rfl,k2,h⟩ := repL_seq.1 h
 rw [repL_nil] at h
 subst h
 exact ⟨p1,c1,p2,c2,by simp,okS.1 k0,(by simpa using k1),(by simpa using k2)⟩
theorem cp_shut {k : IntKind} {x : Cp} (k0 : x.nm.length ≤ 1000000) {s1 : Value} (k1 : Rep H (.seq 3 (x.vars.map (dVr k))) [s1]) {s2 : Value} (k2 : Rep H (.seq 1 (x.vers.map (dVs k))) [s2]) : Rep H (dCp k x) [strV x.nm,s1,s2] := by
 rw [dCp,repS]
 exact repL_val.2 ⟨_,rfl,rfl,okS.2 k0,repL_cons.2 ⟨[s1],_,rfl,k1,repL_cons.2 ⟨[s2],_,rfl,k2,repL_nil.2 rfl⟩⟩⟩
theorem fg_open {x : Fg} {cs : List Value} (h : Rep H (dFg x) cs) :
 cs = [strV x.nm,.bool x.init] ∧ x.nm.length ≤ 1000000 := by
 rw [dFg,repS] at h
 obtain ⟨_,rfl,_,k0,h⟩ := repL_val.1 h
 obtain ⟨_,rfl,_,_,h⟩ := repL_val.1 h
 rw [repL_nil] at h
 subst h
 exact ⟨by simp,okS.1 k0⟩
theorem fg_shut {x : Fg} (k0 : x.nm.length ≤ 1000000) : Rep H (dFg x) [strV x.nm,.bool x.init] := by
 rw [dFg,repS]
 exact repL_val.2 ⟨_,rfl,rfl,okS.2 k0,repL_val.2 ⟨_,rfl,rfl,trivial,repL_nil.2 rfl⟩⟩
theorem lk_open {x : Lk} {cs : List Value} (h : Rep H (dLk x) cs) :
 cs = [strV x.fr,strV x.to,.int .i64 x.lat.toInt] ∧ x.fr.length ≤ 1000000 ∧ x.to.length ≤ 1000000 := by
 rw [dLk,repS] at h
 obtain ⟨_,rfl,_,k0,h⟩ := repL_val.1 h
 obtain ⟨_,rfl,_,k1,h⟩ := repL_val.1 h
 obtain ⟨_,rfl,_,_,h⟩ := repL_val.1 h
 rw [repL_nil] at h
 subst h
 exact ⟨by simp,okS.1 k0,okS.1 k1⟩
theorem lk_shut {x : Lk} (k0 : x.fr.length ≤ 1000000) (k1 : x.to.length ≤ 1000000) : Rep H (dLk x) [strV x.fr,strV x.to,.int .i64 x.lat.toInt] := by
 rw [dLk,repS]
 exact repL_val.2 ⟨_,rfl,rfl,okS.2 k0,repL_val.2 ⟨_,rfl,rfl,okS.2 k1,repL_val.2 ⟨_,rfl,rfl,trivial,repL_nil.2 rfl⟩⟩⟩
theorem ft_open {k : IntKind} {x : Ft} {cs : List Value} (h : Rep H (dFt k x) cs) :
 ∃ p1 c1 p2 c2 p3 c3,cs = [strV x.nm,.slice p1 x.flags.length c1,.slice p2 x.links.length c2,.slice p3 x.comps.length c3] ∧ x.nm.length ≤ 1000000 ∧ Rep H (.seq 2 (x.flags.map dFg)) [.slice p1 x.flags.length c1] ∧ Rep H (.seq 3 (x.links.map dLk)) [.slice p2 x.links.length c2] ∧ Rep H (.seq 3 (x.comps.map (dCp k))) [.slice p3 x.comps.length c3] := by
 rw [dFt,repS] at h
 obtain ⟨_,rfl,_,k0,h⟩ := repL_val.1 h
 obtain ⟨p1,c1,_,rfl,k1,h⟩ := repL_seq.1 h
 obtain ⟨p2,c2,_,rfl,k2,h⟩ := repL_seq.1 h
 obtain ⟨p3,c3,_,rfl,k3,h⟩ := repL_seq.1 h
 rw [repL_nil] at h
 subst h
 exact ⟨p1,c1,p2,c2,p3,c3,by simp,okS.1 k0,(by simpa using k1),(by simpa using k2),(by simpa using k3)⟩
theorem ft_shut {k : IntKind} {x : Ft} (k0 : x.nm.length ≤ 1000000) {s1 : Value} (k1 : Rep H (.seq 2 (x.flags.map dFg)) [s1]) {s2 : Value} (k2 : Rep H (.seq 3 (x.links.map dLk)) [s2]) {s3 : Value} (k3 : Rep H (.seq 3 (x.comps.map (dCp k))) [s3]) : Rep H (dFt k x) [strV x.nm,s1,s2,s3] := by
 rw [dFt,repS]
 exact repL_val.2 ⟨_,rfl,rfl,okS.2 k0,repL_cons.2 ⟨[s1],_,rfl,k1,repL_cons.2 ⟨[s2],_,rfl,k2,repL_cons.2 ⟨[s3],_,rfl,k3,repL_nil.2 rfl⟩⟩⟩⟩
theorem vs_open {k : IntKind} {x : List Hd} {cs : List Value} (h : Rep H (dVs k x) cs) : ∃ p c,cs = [.slice p x.length c] ∧ Rep H (.seq 3 (x.map (dHd k))) [.slice p x.length c] := by
 rw [dVs] at h
 obtain ⟨p,c,rfl,_⟩ := h.sl
 rw [List.length_map] at h ⊢
 exact ⟨p,c,rfl,h⟩
theorem str_open {x : Str} {cs : List Value} (h : Rep H (dStr x) cs) : cs = [strV x] ∧ x.length ≤ 1000000 := by
 unfold dStr Rep at h
 exact ⟨h.1,okS.1 h.2.2⟩
theorem strL_open {x : Str} {cs : List Value} (h : Rep H (dStrL x) cs) : cs = [strV x] := by
 unfold dStrL Rep at h
 exact h.1
theorem strL_shut (x : Str) : Rep H (dStrL x) [strV x] := by unfold dStrL Rep;exact ⟨rfl,rfl⟩
end
end Go.Proofs.YthhoebdlfjffkaaGreatDoor
namespace Go.Proofs.YthhoebdlfjffkaaGreatDoor
mutual
def Ex.depth : Ex → Nat
 | .mk _ _ _ args => Ex.deeps args + 1
def Ex.deeps : List Ex → Nat
 | [] => 0
 | e :: r => max (Ex.depth e) (Ex.deeps r)
end
theorem take_snoc {α : Type} {l : List α} {k : Nat} (h : k < l.length) : l.take (k + 1) = l.take k ++ [l[k]] := by simp
theorem deeps_app (a b : List Ex) : Ex.deeps (a ++ b) = max (Ex.deeps a) (Ex.deeps b) := by
 induction a with
 | nil => simp [Ex.deeps]
 | cons e r ih => simp only [List.cons_append,Ex.deeps,ih];omega
theorem deeps_succ {l : List Ex} {k : Nat} (h : k < l.length) : Ex.deeps (l.take (k + 1)) = max (Ex.deeps (l.take k)) (Ex.depth l[k]) := by
 rw [take_snoc h,deeps_app];simp [Ex.deeps]
theorem deeps_take (l : List Ex) (k : Nat) : Ex.deeps (l.take k) ≤ Ex.deeps l := by
 have := deeps_app (l.take k) (l.drop k)
 rw [List.take_append_drop] at this;omega
theorem deeps_mem {l : List Ex} {e : Ex} (h : e ∈ l) : Ex.depth e ≤ Ex.deeps l := by
 induction l with
 | nil => cases h
 | cons a r ih =>
  simp only [Ex.deeps]
  rcases List.mem_cons.1 h with rfl | h
  ·omega
  ·have := ih h;omega
theorem deeps_at {l : List Ex} {k : Nat} (h : k < l.length) : Ex.depth l[k] ≤ Ex.deeps l := deeps_mem (List.getElem_mem h)
theorem depth_mk (op : UInt8) (nm : Str) (n : Int64) (args : List Ex) : Ex.depth (.mk op nm n args) = Ex.deeps args + 1 := by rw [Ex.depth]
def Sm.kd : Sm → UInt8 | .mk kd _ _ _ _ _ => kd
def Sm.nm : Sm → Str | .mk _ nm _ _ _ _ => nm
def Sm.hd : Sm → Str | .mk _ _ hd _ _ _ => hd
def Sm.ex : Sm → List Ex | .mk _ _ _ ex _ _ => ex
def Sm.th : Sm → List Sm | .mk _ _ _ _ th _ => th
def Sm.el : Sm → List Sm | .mk _ _ _ _ _ el => el
theorem Sm.lists {C : List Sm → Prop} (h : ∀ l,(∀ s ∈ l,C s.th ∧ C s.el) → C l) : ∀ l,C l := by
 have key : ∀ s : Sm,C s.th ∧ C s.el := fun s => by
  induction s using Sm.ind with
  | _ kd nm hd ex th el ih1 ih2 => exact ⟨h th fun a ha => ih1 a ha,h el fun a ha => ih2 a ha⟩
 exact fun l => h l fun s _ => key s
mutual
def Sm.depth : Sm → Nat
 | .mk _ _ _ _ th el => max (Sm.deeps th) (Sm.deeps el) + 1
def Sm.deeps : List Sm → Nat
 | [] => 0
 | e :: r => max (Sm.depth e) (Sm.deeps r)
end
mutual
def Sm.count : Sm → Nat
 | .mk _ _ _ _ th el => Sm.counts th + Sm.counts el + 1
def Sm.counts : List Sm → Nat
 | [] => 0
 | e :: r => Sm.count e + Sm.counts r
end
theorem sdeeps_app (a b : List Sm) : Sm.deeps (a ++ b) = max (Sm.deeps a) (Sm.deeps b) := by
 induction a with
 | nil => simp [Sm.deeps]
 | cons e r ih => simp only [List.cons_append,Sm.deeps,ih];omega
theorem sdeeps_succ {l : List Sm} {k : Nat} (h : k < l.length) : Sm.deeps (l.take (k + 1)) = max (Sm.deeps (l.take k)) (Sm.depth l[k]) := by
 rw [take_snoc h,sdeeps_app];simp [Sm.deeps]
theorem sdeeps_take (l : List Sm) (k : Nat) : Sm.deeps (l.take k) ≤ Sm.deeps l := by
 have := sdeeps_app (l.take k) (l.drop k)
 rw [List.take_append_drop] at this;omega
theorem scounts_app (a b : List Sm) : Sm.counts (a ++ b) = Sm.counts a + Sm.counts b := by
 induction a with
 | nil => simp [Sm.counts]
 | cons e r ih => simp only [List.cons_append,Sm.counts,ih];omega
theorem scounts_succ {l : List Sm} {k : Nat} (h : k < l.length) : Sm.counts (l.take (k + 1)) = Sm.counts (l.take k) + Sm.count l[k] := by
 rw [take_snoc h,scounts_app];simp [Sm.counts]
theorem scounts_take (l : List Sm) (k : Nat) : Sm.counts (l.take k) ≤ Sm.counts l := by
 have := scounts_app (l.take k) (l.drop k)
 rw [List.take_append_drop] at this;omega
theorem scount_mk (kd : UInt8) (nm hd : Str) (ex : List Ex) (th el : List Sm) : Sm.count (.mk kd nm hd ex th el) = Sm.counts th + Sm.counts el + 1 := by rw [Sm.count]
theorem sdepth_mk (kd : UInt8) (nm hd : Str) (ex : List Ex) (th el : List Sm) : Sm.depth (.mk kd nm hd ex th el) = max (Sm.deeps th) (Sm.deeps el) + 1 := by rw [Sm.depth]
theorem scounts_len (l : List Sm) : l.length ≤ Sm.counts l := by
 induction l with
 | nil => simp
 | cons e r ih =>
  obtain ⟨kd,nm,hd,ex,th,el⟩ := e
  simp only [List.length_cons,Sm.counts,scount_mk];omega
end Go.Proofs.YthhoebdlfjffkaaGreatDoor
namespace Go.Proofs.YthhoebdlfjffkaaGreatDoor
open Go.RowKit Go.Par Go.Sx
def letB (c : UInt8) : Bool := (decide (97 ≤ c.toNat) && decide (c.toNat ≤ 122)) || (decide (65 ≤ c.toNat) && decide (c.toNat ≤ 90))
def digB (c : UInt8) : Bool := decide (48 ≤ c.toNat) && decide (c.toNat ≤ 57)
def insB (c : UInt8) : Bool := letB c || digB c || decide (c.toNat = 95)
def words : List Str := [[97,102,116,101,114],[97,108,119,97,121,115],[97,110,100],[97,114,114,105,118,101,115],[98,111,111,108],[99,111,109,112,111,110,101,110,116],[99,111,117,110,116],[100,101,108,101,116,101],[100,111],[101,108,115,101],[101,120,105,115,116,115],[102,97,108,115,101],[102,101,116,99,104],[102,108,97,103],[102,108,101,101,116],[102,111,114,97,108,108],[104,97,115],[105,102],[105,109,112,108,105,101,115],[105,110],[105,110,116],[108,97,116,101,110,99,121],[108,105,110,107],[110,111,116],[110,111,119],[111,110],[111,110,99,101],[111,114],[112,114,101,118,105,111,117,115],[115,101,110,100],[115,105,110,99,101],[115,105,122,101],[115,116,111,112],[115,116,111,114,101],[116,97,98,108,101],[116,114,117,101],[118,97,114],[118,101,114,115,105,111,110],[119,104,105,108,101]]
def symbols : List Str := [[46,46],[61,61],[33,61],[60,61],[62,61],[45,62],[123],[125],[40],[41],[91],[93],[44],[59],[58],[46],[61],[60],[62],[43],[45],[42],[47],[37],[95]]
def pre (q : UInt8 → Bool) (l : Str) : Nat := (l.takeWhile q).length
theorem pre_le (q : UInt8 → Bool) (l : Str) : pre q l ≤ l.length := by
 unfold pre
 induction l with
 | nil => simp
 | cons a r ih => rw [List.takeWhile_cons];split <;> simp;omega
theorem pre_step {q : UInt8 → Bool} : ∀ {l : Str} {k : Nat} (h : k < l.length),k ≤ pre q l → q l[k] = true → k + 1 ≤ pre q l
 | [],k,h,_,_ => by simp at h
 | a :: r,0,h,_,hq => by
  unfold pre
  rw [List.takeWhile_cons]
  simp at hq
  simp [hq]
 | a :: r,k + 1,h,hk,hq => by
  unfold pre at hk ⊢
  rw [List.takeWhile_cons] at hk ⊢
  cases ha : q a with
  | false => rw [ha] at hk;simp at hk
  | true =>
   rw [ha] at hk
   simp at hk hq
   have := pre_step (l := r) (k := k) (by simpa using h) hk hq
   unfold pre at this
   simp;omega
theorem pre_stop {q : UInt8 → Bool} : ∀ {l : Str} {k : Nat} (h : k < l.length),k ≤ pre q l → q l[k] = false → k = pre q l
 | [],k,h,_,_ => by simp at h
 | a :: r,0,h,_,hq => by
  unfold pre
  rw [List.takeWhile_cons]
  simp at hq
  simp [hq]
 | a :: r,k + 1,h,hk,hq => by
  unfold pre at hk ⊢
  rw [List.takeWhile_cons] at hk ⊢
  cases ha : q a with
  | false => rw [ha] at hk;simp at hk
  | true =>
   rw [ha] at hk
   simp at hk hq
   have := pre_stop (l := r) (k := k) (by simpa using h) hk hq
   unfold pre at this
   simp;omega
def readK (l : Str) : UInt8 × Nat :=
 let c := l.headD 0
 if letB c then
  if words.contains (l.take (pre insB l)) then (2,pre insB l) else if pre insB l ≤ 12 then (1,pre insB l) else (5,l.length)
 else if digB c then
  if pre digB l = 1 ∨ c ≠ 48 then (3,pre digB l) else (5,l.length)
 else match symbols.find? (fun x => x.isPrefixOf l) with
  | some x => (4,x.length)
  | none => (5,l.length)
def nameB (l : Str) : Bool := decide (l ≠ []) && (readK l).1 == 1 && decide ((readK l).2 = l.length)
def hasP (l m : Str) : Bool := decide (m.length ≤ l.length) && decide (l.take m.length = m)
theorem hasP_pre (l m : Str) : hasP l m = m.isPrefixOf l := by
 rw [Bool.eq_iff_iff]
 simp only [hasP,Bool.and_eq_true,decide_eq_true_eq,List.isPrefixOf_iff_prefix]
 constructor
 ·rintro ⟨_,h⟩
  have := List.take_append_drop m.length l
  rw [h] at this
  exact ⟨_,this⟩
 ·rintro ⟨t,rfl⟩;simp
theorem getD_at {α : Type} {l : List α} {k : Nat} (h : k < l.length) (d : α) : l.getD k d = l[k] := by simp [h]
theorem list_at {α β : Type} {f : α → β} {l : List α} {k : Nat} (h : k < l.length) (d : α) : (l.map f)[k]? = some (f (l.getD k d)) := by simp [h]
structure Shp where
 n : Nat
 nm : Bool
 lv : Nat
 tx : Str
structure Frm where
 nm : Bool
 hd : Bool
 lo : Nat
 hi : Nat
 th : Bool
 el : Bool
def shapes : List Shp := [⟨0,false,0,[]⟩,⟨0,false,7,[]⟩,⟨0,false,7,[116,114,117,101]⟩,⟨0,false,7,[102,97,108,115,101]⟩,⟨0,false,7,[110,111,119]⟩,⟨0,true,7,[]⟩,⟨1,true,7,[]⟩,⟨1,true,7,[104,97,115,32]⟩,⟨0,true,7,[115,105,122,101,32]⟩,⟨1,false,6,[45]⟩,⟨1,false,6,[110,111,116,32]⟩,⟨2,false,5,[32,42,32]⟩,⟨2,false,5,[32,47,32]⟩,⟨2,false,5,[32,37,32]⟩,⟨2,false,4,[32,43,32]⟩,⟨2,false,4,[32,45,32]⟩,⟨2,false,3,[32,61,61,32]⟩,⟨2,false,3,[32,33,61,32]⟩,⟨2,false,3,[32,60,32]⟩,⟨2,false,3,[32,60,61,32]⟩,⟨2,false,3,[32,62,32]⟩,⟨2,false,3,[32,62,61,32]⟩,⟨2,false,2,[32,97,110,100,32]⟩,⟨2,false,1,[32,111,114,32]⟩]
def forms : List Frm := [⟨false,false,0,0,false,false⟩,⟨true,false,1,1,false,false⟩,⟨true,false,2,2,false,false⟩,⟨true,false,1,1,false,false⟩,⟨false,false,1,1,true,true⟩,⟨false,false,1,1,true,false⟩,⟨true,true,0,4,false,false⟩,⟨false,true,1,5,false,false⟩,⟨false,false,2,2,false,true⟩,⟨true,false,1,1,false,true⟩,⟨false,false,0,0,false,false⟩]
def shapeC (s : Shp) : List Value := [.int .i64 (s.n : Nat),.bool s.nm,.int .i64 (s.lv : Nat),strV s.tx]
def formC (s : Frm) : List Value := [.bool s.nm,.bool s.hd,.int .i64 (s.lo : Nat),.int .i64 (s.hi : Nat),.bool s.th,.bool s.el]
def okOp (op : UInt8) : Bool := decide (1 ≤ op.toNat) && decide (op.toNat ≤ 23)
def okKd (op : UInt8) : Bool := decide (1 ≤ op.toNat) && decide (op.toNat ≤ 10)
def shapeOf (op : UInt8) : Shp := if okOp op then shapes.getD op.toNat ⟨0,false,0,[]⟩ else ⟨0,false,0,[]⟩
def formOf (op : UInt8) : Frm := if okKd op then forms.getD op.toNat ⟨false,false,0,0,false,false⟩ else ⟨false,false,0,0,false,false⟩
theorem flat_at {α : Type} {f : α → List Value} {z : Nat} (hz : ∀ a,(f a).length = z) : ∀ {l : List α} {i : Nat} (d : α),i < l.length → ∀ (j : Nat) u,(f (l.getD i d))[j]? = some u → (l.flatMap f)[i * z + j]? = some u
 | [],i,d,h,j,u,e => by simp at h
 | a :: r,0,d,h,j,u,e => by
  simp only [List.flatMap_cons,Nat.zero_mul,Nat.zero_add]
  simp at e
  rw [List.getElem?_append_left (List.getElem?_eq_some_iff.1 e).1];exact e
 | a :: r,i + 1,d,h,j,u,e => by
  simp only [List.flatMap_cons]
  rw [List.getElem?_append_right (by rw [hz,Nat.succ_mul];omega),hz,show (i + 1) * z + j - z = i * z + j by rw [Nat.succ_mul];omega]
  exact flat_at hz d (by simpa using h) j u (by simpa using e)
structure Gl (H : Hp) : Prop where
 shapes : MemAt H 0 0 (shapes.flatMap shapeC)
 forms : MemAt H 3 0 (forms.flatMap formC)
 words : MemAt H 2 0 (words.map strV)
 symbols : MemAt H 1 0 (symbols.map strV)
theorem Gl.up {H H' : Hp} (g : Gl H) (u : Up H H') : Gl H' := ⟨g.shapes.up u,g.forms.up u,g.words.up u,g.symbols.up u⟩
mutual
def Ex.all (q : Ex → Bool) : Ex → Bool
 | .mk op nm n args => q (.mk op nm n args) && Ex.alls q args
def Ex.alls (q : Ex → Bool) : List Ex → Bool
 | [] => true
 | e :: r => Ex.all q e && Ex.alls q r
end
theorem alls_app (q : Ex → Bool) (a b : List Ex) : Ex.alls q (a ++ b) = (Ex.alls q a && Ex.alls q b) := by
 induction a with
 | nil => simp [Ex.alls]
 | cons e r ih => simp only [List.cons_append,Ex.alls,ih,Bool.and_assoc]
theorem alls_succ {q : Ex → Bool} {l : List Ex} {k : Nat} (h : k < l.length) : Ex.alls q (l.take (k + 1)) = (Ex.alls q (l.take k) && Ex.all q l[k]) := by
 rw [take_snoc h,alls_app];simp [Ex.alls]
theorem alls_bad {q : Ex → Bool} {l : List Ex} {k : Nat} (h : k < l.length) (hb : Ex.all q l[k] = false) : Ex.alls q l = false := by
 have h1 := alls_app q (l.take (k + 1)) (l.drop (k + 1))
 rw [List.take_append_drop,alls_succ h,hb] at h1
 simpa using h1
theorem all_mk (q : Ex → Bool) (op : UInt8) (nm : Str) (n : Int64) (args : List Ex) : Ex.all q (.mk op nm n args) = (q (.mk op nm n args) && Ex.alls q args) := by rw [Ex.all]
mutual
def Sm.all (q : Sm → Bool) : Sm → Bool
 | .mk kd nm hd ex th el => q (.mk kd nm hd ex th el) && Sm.alls q th && Sm.alls q el
def Sm.alls (q : Sm → Bool) : List Sm → Bool
 | [] => true
 | e :: r => Sm.all q e && Sm.alls q r
end
theorem salls_app (q : Sm → Bool) (a b : List Sm) : Sm.alls q (a ++ b) = (Sm.alls q a && Sm.alls q b) := by
 induction a with
 | nil => simp [Sm.alls]
 | cons e r ih => simp only [List.cons_append,Sm.alls,ih,Bool.and_assoc]
theorem salls_succ {q : Sm → Bool} {l : List Sm} {k : Nat} (h : k < l.length) : Sm.alls q (l.take (k + 1)) = (Sm.alls q (l.take k) && Sm.all q l[k]) := by
 rw [take_snoc h,salls_app];simp [Sm.alls]
theorem salls_bad {q : Sm → Bool} {l : List Sm} {k : Nat} (h : k < l.length) (hb : Sm.all q l[k] = false) : Sm.alls q l = false := by
 have h1 := salls_app q (l.take (k + 1)) (l.drop (k + 1))
 rw [List.take_append_drop,salls_succ h,hb] at h1
 simpa using h1
theorem sall_mk (q : Sm → Bool) (kd : UInt8) (nm hd : Str) (ex : List Ex) (th el : List Sm) : Sm.all q (.mk kd nm hd ex th el) = (q (.mk kd nm hd ex th el) && Sm.alls q th && Sm.alls q el) := by rw [Sm.all]
theorem salls_at {q : Sm → Bool} {l : List Sm} {k : Nat} (h : k < l.length) (ha : Sm.alls q l = true) : Sm.all q l[k] = true := by
 cases hb : Sm.all q l[k] with
 | true => rfl
 | false => rw [salls_bad h hb] at ha;cases ha
def okS1 : Sm → Bool
 | .mk _ _ _ ex _ _ => ex.all fun x => decide (x.depth ≤ 1000000)
def namE : Ex → Bool
 | .mk op nm _ _ => !(shapeOf op).nm || nameB nm
def frmE : Ex → Bool
 | .mk op nm n args => okOp op && decide (args.length = (shapeOf op).n) && ((shapeOf op).nm || decide (nm = [])) && (if op = 1 then decide (0 ≤ n.toInt) else decide (n.toInt = 0))
def checkE (e : Ex) : Nat := if 8 < e.depth then 3 else if Ex.all namE e = false then 9 else if Ex.all frmE e = false then 6 else 0
def namS : Sm → Bool
 | .mk kd nm hd ex _ _ => (!(formOf kd).nm || nameB nm) && (!(formOf kd).hd || nameB hd) && Ex.alls namE ex
def frmS : Sm → Bool
 | .mk kd nm hd ex th el => okKd kd && decide ((formOf kd).lo ≤ ex.length) && decide (ex.length ≤ (formOf kd).hi) && ((formOf kd).nm || decide (nm = [])) && ((formOf kd).hd || decide (hd = [])) &&
  ((formOf kd).th || decide (th.length = 0)) && ((formOf kd).el || decide (el.length = 0)) && Ex.alls frmE ex
theorem frmS_eq (kd : UInt8) (nm hd : Str) (ex : List Ex) (th el : List Sm) : frmS (.mk kd nm hd ex th el) =
 (!(!okKd kd || decide ((ex.length : Int) < ((formOf kd).lo : Nat)) || decide (((formOf kd).hi : Nat) < (ex.length : Int))) && !((!(formOf kd).nm && decide (¬ nm = [])) || (!(formOf kd).hd && decide (¬ hd = []))) &&
  !((!(formOf kd).th && decide ((0 : Int) < th.length)) || (!(formOf kd).el && decide ((0 : Int) < el.length))) && Ex.alls frmE ex) := by
 have h1 : decide ((ex.length : Int) < ((formOf kd).lo : Nat)) = !decide ((formOf kd).lo ≤ ex.length) := by rw [Bool.eq_iff_iff];simp
 have h2 : decide (((formOf kd).hi : Nat) < (ex.length : Int)) = !decide (ex.length ≤ (formOf kd).hi) := by rw [Bool.eq_iff_iff];simp
 have h3 : decide ((0 : Int) < th.length) = !decide (th.length = 0) := by rw [Bool.eq_iff_iff];simp only [decide_eq_true_eq,Bool.not_eq_true',decide_eq_false_iff_not];omega
 have h4 : decide ((0 : Int) < el.length) = !decide (el.length = 0) := by rw [Bool.eq_iff_iff];simp only [decide_eq_true_eq,Bool.not_eq_true',decide_eq_false_iff_not];omega
 have h5 : decide (¬ nm = []) = !decide (nm = []) := by simp
 have h6 : decide (¬ hd = []) = !decide (hd = []) := by simp
 rw [frmS,h1,h2,h3,h4,h5,h6]
 generalize decide ((formOf kd).lo ≤ ex.length) = a1
 generalize decide (ex.length ≤ (formOf kd).hi) = a2
 generalize decide (th.length = 0) = a3
 generalize decide (el.length = 0) = a4
 generalize decide (nm = []) = a5
 generalize decide (hd = []) = a6
 cases okKd kd <;> cases a1 <;> cases a2 <;> cases (formOf kd).nm <;> cases a5 <;> cases (formOf kd).hd <;> cases a6 <;> cases (formOf kd).th <;> cases a3 <;> cases (formOf kd).el <;> cases a4 <;> simp
def smaS : Sm → Bool
 | .mk _ _ _ ex _ _ => ex.all fun x => decide (x.depth ≤ 8)
def smaH (h : Hd) : Bool := !(decide (4 < h.ps.length) || decide (40 < Sm.counts h.body) || decide (8 < Sm.deeps h.body)) && Sm.alls smaS h.body
def namH (h : Hd) : Bool := nameB h.nm && h.ps.all nameB && Sm.alls namS h.body
def frmH (h : Hd) : Bool := Sm.alls frmS h.body
def okH (h : Hd) : Bool := decide (Sm.counts h.body ≤ 1000000) && decide (Sm.deeps h.body ≤ 1000000) && Sm.alls okS1 h.body
def evH (q : Hd → Bool) (f : Ft) : Bool := f.comps.all fun c => c.vers.all fun v => v.all q
def frmV (v : Vr) : Bool := if v.ty = 1 then decide (v.init.toInt ≠ -9223372036854775808) else if v.ty = 2 then decide (v.init.toInt = 0 ∨ v.init.toInt = 1) else if v.ty = 3 then decide (v.init.toInt = 0) else false
theorem lall_succ {α : Type} {q : α → Bool} {l : List α} {k : Nat} (h : k < l.length) : (l.take (k + 1)).all q = ((l.take k).all q && q l[k]) := by
 rw [take_snoc h,List.all_append];simp
theorem lall_bad {α : Type} {q : α → Bool} {l : List α} {k : Nat} (h : k < l.length) (hb : q l[k] = false) : l.all q = false := by
 rw [List.all_eq_false]
 exact ⟨l[k],List.getElem_mem h,by simp [hb]⟩
theorem lall_at {α : Type} {q : α → Bool} {l : List α} {k : Nat} (h : k < l.length) (ha : l.all q = true) : q l[k] = true := List.all_eq_true.1 ha _ (List.getElem_mem h)
def cpAll (q : Hd → Bool) (c : Cp) : Bool := c.vers.all fun v => v.all q
theorem evH_eq (q : Hd → Bool) (f : Ft) : evH q f = f.comps.all (cpAll q) := rfl
def namF (f : Ft) : Bool := nameB f.nm && f.flags.all (fun x => nameB x.nm) && f.links.all (fun x => nameB x.fr && nameB x.to) && f.comps.all (fun c => nameB c.nm && c.vars.all fun v => nameB v.nm) && evH namH f
def lkB (x : Lk) : Bool := decide (1 ≤ x.lat.toInt) && decide (x.lat.toInt ≤ 50)
def frmF (f : Ft) : Bool := f.links.all lkB && f.comps.all (fun c => c.vars.all frmV) && evH frmH f
def stepH (ks : List Str) (h : Hd) : List Str := addK ks h.nm
def stepV (ks : List Str) (v : List Hd) : List Str := v.foldl stepH ks
def namesOf (c : Cp) : List Str := c.vers.foldl stepV []
theorem fold_succ {α β : Type} {f : β → α → β} {a : β} {l : List α} {k : Nat} (h : k < l.length) : (l.take (k + 1)).foldl f a = f ((l.take k).foldl f a) l[k] := by
 rw [take_snoc h,List.foldl_append];rfl
def limF (f : Ft) : Bool := decide (1 ≤ f.comps.length) && decide (f.comps.length ≤ 8) && decide (f.flags.length ≤ 8) && decide (f.links.length ≤ 64)
def smlC (c : Cp) : Bool := decide (c.vars.length ≤ 8) && decide (1 ≤ c.vers.length) && decide (c.vers.length ≤ 3) && decide ((namesOf c).length ≤ 8)
def smlF (f : Ft) : Bool := limF f && (f.comps.all smlC && evH smaH f)
def checkF (f : Ft) : Nat := if smlF f = false then 3 else if namF f = false then 9 else if frmF f = false then 6 else 0
def opT (least : Nat) (x : Nat × Str) : Str := if x.1 < least then [40] ++ x.2 ++ [41] else x.2
def lftT (lv : Nat) : Nat := if lv = 3 then lv + 1 else lv
def txt (op : UInt8) (nm : Str) (n : Int64) (ls : List (Nat × Str)) : Str :=
 if op = 1 then Lib.itoa n.toInt
 else if op = 5 ∨ op = 8 then (shapeOf op).tx ++ nm
 else if op = 6 ∨ op = 7 then (shapeOf op).tx ++ nm ++ [91] ++ (ls.getD 0 (0,[])).2 ++ [93]
 else if op = 9 ∨ op = 10 then (shapeOf op).tx ++ opT (shapeOf op).lv (ls.getD 0 (0,[]))
 else if (shapeOf op).n = 0 then (shapeOf op).tx
 else opT (lftT (shapeOf op).lv) (ls.getD 0 (0,[])) ++ (shapeOf op).tx ++ opT ((shapeOf op).lv + 1) (ls.getD 1 (0,[]))
mutual
def Ex.text : Ex → Str
 | .mk op nm n args => txt op nm n (Ex.texts args)
def Ex.texts : List Ex → List (Nat × Str)
 | [] => []
 | e :: r => ((shapeOf e.op).lv,Ex.text e) :: Ex.texts r
end
theorem texts_map : ∀ l : List Ex,Ex.texts l = l.map fun e => ((shapeOf e.op).lv,Ex.text e)
 | [] => rfl
 | e :: r => by rw [Ex.texts,texts_map r];rfl
theorem text_mk (op : UInt8) (nm : Str) (n : Int64) (args : List Ex) : Ex.text (.mk op nm n args) = txt op nm n (args.map fun e => ((shapeOf e.op).lv,Ex.text e)) := by rw [Ex.text,texts_map]
def spT : Nat → Str
 | 0 => []
 | k + 1 => spT k ++ [32,32]
def lineT (ind : Nat) (parts : List Str) : Str := spT ind ++ parts.flatten ++ [10]
def joinT (l : List Str) : Str := Lib.join l [44,32]
def diskT (n : Nat) (first : Str) (noE : Bool) (E : Str) : Str := if noE then lineT n [first,[59]] else lineT n [first,[32,101,108,115,101,32,123]] ++ E ++ lineT n [[125]]
def stT (n : Nat) (kd : UInt8) (nm hd : Str) (es : List Str) (T : Str) (noE : Bool) (E : Str) : Str :=
 if kd = 1 then lineT n [nm,[32,61,32],es.getD 0 [],[59]]
 else if kd = 2 then lineT n [nm,[91],es.getD 0 [],[93,32,61,32],es.getD 1 [],[59]]
 else if kd = 3 then lineT n [[100,101,108,101,116,101,32],nm,[91],es.getD 0 [],[93,59]]
 else if kd = 4 then lineT n [[105,102,32],es.getD 0 [],[32,123]] ++ T ++ (if noE then [] else lineT n [[125,32,101,108,115,101,32,123]] ++ E) ++ lineT n [[125]]
 else if kd = 5 then lineT n [[119,104,105,108,101,32],es.getD 0 [],[32,123]] ++ T ++ lineT n [[125]]
 else if kd = 6 then lineT n [[115,101,110,100,32],nm,[46],hd,[40],joinT es,[41,59]]
 else if kd = 7 then lineT n [[97,102,116,101,114,32],es.getD 0 [],[32,100,111,32],hd,[40],joinT (es.drop 1),[41,59]]
 else if kd = 8 then diskT n ([115,116,111,114,101,32] ++ es.getD 0 [] ++ [32,61,32] ++ es.getD 1 []) noE E
 else if kd = 9 then diskT n ([102,101,116,99,104,32] ++ nm ++ [32,61,32] ++ es.getD 0 []) noE E
 else if kd = 10 then lineT n [[115,116,111,112,59]]
 else []
mutual
def Sm.text (n : Nat) : Sm → Str
 | .mk kd nm hd ex th el => stT n kd nm hd (ex.map Ex.text) (Sm.texts (n + 1) th) (decide (el.length = 0)) (Sm.texts (n + 1) el)
def Sm.texts (n : Nat) : List Sm → Str
 | [] => []
 | s :: r => Sm.text n s ++ Sm.texts n r
end
theorem stext_mk (n : Nat) (kd : UInt8) (nm hd : Str) (ex : List Ex) (th el : List Sm) : Sm.text n (.mk kd nm hd ex th el) = stT n kd nm hd (ex.map Ex.text) (Sm.texts (n + 1) th) (decide (el.length = 0)) (Sm.texts (n + 1) el) := by rw [Sm.text]
theorem name_len {l : Str} (h : nameB l = true) : l.length ≤ 12 := by
 simp only [nameB,Bool.and_eq_true,decide_eq_true_eq,beq_iff_eq] at h
 obtain ⟨⟨_,h1⟩,h2⟩ := h
 unfold readK at h1 h2
 dsimp only at h1 h2
 split at h1
 ·split at h1
  ·simp at h1
  ·split at h1
   ·rename_i a b c
    simp only [a,b,c,if_true,Bool.false_eq_true,if_false] at h2
    omega
   ·simp at h1
 ·split at h1
  ·split at h1 <;> simp at h1
  ·split at h1 <;> simp at h1
theorem alls_mem {q : Ex → Bool} : ∀ {l : List Ex} {a : Ex},a ∈ l → Ex.alls q l = true → Ex.all q a = true
 | [],a,h,_ => by cases h
 | b :: r,a,h,k => by
  rw [Ex.alls,Bool.and_eq_true] at k
  rcases List.mem_cons.1 h with rfl | h
  ·exact k.1
  ·exact alls_mem h k.2
structure Nd where
 op : UInt8
 nm : UInt8
 ct : UInt8
 odd : Bool
 n : Int64
def narrow (e : Ex) : Bool := decide (e.args.length ≤ 3)
theorem narrow_mk (op : UInt8) (nm : Str) (n : Int64) (args : List Ex) : narrow (.mk op nm n args) = decide (args.length ≤ 3) := rfl
def blkB (c : UInt8) : Bool := decide (c = 32) || decide (c = 9) || decide (c = 10) || decide (c = 13)
def skipS : Bool → Str → Str
 | _,[] => []
 | true,c :: r => if c = 10 then skipS false r else skipS true r
 | false,c :: r => if blkB c then skipS false r else if c = 47 ∧ r.head? = some 47 then skipS true r else c :: r
theorem skipS_nil (b : Bool) : skipS b [] = [] := by cases b <;> rfl
theorem skipS_com {c : UInt8} {r : Str} (h : ¬ c = 10) : skipS true (c :: r) = skipS true r := by rw [skipS,if_neg h]
theorem skipS_end (r : Str) : skipS true (10 :: r) = skipS false (10 :: r) := by rw [skipS,if_pos rfl,skipS,if_pos (by decide)]
theorem skipS_blk {c : UInt8} {r : Str} (h : blkB c = true) : skipS false (c :: r) = skipS false r := by rw [skipS,if_pos h]
theorem skipS_two (r : Str) : skipS false (47 :: 47 :: r) = skipS true (47 :: 47 :: r) := by simp [skipS,blkB]
theorem skipS_stop {c : UInt8} {r : Str} (h : blkB c = false) (h2 : ¬ (c = 47 ∧ r.head? = some 47)) : skipS false (c :: r) = c :: r := by rw [skipS,if_neg (by simp [h]),if_neg h2]
theorem skipS_suf : ∀ (l : Str) (b : Bool),∃ p,l = p ++ skipS b l
 | [],b => ⟨[],by rw [skipS_nil];rfl⟩
 | c :: r,true => by
  rw [skipS]
  split
  ·obtain ⟨p,h⟩ := skipS_suf r false;exact ⟨c :: p,by rw [List.cons_append,← h]⟩
  ·obtain ⟨p,h⟩ := skipS_suf r true;exact ⟨c :: p,by rw [List.cons_append,← h]⟩
 | c :: r,false => by
  rw [skipS]
  split
  ·obtain ⟨p,h⟩ := skipS_suf r false;exact ⟨c :: p,by rw [List.cons_append,← h]⟩
  ·split
   ·obtain ⟨p,h⟩ := skipS_suf r true;exact ⟨c :: p,by rw [List.cons_append,← h]⟩
   ·exact ⟨[],rfl⟩
theorem skipS_len (b : Bool) (l : Str) : (skipS b l).length ≤ l.length := by
 obtain ⟨p,h⟩ := skipS_suf l b
 have := congrArg List.length h
 rw [List.length_append] at this;omega
theorem skipS_drop (b : Bool) (l : Str) : l.drop (l.length - (skipS b l).length) = skipS b l := by
 obtain ⟨p,h⟩ := skipS_suf l b
 generalize skipS b l = q at h
 subst h
 rw [show (p ++ q).length - q.length = p.length by rw [List.length_append];omega,List.drop_left]
theorem readK_bnd {l : Str} (h : l ≠ []) : 1 ≤ (readK l).2 ∧ (readK l).2 ≤ l.length := by
 match l,h with
 | c :: r,_ =>
  have hp : ∀ q : UInt8 → Bool,q c = true → 1 ≤ pre q (c :: r) := fun q hq => by unfold pre;rw [List.takeWhile_cons,hq];simp
  cases h1 : letB c with
  | true =>
   have h2 := hp insB (by simp [insB,h1])
   have h3 := pre_le insB (c :: r)
   cases h4 : words.contains ((c :: r).take (pre insB (c :: r))) with
   | true => simp only [readK,List.headD_cons,h1,h4,if_true];exact ⟨h2,h3⟩
   | false =>
    by_cases h5 : pre insB (c :: r) ≤ 12
    ·simp only [readK,List.headD_cons,h1,h4,h5,if_true,Bool.false_eq_true,if_false];exact ⟨h2,h3⟩
    ·simp only [readK,List.headD_cons,h1,h4,h5,if_true,Bool.false_eq_true,if_false];simp
  | false =>
   cases h4 : digB c with
   | true =>
    have h2 := hp digB h4
    have h3 := pre_le digB (c :: r)
    by_cases h5 : pre digB (c :: r) = 1 ∨ c ≠ 48
    ·simp only [readK,List.headD_cons,h1,h4,h5,if_true,Bool.false_eq_true,if_false];exact ⟨h2,h3⟩
    ·simp only [readK,List.headD_cons,h1,h4,h5,if_true,Bool.false_eq_true,if_false];simp
   | false =>
    cases hx : symbols.find? (fun x => x.isPrefixOf (c :: r)) with
    | none => simp only [readK,List.headD_cons,h1,h4,hx,Bool.false_eq_true,if_false];simp
    | some x =>
     have hm := List.mem_of_find?_eq_some hx
     have hpx := List.find?_some hx
     have hl : x.length ≤ (c :: r).length := by
      obtain ⟨t,ht⟩ := List.isPrefixOf_iff_prefix.1 hpx
      rw [← ht];simp
     have key : ∀ y ∈ symbols,1 ≤ y.length := by decide
     simp only [readK,List.headD_cons,h1,h4,hx,Bool.false_eq_true,if_false]
     exact ⟨key x hm,hl⟩
theorem readK_one {c : UInt8} {r : Str} (h : (readK (c :: r)).1 = 1) : letB c = true := by
 cases h1 : letB c with
 | true => rfl
 | false =>
  cases h4 : digB c with
  | true =>
   by_cases h5 : pre digB (c :: r) = 1 ∨ c ≠ 48
   ·simp only [readK,List.headD_cons,h1,h4,h5,if_true,Bool.false_eq_true,if_false] at h;simp at h
   ·simp only [readK,List.headD_cons,h1,h4,h5,if_true,Bool.false_eq_true,if_false] at h;simp at h
  | false =>
   cases hx : symbols.find? (fun x => x.isPrefixOf (c :: r)) <;> simp only [readK,List.headD_cons,h1,h4,hx,Bool.false_eq_true,if_false] at h <;> simp at h
structure Tk where
 k : UInt8
 t : Str
 o : Nat
def dTk (k : IntKind) (x : Tk) : D := .str [.val (.int k x.k.toNat),.val (strV x.t),.val (.int .i64 (x.o : Nat))]
def cTk (k : IntKind) (x : Tk) : List Value := [.int k x.k.toNat,strV x.t,.int .i64 (x.o : Nat)]
theorem tk_open {H : Hp} {k : IntKind} {x : Tk} {cs : List Value} (h : Rep H (dTk k x) cs) : cs = cTk k x ∧ x.t.length ≤ 1000000 := by
 rw [dTk,repS] at h
 obtain ⟨_,rfl,_,_,h⟩ := repL_val.1 h
 obtain ⟨_,rfl,_,k0,h⟩ := repL_val.1 h
 obtain ⟨_,rfl,_,_,h⟩ := repL_val.1 h
 rw [repL_nil] at h
 subst h
 exact ⟨rfl,okS.1 k0⟩
theorem tk_shut {H : Hp} {k : IntKind} {x : Tk} (h : x.t.length ≤ 1000000) : Rep H (dTk k x) (cTk k x) := by
 rw [dTk,repS]
 exact repL_val.2 ⟨_,rfl,rfl,trivial,repL_val.2 ⟨_,rfl,rfl,okS.2 h,repL_val.2 ⟨_,rfl,rfl,trivial,repL_nil.2 rfl⟩⟩⟩
def tokF : Nat → Nat → Str → List Tk
 | 0,_,_ => []
 | f + 1,o,m => if m = [] then [] else ⟨(readK m).1,m.take (readK m).2,o⟩ :: tokF f (o + (m.length - (skipS false (m.drop (readK m).2)).length)) (skipS false (m.drop (readK m).2))
def lexR (s : Str) : List Tk := tokF (s.length + 1) (s.length - (skipS false s).length) (skipS false s)
theorem tokF_step {f o : Nat} {m : Str} (h : m ≠ []) : tokF (f + 1) o m = ⟨(readK m).1,m.take (readK m).2,o⟩ :: tokF f (o + (m.length - (skipS false (m.drop (readK m).2)).length)) (skipS false (m.drop (readK m).2)) := by rw [tokF,if_neg h]
theorem tokF_nil (f o : Nat) : tokF f o [] = [] := by cases f <;> simp [tokF]
theorem tokF_more : ∀ (f g o : Nat) (m : Str),m.length < f → m.length < g → tokF f o m = tokF g o m
 | 0,_,_,_,h,_ => by omega
 | _,0,_,_,_,h => by omega
 | f + 1,g + 1,o,m,h,k => by
  by_cases h0 : m = []
  ·subst h0;rw [tokF_nil,tokF_nil]
  ·rw [tokF_step h0,tokF_step h0]
   have hr := readK_bnd h0
   have hs := skipS_len false (m.drop (readK m).2)
   rw [List.length_drop] at hs
   rw [tokF_more f g _ _ (by omega) (by omega)]
end Go.Proofs.YthhoebdlfjffkaaGreatDoor
namespace Go.Proofs.YthhoebdlfjffkaaGreatDoor
inductive Rs (α : Type) where
 | ok (a : α) (r : List Tk)
 | er (r : List Tk) (code : Nat)
def Rs.bind {α β : Type} (x : Rs α) (f : α → List Tk → Rs β) : Rs β := match x with | .ok a r => f a r | .er r c => .er r c
def isT (w : Str) : List Tk → Bool
 | [] => false
 | t :: _ => (t.k == 2 || t.k == 4) && decide (t.t = w)
def needT {α : Type} (w : Str) (r : List Tk) (f : List Tk → Rs α) : Rs α := if isT w r then f r.tail else .er r 8
def nameT {α : Type} (r : List Tk) (f : Str → List Tk → Rs α) : Rs α := match r with | [] => .er r 8 | t :: q => if t.k = 1 then f t.t q else .er r 8
def numV (s : Str) : Nat := s.foldl (fun v c => 10 * v + (c.toNat - 48)) 0
def opsL : Nat → List (Str × UInt8)
 | 0 => [([111,114],23)]
 | 1 => [([97,110,100],22)]
 | 2 => [([61,61],16),([33,61],17),([60],18),([60,61],19),([62],20),([62,61],21)]
 | 3 => [([43],14),([45],15)]
 | _ => [([42],11),([47],12),([37],13)]
def opAt (lv : Nat) (r : List Tk) : Option UInt8 := ((opsL lv).find? fun x => isT x.1 r).map (·.2)
inductive Md where
 | ex (lv : Nat)
 | lp (lv : Nat) (a : Ex)
def opE (op : UInt8) (l : List Ex) : Ex := .mk op [] 0 l
def primE (rec : List Tk → Rs Ex) (r : List Tk) : Rs Ex :=
 match r with
 | [] => .er r 8
 | t :: q =>
  if t.k = 3 then (if numV t.t ≤ 9223372036854775807 then .ok (.mk 1 [] (Int64.ofNat (numV t.t)) []) q else .er r 2)
  else if isT [116,114,117,101] r then .ok (opE 2 []) q
  else if isT [102,97,108,115,101] r then .ok (opE 3 []) q
  else if isT [110,111,119] r then .ok (opE 4 []) q
  else if isT [115,105,122,101] r then nameT q fun s r2 => .ok (.mk 8 s 0 []) r2
  else if isT [40] r then (rec q).bind fun x r2 => needT [41] r2 fun r3 => .ok x r3
  else if isT [104,97,115] r then nameT q fun s r2 => needT [91] r2 fun r3 => (rec r3).bind fun x r4 => needT [93] r4 fun r5 => .ok (.mk 7 s 0 [x]) r5
  else if t.k = 1 then (if isT [91] q then (rec q.tail).bind fun x r4 => needT [93] r4 fun r5 => .ok (.mk 6 t.t 0 [x]) r5 else .ok (.mk 5 t.t 0 []) q)
  else .er r 8
def pE : Nat → Md → List Tk → Rs Ex
 | 0,_,r => .er r 99
 | f + 1,.ex lv,r =>
  if lv < 5 then (pE f (.ex (lv + 1)) r).bind fun a r1 => pE f (.lp lv a) r1
  else if isT [45] r then (pE f (.ex 5) r.tail).bind fun x r2 => .ok (opE 9 [x]) r2
  else if isT [110,111,116] r then (pE f (.ex 5) r.tail).bind fun x r2 => .ok (opE 10 [x]) r2
  else primE (pE f (.ex 0)) r
 | f + 1,.lp lv a,r =>
  match opAt lv r with
  | none => .ok a r
  | some op => (pE f (.ex (lv + 1)) r.tail).bind fun b r2 => if lv = 2 then .ok (opE op [a,b]) r2 else pE f (.lp lv (opE op [a,b])) r2
/-! ### Enough fuel -/
theorem ifC {α : Type} {c : Prop} [Decidable c] {x y u v : α} (h1 : x = u) (h2 : y = v) : (if c then x else y) = (if c then u else v) := by rw [h1,h2]
theorem ifI {α : Type} {c d : Prop} [Decidable c] [Decidable d] {x y : α} (h : c ↔ d) : (if c then x else y) = (if d then x else y) := by
 by_cases e : c
 ·rw [if_pos e,if_pos (h.1 e)]
 ·rw [if_neg e,if_neg (fun k => e (h.2 k))]
theorem isT_ne {w : Str} {r : List Tk} (h : isT w r = true) : r.length = r.tail.length + 1 := by cases r with | nil => cases h | cons t q => rfl
theorem opAt_ne {lv : Nat} {r : List Tk} {op : UInt8} (h : opAt lv r = some op) : r.length = r.tail.length + 1 := by
 unfold opAt at h
 obtain ⟨x,hx,_⟩ := Option.map_eq_some_iff.1 h
 exact isT_ne (w := x.1) (by have := List.find?_some hx;exact this)
theorem Rs.bind_ok {α β : Type} {x : Rs α} {f : α → List Tk → Rs β} {b : β} {r : List Tk} (h : x.bind f = .ok b r) : ∃ a q,x = .ok a q ∧ f a q = .ok b r := by
 cases x with
 | ok a q => exact ⟨a,q,rfl,h⟩
 | er q c => cases h
theorem needT_ok {α : Type} {w : Str} {r : List Tk} {f : List Tk → Rs α} {a : α} {q : List Tk} (h : needT w r f = .ok a q) : isT w r = true ∧ f r.tail = .ok a q := by
 unfold needT at h
 split at h
 ·rename_i e;exact ⟨e,h⟩
 ·cases h
theorem nameT_ok {α : Type} {r : List Tk} {f : Str → List Tk → Rs α} {a : α} {q : List Tk} (h : nameT r f = .ok a q) : ∃ t r',r = t :: r' ∧ t.k = 1 ∧ f t.t r' = .ok a q := by
 unfold nameT at h
 cases r with
 | nil => cases h
 | cons t r' =>
  by_cases e : t.k = 1
  ·simp only [e,if_true] at h;exact ⟨t,r',rfl,e,h⟩
  ·simp only [e,if_false] at h;cases h
theorem primE_len {rec : List Tk → Rs Ex} (hr : ∀ q a r',rec q = .ok a r' → r'.length ≤ q.length) {r : List Tk} {a : Ex} {r' : List Tk} (h : primE rec r = .ok a r') : r'.length < r.length := by
 unfold primE at h
 cases r with
 | nil => cases h
 | cons t q =>
  simp only at h
  have fin : ∀ {b : Ex} {l : List Tk},(Rs.ok b l : Rs Ex) = .ok a r' → l.length ≤ q.length → r'.length < (t :: q).length := by
   intro b l e hl;injection e with _ e;subst e;simp;omega
  split at h
  ·split at h
   ·exact fin h (Nat.le_refl _)
   ·cases h
  split at h
  ·exact fin h (Nat.le_refl _)
  split at h
  ·exact fin h (Nat.le_refl _)
  split at h
  ·exact fin h (Nat.le_refl _)
  split at h
  ·obtain ⟨t2,r2,rfl,_,h⟩ := nameT_ok h
   exact fin h (by simp)
  split at h
  ·obtain ⟨x,r2,h1,h⟩ := Rs.bind_ok h
   obtain ⟨h2,h⟩ := needT_ok h
   have := hr _ _ _ h1
   have := isT_ne h2
   exact fin h (by omega)
  split at h
  ·obtain ⟨t2,r2,rfl,_,h⟩ := nameT_ok h
   obtain ⟨h2,h⟩ := needT_ok h
   obtain ⟨x,r4,h1,h⟩ := Rs.bind_ok h
   obtain ⟨h3,h⟩ := needT_ok h
   have := hr _ _ _ h1
   have := isT_ne h2
   have := isT_ne h3
   exact fin h (by simp;omega)
  split at h
  ·split at h
   ·rename_i h2
    obtain ⟨x,r4,h1,h⟩ := Rs.bind_ok h
    obtain ⟨h3,h⟩ := needT_ok h
    have := hr _ _ _ h1
    have := isT_ne h2
    have := isT_ne h3
    exact fin h (by omega)
   ·exact fin h (Nat.le_refl _)
  ·cases h
theorem pE_len : ∀ (f : Nat),(∀ lv r a r',pE f (.ex lv) r = .ok a r' → r'.length < r.length) ∧ (∀ lv x r a r',pE f (.lp lv x) r = .ok a r' → r'.length ≤ r.length)
 | 0 => ⟨fun _ _ _ _ h => (by cases h),fun _ _ _ _ _ h => (by cases h)⟩
 | f + 1 => by
  obtain ⟨ih1,ih2⟩ := pE_len f
  refine ⟨fun lv r a r' h => ?_,fun lv x r a r' h => ?_⟩
  ·unfold pE at h
   split at h
   ·obtain ⟨b,q,h1,h2⟩ := Rs.bind_ok h
    have := ih1 _ _ _ _ h1
    have := ih2 _ _ _ _ _ h2
    omega
   split at h
   ·rename_i e
    obtain ⟨b,q,h1,h2⟩ := Rs.bind_ok h
    have := ih1 _ _ _ _ h1
    have := isT_ne e
    injection h2 with _ e2;subst e2;omega
   split at h
   ·rename_i e
    obtain ⟨b,q,h1,h2⟩ := Rs.bind_ok h
    have := ih1 _ _ _ _ h1
    have := isT_ne e
    injection h2 with _ e2;subst e2;omega
   ·exact primE_len (fun q b r2 e => Nat.le_of_lt (ih1 _ _ _ _ e)) h
  ·unfold pE at h
   split at h
   ·injection h with _ e;subst e;exact Nat.le_refl _
   ·rename_i op e
    obtain ⟨b,q,h1,h2⟩ := Rs.bind_ok h
    have := ih1 _ _ _ _ h1
    have := opAt_ne e
    split at h2
    ·injection h2 with _ e2;subst e2;omega
    ·have := ih2 _ _ _ _ _ h2
     omega
theorem Rs.bind_congr {α β : Type} {x y : Rs α} {f g : α → List Tk → Rs β} (h : x = y) (k : ∀ a r,x = .ok a r → f a r = g a r) : x.bind f = y.bind g := by
 subst h
 cases x with
 | ok a r => exact k a r rfl
 | er r c => rfl
theorem primE_congr {rec rec' : List Tk → Rs Ex} {r : List Tk} (h : ∀ q,q.length < r.length → rec q = rec' q) : primE rec r = primE rec' r := by
 unfold primE
 cases r with
 | nil => rfl
 | cons t q =>
  have hb : ∀ (z : List Tk) (g : Ex → List Tk → Rs Ex),z.length ≤ q.length → (rec z).bind g = (rec' z).bind g := fun z g hz => by rw [h z (by simp;omega)]
  have ht : ∀ z : List Tk,z.tail.length ≤ z.length := fun z => by simp
  simp only
  rw [hb q _ (Nat.le_refl _),hb q.tail _ (ht q)]
  refine ifC rfl (ifC rfl (ifC rfl (ifC rfl (ifC rfl (ifC rfl (ifC ?_ rfl))))))
  unfold nameT
  cases q with
  | nil => rfl
  | cons t2 r2 =>
   simp only
   refine ifC ?_ rfl
   unfold needT
   refine ifC ?_ rfl
   exact hb _ _ (by simp;omega)
def fuelE : Md → List Tk → Nat
 | .ex lv,r => 16 * r.length + 9 - lv
 | .lp _ _,r => 16 * r.length + 9
theorem pE_ex (f lv : Nat) (r : List Tk) : pE (f + 1) (.ex lv) r = if lv < 5 then (pE f (.ex (lv + 1)) r).bind fun a r1 => pE f (.lp lv a) r1
 else if isT [45] r then (pE f (.ex 5) r.tail).bind fun x r2 => .ok (opE 9 [x]) r2
 else if isT [110,111,116] r then (pE f (.ex 5) r.tail).bind fun x r2 => .ok (opE 10 [x]) r2
 else primE (pE f (.ex 0)) r := by rw [pE]
theorem pE_lp (f lv : Nat) (a : Ex) (r : List Tk) : pE (f + 1) (.lp lv a) r = match opAt lv r with
 | none => .ok a r
 | some op => (pE f (.ex (lv + 1)) r.tail).bind fun b r2 => if lv = 2 then .ok (opE op [a,b]) r2 else pE f (.lp lv (opE op [a,b])) r2 := by rw [pE]
theorem pE_fuel : ∀ (f : Nat),(∀ lv r,lv ≤ 5 → fuelE (.ex lv) r ≤ f → pE (f + 1) (.ex lv) r = pE f (.ex lv) r) ∧ (∀ lv x r,lv ≤ 4 → fuelE (.lp lv x) r ≤ f → pE (f + 1) (.lp lv x) r = pE f (.lp lv x) r)
 | 0 => ⟨fun lv r h1 h => by simp only [fuelE] at h;omega,fun lv x r h1 h => by simp only [fuelE] at h;omega⟩
 | f + 1 => by
  obtain ⟨ih1,ih2⟩ := pE_fuel f
  simp only [fuelE] at ih1 ih2 ⊢
  refine ⟨fun lv r h5 h => ?_,fun lv x r h4 h => ?_⟩
  ·rw [pE_ex (f + 1) lv r,pE_ex f lv r]
   by_cases hlv : lv < 5
   ·rw [if_pos hlv,if_pos hlv]
    refine Rs.bind_congr (ih1 _ _ (by omega) (by omega)) fun a q e => ?_
    have := (pE_len (f + 1)).1 _ _ _ _ e
    exact ih2 _ _ _ (by omega) (by omega)
   rw [if_neg hlv,if_neg hlv]
   by_cases e : isT [45] r = true
   ·have := isT_ne e
    rw [if_pos e,if_pos e]
    exact Rs.bind_congr (ih1 _ _ (by omega) (by omega)) fun _ _ _ => rfl
   rw [if_neg e,if_neg e]
   by_cases e : isT [110,111,116] r = true
   ·have := isT_ne e
    rw [if_pos e,if_pos e]
    exact Rs.bind_congr (ih1 _ _ (by omega) (by omega)) fun _ _ _ => rfl
   rw [if_neg e,if_neg e]
   exact primE_congr fun q hq => ih1 _ _ (by omega) (by omega)
  ·rw [pE_lp (f + 1) lv x r,pE_lp f lv x r]
   cases e : opAt lv r with
   | none => rfl
   | some op =>
    simp only
    have := opAt_ne e
    refine Rs.bind_congr (ih1 _ _ (by omega) (by omega)) fun a q e => ?_
    have := (pE_len (f + 1)).1 _ _ _ _ e
    refine ifC rfl ?_
    exact ih2 _ _ _ (by omega) (by omega)
theorem pE_more {f g lv : Nat} {r : List Tk} (h5 : lv ≤ 5) (h : fuelE (.ex lv) r ≤ f) (hg : f ≤ g) : pE g (.ex lv) r = pE f (.ex lv) r := by
 induction g with
 | zero => have : f = 0 := by omega
           rw [this]
 | succ g ih =>
  by_cases e : f = g + 1
  ·rw [e]
  ·rw [(pE_fuel g).1 lv r h5 (by omega)];exact ih (by omega)
theorem pE_morel {f g lv : Nat} {a : Ex} {r : List Tk} (h5 : lv ≤ 4) (h : fuelE (.lp lv a) r ≤ f) (hg : f ≤ g) : pE g (.lp lv a) r = pE f (.lp lv a) r := by
 induction g with
 | zero => have : f = 0 := by omega
           rw [this]
 | succ g ih =>
  by_cases e : f = g + 1
  ·rw [e]
  ·rw [(pE_fuel g).2 lv a r h5 (by omega)];exact ih (by omega)
def pX (lv : Nat) (r : List Tk) : Rs Ex := pE (16 * r.length + 9) (.ex lv) r
def pL (lv : Nat) (a : Ex) (r : List Tk) : Rs Ex := pE (16 * r.length + 9) (.lp lv a) r
theorem pX_of {f lv : Nat} {r : List Tk} (h5 : lv ≤ 5) (h : fuelE (.ex lv) r ≤ f) : pE f (.ex lv) r = pX lv r := by
 unfold pX
 rcases Nat.le_total f (16 * r.length + 9) with h1 | h1
 ·rw [pE_more h5 h h1]
 ·rw [pE_more h5 (by simp only [fuelE];omega) h1]
theorem pL_of {f lv : Nat} {a : Ex} {r : List Tk} (h5 : lv ≤ 4) (h : fuelE (.lp lv a) r ≤ f) : pE f (.lp lv a) r = pL lv a r := by
 unfold pL
 rcases Nat.le_total f (16 * r.length + 9) with h1 | h1
 ·rw [pE_morel h5 h h1]
 ·rw [pE_morel h5 (by simp only [fuelE];omega) h1]
theorem pX_low {lv : Nat} {r : List Tk} (h : lv < 5) : pX lv r = (pX (lv + 1) r).bind fun a q => pL lv a q := by
 conv => lhs;unfold pX
 rw [show 16 * r.length + 9 = (16 * r.length + 8) + 1 by omega,pE_ex,if_pos h]
 refine Rs.bind_congr (pX_of (by omega) (by simp only [fuelE];omega)) fun a q e => ?_
 have := (pE_len _).1 _ _ _ _ e
 exact pL_of (by omega) (by simp only [fuelE];omega)
theorem pX_un {r : List Tk} : pX 5 r = if isT [45] r then (pX 5 r.tail).bind fun x r2 => .ok (opE 9 [x]) r2 else if isT [110,111,116] r then (pX 5 r.tail).bind fun x r2 => .ok (opE 10 [x]) r2 else primE (pX 0) r := by
 conv => lhs;unfold pX
 rw [show 16 * r.length + 9 = (16 * r.length + 8) + 1 by omega,pE_ex,if_neg (by omega)]
 by_cases e : isT [45] r = true
 ·have := isT_ne e
  rw [if_pos e,if_pos e]
  exact Rs.bind_congr (pX_of (by omega) (by simp only [fuelE];omega)) fun _ _ _ => rfl
 rw [if_neg e,if_neg e]
 by_cases e : isT [110,111,116] r = true
 ·have := isT_ne e
  rw [if_pos e,if_pos e]
  exact Rs.bind_congr (pX_of (by omega) (by simp only [fuelE];omega)) fun _ _ _ => rfl
 rw [if_neg e,if_neg e]
 exact primE_congr fun q hq => pX_of (by omega) (by simp only [fuelE];omega)
theorem pL_none {lv : Nat} {a : Ex} {r : List Tk} (h : opAt lv r = none) : pL lv a r = .ok a r := by
 unfold pL
 rw [show 16 * r.length + 9 = (16 * r.length + 8) + 1 by omega,pE_lp]
 rw [h]
theorem pL_some {lv : Nat} {a : Ex} {r : List Tk} {op : UInt8} (hl : lv ≤ 4) (h : opAt lv r = some op) : pL lv a r = (pX (lv + 1) r.tail).bind fun b r2 => if lv = 2 then .ok (opE op [a,b]) r2 else pL lv (opE op [a,b]) r2 := by
 conv => lhs;unfold pL
 rw [show 16 * r.length + 9 = (16 * r.length + 8) + 1 by omega,pE_lp]
 rw [h]
 have := opAt_ne h
 refine Rs.bind_congr (pX_of (by omega) (by simp only [fuelE];omega)) fun b q e => ?_
 have := (pE_len _).1 _ _ _ _ e
 refine ifC rfl ?_
 exact pL_of hl (by simp only [fuelE];omega)
end Go.Proofs.YthhoebdlfjffkaaGreatDoor
namespace Go.Plain
open Go.Lib

theorem digits_more (x : Nat) (h : ¬ x < 10) : decDigits x = decDigits (x / 10) ++ [UInt8.ofNat (48 + x % 10)] := by
 rw [decDigits,dif_neg h]
theorem digit_nat (d : Nat) (h : d < 10) : (UInt8.ofNat (48 + d)).toNat = 48 + d := by
 rw [UInt8.toNat_ofNat'];omega
theorem digits_are : ∀ (u : Nat) (c : UInt8),c ∈ decDigits u → 48 ≤ c.toNat ∧ c.toNat ≤ 57 := by
 intro u
 induction u using Nat.strongRecOn with
 | _ u ih =>
  intro c hc
  by_cases h : u < 10
  ·rw [decDigits_one h] at hc
   obtain rfl := List.mem_singleton.1 hc
   rw [digit_nat u h];omega
  ·rw [digits_more u h] at hc
   rcases List.mem_append.1 hc with hc | hc
   ·exact ih (u / 10) (by omega) c hc
   ·obtain rfl := List.mem_singleton.1 hc
    rw [digit_nat (u % 10) (by omega)];omega
end Go.Plain
namespace Go.Proofs.YthhoebdlfjffkaaGreatDoor
abbrev Kt := UInt8 × Str
def kt (t : Tk) : Kt := (t.k,t.t)
def isK (w : Str) (x : Kt) : Bool := (x.1 == 2 || x.1 == 4) && decide (x.2 = w)
def opK (lv : Nat) (x : Kt) : Option UInt8 := ((opsL lv).find? fun y => isK y.1 x).map (·.2)
theorem isT_cons (w : Str) (t : Tk) (r : List Tk) : isT w (t :: r) = isK w (kt t) := rfl
theorem opAt_cons (lv : Nat) (t : Tk) (r : List Tk) : opAt lv (t :: r) = opK lv (kt t) := rfl
def parK (n lv : Nat) (l : List Kt) : List Kt := if lv < n then (4,[40]) :: (l ++ [(4,[41])]) else l
def symK (op : UInt8) : Kt := (if op = 22 ∨ op = 23 then 2 else 4,((shapeOf op).tx.drop 1).dropLast)
def ktx (op : UInt8) (nm : Str) (n : Int64) (ls : List (Nat × List Kt)) : List Kt :=
 if op = 1 then [(3,Lib.itoa n.toInt)]
 else if op = 5 then [(1,nm)]
 else if op = 8 then [(2,[115,105,122,101]),(1,nm)]
 else if op = 6 then (1,nm) :: (4,[91]) :: ((ls.getD 0 (0,[])).2 ++ [(4,[93])])
 else if op = 7 then (2,[104,97,115]) :: (1,nm) :: (4,[91]) :: ((ls.getD 0 (0,[])).2 ++ [(4,[93])])
 else if op = 9 then (4,[45]) :: parK 6 (ls.getD 0 (0,[])).1 (ls.getD 0 (0,[])).2
 else if op = 10 then (2,[110,111,116]) :: parK 6 (ls.getD 0 (0,[])).1 (ls.getD 0 (0,[])).2
 else if (shapeOf op).n = 0 then [(2,(shapeOf op).tx)]
 else parK (lftT (shapeOf op).lv) (ls.getD 0 (0,[])).1 (ls.getD 0 (0,[])).2 ++ symK op :: parK ((shapeOf op).lv + 1) (ls.getD 1 (0,[])).1 (ls.getD 1 (0,[])).2
mutual
def ktE : Ex → List Kt
 | .mk op nm n args => ktx op nm n (ktEs args)
def ktEs : List Ex → List (Nat × List Kt)
 | [] => []
 | e :: r => ((shapeOf e.op).lv,ktE e) :: ktEs r
end
def Ex.lv (e : Ex) : Nat := (shapeOf e.op).lv
def Stp (j : Nat) (r : List Tk) : Prop := (∀ i,j ≤ i → i ≤ 4 → opAt i r = none) ∧ isT [91] r = false
theorem Stp.up {i j : Nat} {r : List Tk} (h : Stp i r) (hij : i ≤ j) : Stp j r := ⟨fun k h1 h2 => h.1 k (by omega) h2,h.2⟩
theorem Stp.of {j : Nat} {t : Tk} {r : List Tk} (h : ∀ i ∈ List.range 5,j ≤ i → opK i (kt t) = none) (h2 : isK [91] (kt t) = false) : Stp j (t :: r) :=
 ⟨fun i h1 h3 => h i (List.mem_range.2 (by omega)) h1,h2⟩
theorem pX_up {l : List Tk} {a : Ex} {r : List Tk} : ∀ (d lv j : Nat),j = lv + 1 + d → j ≤ 5 → pX j l = .ok a r → Stp (lv + 1) r → pX lv l = pL lv a r
 | 0,lv,j,e,hj,h,_ => by
  rw [pX_low (by omega),show lv + 1 = j by omega,h];rfl
 | d + 1,lv,j,e,hj,h,hs => by
  have := pX_up d (lv + 1) j (by omega) hj h (hs.up (by omega))
  rw [pX_low (by omega),this,pL_none (hs.1 _ (Nat.le_refl _) (by omega))];rfl
def Rd (e : Ex) : Prop := ∀ le r,le.map kt = ktE e → (∀ lv,lv ≤ 4 → lv + 1 ≤ e.lv → Stp (lv + 1) r → pX lv (le ++ r) = if lv = 2 ∧ e.lv = 3 then .ok e r else pL lv e r) ∧ (6 ≤ e.lv → isT [91] r = false → pX 5 (le ++ r) = .ok e r)
theorem Rd.full {e : Ex} (h : Rd e) {le r : List Tk} (hk : le.map kt = ktE e) {lv : Nat} (h5 : lv ≤ 5) (hl : lv + 1 ≤ e.lv) (hs : Stp lv r) : pX lv (le ++ r) = .ok e r := by
 by_cases e5 : lv = 5
 ·subst e5;exact (h le r hk).2 hl hs.2
 ·rw [(h le r hk).1 lv (by omega) hl (hs.up (by omega)),pL_none (hs.1 lv (Nat.le_refl _) (by omega))]
  split <;> rfl
theorem Rd.of {e : Ex} (h6 : 6 ≤ e.lv) (h : ∀ le r,le.map kt = ktE e → isT [91] r = false → pX 5 (le ++ r) = .ok e r) : Rd e := fun le r hk => by
 refine ⟨fun lv hl h1 hs => ?_,fun _ => h le r hk⟩
 rw [if_neg (by omega)]
 exact pX_up (4 - lv) lv 5 (by omega) (by omega) (h le r hk hs.2) hs
theorem Rd.par {e : Ex} (h : Rd e) (h1 : 1 ≤ e.lv) {le r : List Tk} (hk : le.map kt = (4,[40]) :: (ktE e ++ [(4,[41])])) : pX 5 (le ++ r) = .ok e r := by
 obtain ⟨t,l1,rfl,ht,hk⟩ := List.map_eq_cons_iff.1 hk
 obtain ⟨l2,l3,rfl,h2,h3⟩ := List.map_eq_append_iff.1 hk
 obtain ⟨t2,l4,rfl,ht2,h4⟩ := List.map_eq_cons_iff.1 h3
 obtain rfl := List.map_eq_nil_iff.1 h4
 simp only [List.cons_append,List.append_assoc,List.nil_append]
 have hf := h.full h2 (r := t2 :: r) (lv := 0) (by omega) h1 (.of (by rw [ht2];decide) (by rw [ht2];decide))
 rw [pX_un,isT_cons,isT_cons,ht,if_neg (by decide),if_neg (by decide),primE]
 have hk0 : t.k = 4 := congrArg Prod.fst ht
 simp only [isT_cons,ht]
 rw [if_neg (by rw [hk0];decide),if_neg (by decide),if_neg (by decide),if_neg (by decide),if_neg (by decide),if_pos (by decide),hf]
 show needT [41] (t2 :: r) _ = _
 rw [needT,isT_cons,ht2,if_pos (by decide)]
 rfl
theorem Rd.opnd {e : Ex} (h : Rd e) (h1 : 1 ≤ e.lv) {n : Nat} {le r : List Tk} (hk : le.map kt = parK n e.lv (ktE e)) (hn : n ≤ 6) (h0 : 0 < n) (hs : Stp (n - 1) r) : pX (n - 1) (le ++ r) = .ok e r := by
 unfold parK at hk
 split at hk
 ·have hp := h.par h1 hk (r := r)
  by_cases e5 : n = 6
  ·subst e5;exact hp
  ·rw [pX_up (5 - n) (n - 1) 5 (by omega) (by omega) hp (hs.up (by omega)),pL_none (hs.1 _ (Nat.le_refl _) (by omega))]
 ·exact h.full hk (by omega) (by omega) hs
theorem Rd.left {e : Ex} (h : Rd e) (h1 : 1 ≤ e.lv) {lv : Nat} {le r : List Tk} (hk : le.map kt = parK (lv + 1) e.lv (ktE e)) (hn : lv ≤ 4) (h2 : lv ≠ 2) (hs : Stp (lv + 1) r) : pX lv (le ++ r) = pL lv e r := by
 unfold parK at hk
 split at hk
 ·exact pX_up (4 - lv) lv 5 (by omega) (by omega) (h.par h1 hk (r := r)) hs
 ·rw [(h le r hk).1 lv hn (by omega) hs,if_neg (by omega)]
theorem numV_digits (u : Nat) : numV (Lib.decDigits u) = u := by
 induction u using Nat.strongRecOn with
 | _ u ih =>
  by_cases h : u < 10
  ·rw [Lib.decDigits_one h]
   simp only [numV,List.foldl_cons,List.foldl_nil,Plain.digit_nat u h];omega
  ·rw [Plain.digits_more u h]
   have := ih (u / 10) (by omega)
   unfold numV at this ⊢
   rw [List.foldl_append,this]
   simp only [List.foldl_cons,List.foldl_nil,Plain.digit_nat (u % 10) (by omega)];omega
theorem numV_itoa {n : Int} (h : 0 ≤ n) : numV (Lib.itoa n) = n.toNat := by
 unfold Lib.itoa
 rw [if_neg (by omega),numV_digits]
theorem ok_cases {op : UInt8} (h : okOp op = true) : op ∈ ([1,2,3,4,5,6,7,8,9,10,11,12,13,14,15,16,17,18,19,20,21,22,23] : List UInt8) := by
 simp only [okOp,Bool.and_eq_true,decide_eq_true_eq] at h
 have key : ∀ i ∈ List.range 24,1 ≤ i → UInt8.ofNat i ∈ ([1,2,3,4,5,6,7,8,9,10,11,12,13,14,15,16,17,18,19,20,21,22,23] : List UInt8) := by decide
 have := key op.toNat (List.mem_range.2 (by omega)) h.1
 rwa [UInt8.ofNat_toNat] at this
theorem ok_split {op : UInt8} (h : okOp op = true) : op = 1 ∨ op ∈ ([11,12,13,14,15,16,17,18,19,20,21,22,23] : List UInt8) ∨ (op = 2 ∨ op = 3 ∨ op = 4 ∨ op = 5 ∨ op = 6 ∨ op = 7 ∨ op = 8 ∨ op = 9 ∨ op = 10) := by
 have key : ∀ o ∈ ([1,2,3,4,5,6,7,8,9,10,11,12,13,14,15,16,17,18,19,20,21,22,23] : List UInt8),o = 1 ∨ o ∈ ([11,12,13,14,15,16,17,18,19,20,21,22,23] : List UInt8) ∨ (o = 2 ∨ o = 3 ∨ o = 4 ∨ o = 5 ∨ o = 6 ∨ o = 7 ∨ o = 8 ∨ o = 9 ∨ o = 10) := by decide
 exact key op (ok_cases h)
theorem ok_lv {op : UInt8} (h : okOp op = true) : 1 ≤ (shapeOf op).lv := by
 have key : ∀ o ∈ ([1,2,3,4,5,6,7,8,9,10,11,12,13,14,15,16,17,18,19,20,21,22,23] : List UInt8),1 ≤ (shapeOf o).lv := by decide
 exact key op (ok_cases h)
theorem args0 {l : List Ex} (h : l.length = 0) : l = [] := List.eq_nil_of_length_eq_zero h
theorem args1 {l : List Ex} (h : l.length = 1) : ∃ a,l = [a] := List.length_eq_one_iff.1 h
theorem args2 {l : List Ex} (h : l.length = 2) : ∃ a b,l = [a,b] := by
 match l,h with
 | [a,b],_ => exact ⟨a,b,rfl⟩
theorem i64_zero {n : Int64} (h : n.toInt = 0) : n = 0 := Int64.toInt_inj.1 (by rw [h];rfl)
def binOp (op : UInt8) : Bool := decide (11 ≤ op.toNat) && decide (op.toNat ≤ 23)
theorem bin_facts : ∀ op ∈ ([11,12,13,14,15,16,17,18,19,20,21,22,23] : List UInt8),(shapeOf op).n = 2 ∧ (shapeOf op).nm = false ∧ 1 ≤ (shapeOf op).lv ∧ (shapeOf op).lv ≤ 5 ∧ opK ((shapeOf op).lv - 1) (symK op) = some op ∧ isK [91] (symK op) = false ∧
 (∀ i ∈ List.range 5,(shapeOf op).lv ≤ i → opK i (symK op) = none) ∧ ¬ op = 1 ∧ ¬ op = 5 ∧ ¬ op = 8 ∧ ¬ op = 6 ∧ ¬ op = 7 ∧ ¬ op = 9 ∧ ¬ op = 10 := by decide
theorem ktE_bin {op : UInt8} (h : op ∈ ([11,12,13,14,15,16,17,18,19,20,21,22,23] : List UInt8)) (nm : Str) (n : Int64) (a b : Ex) :
 ktE (.mk op nm n [a,b]) = parK (lftT (shapeOf op).lv) a.lv (ktE a) ++ symK op :: parK ((shapeOf op).lv + 1) b.lv (ktE b) := by
 obtain ⟨h1,_,_,_,_,_,_,g1,g2,g3,g4,g5,g6,g7⟩ := bin_facts op h
 rw [ktE,ktx,if_neg g1,if_neg g2,if_neg g3,if_neg g4,if_neg g5,if_neg g6,if_neg g7,if_neg (by omega)]
 rfl
theorem rd_bin {op : UInt8} (h : op ∈ ([11,12,13,14,15,16,17,18,19,20,21,22,23] : List UInt8)) {a b : Ex} (ha : Rd a) (hb : Rd b) (ha1 : 1 ≤ a.lv) (hb1 : 1 ≤ b.lv) : Rd (opE op [a,b]) := by
 intro le r hk
 obtain ⟨_,_,h3,h4,h5,h6,h7,_⟩ := bin_facts op h
 have hlv : (opE op [a,b]).lv = (shapeOf op).lv := rfl
 rw [hlv]
 rw [show opE op [a,b] = .mk op [] 0 [a,b] from rfl,ktE_bin h] at hk
 obtain ⟨la,l1,rfl,hla,hk⟩ := List.map_eq_append_iff.1 hk
 obtain ⟨t,lb,rfl,ht,hlb⟩ := List.map_eq_cons_iff.1 hk
 generalize hL : (shapeOf op).lv = L at *
 refine ⟨?_,fun h8 => absurd h8 (by omega)⟩
 have hst : ∀ q,Stp L (t :: q) := fun q => .of (by rw [ht];exact h7) (by rw [ht];exact h6)
 -- at its own level
 have own : Stp L r → pX (L - 1) (la ++ t :: lb ++ r) = if L - 1 = 2 then .ok (opE op [a,b]) r else pL (L - 1) (opE op [a,b]) r := by
  intro hs
  have hopt : ∀ q,opAt (L - 1) (t :: q) = some op := fun q => by rw [opAt_cons,ht];exact h5
  have hB : pX L (lb ++ r) = .ok b r := by
   have := hb.opnd hb1 (n := L + 1) hlb (by omega) (by omega) (r := r) (by simpa using hs)
   simpa using this
  have hA : pX (L - 1) (la ++ (t :: lb ++ r)) = pL (L - 1) a (t :: lb ++ r) := by
   by_cases h2 : L = 3
   ·subst h2
    have := ha.opnd ha1 (n := 4) (r := t :: lb ++ r) hla (by omega) (by omega) (hst _)
    rw [pX_low (by omega)]
    show (pX 3 _).bind _ = _
    rw [show (4 : Nat) - 1 = 3 from rfl] at this
    rw [this];rfl
   ·have e : lftT L = L - 1 + 1 := by unfold lftT;rw [if_neg h2];omega
    rw [e] at hla
    exact ha.left ha1 hla (by omega) (by omega) (by rw [show L - 1 + 1 = L by omega];exact hst _)
  rw [List.append_assoc,hA,List.cons_append,pL_some (by omega) (hopt _)]
  show (pX (L - 1 + 1) (lb ++ r)).bind _ = _
  rw [show L - 1 + 1 = L by omega,hB]
  rfl
 intro lv hl4 hl hs
 by_cases e : lv = L - 1
 ·subst e
  rw [show L - 1 + 1 = L by omega] at hs
  rw [own hs]
  exact ifI (by omega)
 ·rw [if_neg (by omega)]
  refine pX_up (L - 2 - lv) lv (L - 1) (by omega) (by omega) ?_ hs
  rw [own (hs.up (by omega)),pL_none (hs.1 _ (by omega) (by omega))]
  split <;> rfl
theorem ktE_one {op : UInt8} {nm : Str} {n : Int64} {args : List Ex} {x : Kt} (h : ktE (.mk op nm n args) = [x]) {le : List Tk} (hk : le.map kt = ktE (.mk op nm n args)) : ∃ t,le = [t] ∧ kt t = x := by
 rw [h] at hk
 obtain ⟨t,l,rfl,ht,hl⟩ := List.map_eq_cons_iff.1 hk
 obtain rfl := List.map_eq_nil_iff.1 hl
 exact ⟨t,rfl,ht⟩
theorem rd_un {op : UInt8} {a : Ex} (ha : Rd a) (h1 : 1 ≤ a.lv) (hop : op = 9 ∨ op = 10) : Rd (opE op [a]) := by
 refine .of (by rcases hop with rfl | rfl <;> exact (by decide : 6 ≤ 6)) fun le r hk h91 => ?_
 have key : ∃ t l,le = t :: l ∧ kt t = (if op = 9 then (4,[45]) else (2,[110,111,116])) ∧ l.map kt = parK 6 a.lv (ktE a) := by
  rcases hop with rfl | rfl
  ·obtain ⟨t,l,rfl,ht,hl⟩ := List.map_eq_cons_iff.1 (show le.map kt = (4,[45]) :: parK 6 a.lv (ktE a) from hk)
   exact ⟨t,l,rfl,ht,hl⟩
  ·obtain ⟨t,l,rfl,ht,hl⟩ := List.map_eq_cons_iff.1 (show le.map kt = (2,[110,111,116]) :: parK 6 a.lv (ktE a) from hk)
   exact ⟨t,l,rfl,ht,hl⟩
 obtain ⟨t,l,rfl,ht,hl⟩ := key
 have hA : pX 5 (l ++ r) = .ok a r := ha.opnd h1 (n := 6) hl (by omega) (by omega) ⟨fun i h1 h2 => by omega,h91⟩
 rw [List.cons_append,pX_un]
 rcases hop with rfl | rfl
 ·rw [isT_cons,ht,if_pos (by decide)]
  show (pX 5 (l ++ r)).bind _ = _
  rw [hA];rfl
 ·rw [isT_cons,isT_cons,ht,if_neg (by decide),if_pos (by decide)]
  show (pX 5 (l ++ r)).bind _ = _
  rw [hA];rfl
theorem rd_key {a : Ex} (ha : Rd a) (h1 : 1 ≤ a.lv) {l r : List Tk} (hl : l.map kt = (4,[91]) :: (ktE a ++ [(4,[93])])) : isT [91] (l ++ r) = true ∧ ∀ (g : Ex → List Tk → Rs Ex),((pX 0 (l ++ r).tail).bind fun x r4 => needT [93] r4 fun r5 => g x r5) = g a r := by
 obtain ⟨t,l1,rfl,ht,hk⟩ := List.map_eq_cons_iff.1 hl
 obtain ⟨l2,l3,rfl,h2,h3⟩ := List.map_eq_append_iff.1 hk
 obtain ⟨t2,l4,rfl,ht2,h4⟩ := List.map_eq_cons_iff.1 h3
 obtain rfl := List.map_eq_nil_iff.1 h4
 refine ⟨by rw [List.cons_append,isT_cons,ht];decide,fun g => ?_⟩
 have hf := ha.full h2 (r := t2 :: r) (lv := 0) (by omega) h1 (.of (by rw [ht2];decide) (by rw [ht2];decide))
 simp only [List.cons_append,List.append_assoc,List.nil_append,List.tail_cons]
 rw [hf]
 show needT [93] (t2 :: r) _ = _
 rw [needT,isT_cons,ht2,if_pos (by decide)]
 rfl
theorem rd_all (e : Ex) : Ex.all frmE e = true → Rd e ∧ 1 ≤ e.lv := by
 induction e using Ex.ind with
 | _ op nm n args ih =>
  intro h
  rw [all_mk,Bool.and_eq_true] at h
  obtain ⟨hf,hr⟩ := h
  have ha : ∀ a ∈ args,Rd a ∧ 1 ≤ a.lv := fun a m => ih a m (alls_mem m hr)
  simp only [frmE,Bool.and_eq_true,Bool.or_eq_true,decide_eq_true_eq] at hf
  obtain ⟨⟨⟨hop,hl⟩,hnm⟩,hn⟩ := hf
  refine ⟨?_,ok_lv hop⟩
  have hm := ok_cases hop
  by_cases h1 : op = 1
  ·subst h1
   obtain rfl := args0 hl
   obtain rfl : nm = [] := hnm.resolve_left (by decide)
   rw [if_pos rfl,decide_eq_true_eq] at hn
   refine .of (show 6 ≤ (shapeOf 1).lv by decide) fun le r hk _ => ?_
   obtain ⟨t,rfl,ht⟩ := ktE_one (x := (3,Lib.itoa n.toInt)) rfl hk
   have hk3 : t.k = 3 := congrArg Prod.fst ht
   have ht2 : t.t = Lib.itoa n.toInt := congrArg Prod.snd ht
   have hlt := n.toInt_lt
   rw [List.cons_append,List.nil_append,pX_un,isT_cons,isT_cons,ht,if_neg (by simp [isK]),if_neg (by simp [isK]),primE]
   rw [if_pos hk3,ht2,numV_itoa hn,if_pos (by omega)]
   congr 2
   exact Int64.toInt_inj.1 (by rw [Int64.toInt_ofNat_of_lt (by omega)];omega)
  rw [if_neg h1,decide_eq_true_eq] at hn
  obtain rfl := i64_zero hn
  by_cases hb : op ∈ ([11,12,13,14,15,16,17,18,19,20,21,22,23] : List UInt8)
  ·obtain ⟨b1,b2,_⟩ := bin_facts op hb
   obtain ⟨a,b,rfl⟩ := args2 (l := args) (by omega)
   obtain rfl : nm = [] := by rcases hnm with e | e
                              ·rw [b2] at e;cases e
                              ·exact e
   have h3 := ha a (by simp)
   have h4 := ha b (by simp)
   exact rd_bin hb h3.1 h4.1 h3.2 h4.2
  have hs : op = 2 ∨ op = 3 ∨ op = 4 ∨ op = 5 ∨ op = 6 ∨ op = 7 ∨ op = 8 ∨ op = 9 ∨ op = 10 := ((ok_split hop).resolve_left h1).resolve_left hb
  have cst : ∀ (w : Str),op = 2 ∨ op = 3 ∨ op = 4 → w = (shapeOf op).tx → Rd (.mk op nm 0 args) := by
   intro w ho hw
   have hnil : args = [] := by
    rcases ho with rfl | rfl | rfl <;> exact args0 hl
   have hnm0 : nm = [] := by
    rcases ho with rfl | rfl | rfl <;> exact hnm.resolve_left (by decide)
   subst hnil hnm0
   refine .of (by rcases ho with rfl | rfl | rfl <;> exact (by decide : 6 ≤ 7)) fun le r hk _ => ?_
   rcases ho with rfl | rfl | rfl
   all_goals
    obtain ⟨t,rfl,ht⟩ := ktE_one rfl hk
    have hk3 : t.k = 2 := congrArg Prod.fst ht
    rw [List.cons_append,List.nil_append,pX_un,isT_cons,isT_cons,ht,if_neg (by decide),if_neg (by decide),primE]
    simp only [isT_cons,ht]
    rw [if_neg (by rw [hk3];decide)]
   ·rw [if_pos (by decide)];rfl
   ·rw [if_neg (by decide),if_pos (by decide)];rfl
   ·rw [if_neg (by decide),if_neg (by decide),if_pos (by decide)];rfl
  rcases hs with rfl | rfl | rfl | rfl | rfl | rfl | rfl | rfl | rfl
  ·exact cst _ (.inl rfl) rfl
  ·exact cst _ (.inr (.inl rfl)) rfl
  ·exact cst _ (.inr (.inr rfl)) rfl
  ·obtain rfl := args0 hl
   refine .of (show 6 ≤ (shapeOf 5).lv by decide) fun le r hk h91 => ?_
   obtain ⟨t,rfl,ht⟩ := ktE_one (x := (1,nm)) rfl hk
   have hk1 : t.k = 1 := congrArg Prod.fst ht
   have ht2 : t.t = nm := congrArg Prod.snd ht
   have hno : ∀ w,isK w (1,nm) = false := fun w => by simp [isK]
   rw [List.cons_append,List.nil_append,pX_un,isT_cons,isT_cons,ht,hno,hno,if_neg (by decide),if_neg (by decide),primE]
   simp only [isT_cons,ht,hno]
   rw [if_neg (by rw [hk1];decide)]
   simp only [Bool.false_eq_true,if_false]
   rw [if_pos hk1,h91,if_neg (by decide),ht2]
  ·obtain ⟨a,rfl⟩ := args1 hl
   obtain ⟨ra,r1⟩ := ha a (by simp)
   refine .of (show 6 ≤ (shapeOf 6).lv by decide) fun le r hk h91 => ?_
   obtain ⟨t,l,rfl,ht,hl⟩ := List.map_eq_cons_iff.1 (show le.map kt = (1,nm) :: (4,[91]) :: (ktE a ++ [(4,[93])]) from hk)
   have hk1 : t.k = 1 := congrArg Prod.fst ht
   have ht2 : t.t = nm := congrArg Prod.snd ht
   have hno : ∀ w,isK w (1,nm) = false := fun w => by simp [isK]
   obtain ⟨k1,k2⟩ := rd_key ra r1 hl (r := r)
   rw [List.cons_append,pX_un,isT_cons,isT_cons,ht,hno,hno,if_neg (by decide),if_neg (by decide),primE]
   simp only [isT_cons,ht,hno]
   rw [if_neg (by rw [hk1];decide)]
   simp only [Bool.false_eq_true,if_false]
   rw [if_pos hk1,k1,if_pos rfl,k2,ht2]
  ·obtain ⟨a,rfl⟩ := args1 hl
   obtain ⟨ra,r1⟩ := ha a (by simp)
   refine .of (show 6 ≤ (shapeOf 7).lv by decide) fun le r hk h91 => ?_
   obtain ⟨t,l,rfl,ht,hl⟩ := List.map_eq_cons_iff.1 (show le.map kt = (2,[104,97,115]) :: (1,nm) :: (4,[91]) :: (ktE a ++ [(4,[93])]) from hk)
   obtain ⟨t2,l2,rfl,ht2,hl⟩ := List.map_eq_cons_iff.1 hl
   have hk1 : t.k = 2 := congrArg Prod.fst ht
   have hk2 : t2.k = 1 := congrArg Prod.fst ht2
   have ht3 : t2.t = nm := congrArg Prod.snd ht2
   obtain ⟨k1,k2⟩ := rd_key ra r1 hl (r := r)
   rw [List.cons_append,pX_un,isT_cons,isT_cons,ht,if_neg (by decide),if_neg (by decide),primE]
   simp only [isT_cons,ht]
   rw [if_neg (by rw [hk1];decide),if_neg (by decide),if_neg (by decide),if_neg (by decide),if_neg (by decide),if_neg (by decide),if_pos (by decide),List.cons_append,nameT]
   rw [if_pos hk2,needT,k1,if_pos rfl,k2,ht3]
  ·obtain rfl := args0 hl
   refine .of (show 6 ≤ (shapeOf 8).lv by decide) fun le r hk h91 => ?_
   obtain ⟨t,l,rfl,ht,hl⟩ := List.map_eq_cons_iff.1 (show le.map kt = (2,[115,105,122,101]) :: (1,nm) :: [] from hk)
   obtain ⟨t2,l2,rfl,ht2,hl⟩ := List.map_eq_cons_iff.1 hl
   obtain rfl := List.map_eq_nil_iff.1 hl
   have hk1 : t.k = 2 := congrArg Prod.fst ht
   have hk2 : t2.k = 1 := congrArg Prod.fst ht2
   have ht3 : t2.t = nm := congrArg Prod.snd ht2
   rw [List.cons_append,pX_un,isT_cons,isT_cons,ht,if_neg (by decide),if_neg (by decide),primE]
   simp only [isT_cons,ht]
   rw [if_neg (by rw [hk1];decide),if_neg (by decide),if_neg (by decide),if_neg (by decide),if_pos (by decide),List.cons_append,nameT]
   rw [if_pos hk2,ht3];rfl
  ·obtain ⟨a,rfl⟩ := args1 hl
   obtain ⟨ra,r1⟩ := ha a (by simp)
   obtain rfl : nm = [] := hnm.resolve_left (by decide)
   exact rd_un ra r1 (.inl rfl)
  ·obtain ⟨a,rfl⟩ := args1 hl
   obtain ⟨ra,r1⟩ := ha a (by simp)
   obtain rfl : nm = [] := hnm.resolve_left (by decide)
   exact rd_un ra r1 (.inr rfl)
abbrev Pz (α : Type) := List Tk → Rs α
section
variable {α β : Type}
def gPure (a : α) : Pz α := fun r => .ok a r
def gBind (p : Pz α) (f : α → Pz β) : Pz β := fun r => (p r).bind f
def gNd (w : Str) : Pz Unit := fun r => if isT w r then .ok () r.tail else .er r 8
def gNm : Pz Str := fun r => match r with | [] => .er r 8 | t :: q => if t.k = 1 then .ok t.t q else .er r 8
def gNu : Pz Int64 := fun r => match r with | [] => .er r 8 | t :: q => if t.k = 3 then (if numV t.t ≤ 9223372036854775807 then .ok (Int64.ofNat (numV t.t)) q else .er r 2) else .er r 8
def isN (w : Str) : List Tk → Bool
 | [] => false
 | t :: _ => t.k == 3 && decide (t.t = w)
def gNn (w : Str) : Pz Unit := fun r => if isN w r then .ok () r.tail else .er r 8
def gAlt (w : Str) (p q : Pz α) : Pz α := fun r => if isT w r then p r.tail else q r
def gManyF (w : Str) (p : Pz α) : Nat → Pz (List α)
 | 0 => fun r => .er r 99
 | f + 1 => gAlt w (gBind p fun a => gBind (gManyF w p f) fun l => gPure (a :: l)) (gPure [])
def gMany (w : Str) (p : Pz α) : Pz (List α) := fun r => gManyF w p (r.length + 1) r
end
def gEx : Pz Ex := pX 0
def gBlk (b : Pz (List Sm)) : Pz (List Sm) := gBind (gNd [123]) fun _ => gBind b fun l => gBind (gNd [125]) fun _ => gPure l
def gEls (b : Pz (List Sm)) : Pz (List Sm) := gAlt [101,108,115,101] (gBlk b) (gPure [])
def gOth (b : Pz (List Sm)) : Pz (List Sm) := gAlt [101,108,115,101] (gBlk b) (gBind (gNd [59]) fun _ => gPure [])
def gList {α : Type} (p : Pz α) : Pz (List α) := gBind (gNd [40]) fun _ => gAlt [41] (gPure []) (gBind p fun a => gBind (gMany [44] p) fun l => gBind (gNd [41]) fun _ => gPure (a :: l))
def gSt (b : Pz (List Sm)) : Pz Sm :=
 gAlt [105,102] (gBind gEx fun e => gBind (gBlk b) fun t => gBind (gEls b) fun l => gPure (.mk 4 [] [] [e] t l))<|gAlt [119,104,105,108,101] (gBind gEx fun e => gBind (gBlk b) fun t => gPure (.mk 5 [] [] [e] t []))<|gAlt [115,116,111,114,101] (gBind gEx fun e => gBind (gNd [61]) fun _ => gBind gEx fun e2 => gBind (gOth b) fun l => gPure (.mk 8 [] [] [e,e2] [] l))<|gAlt [102,101,116,99,104] (gBind gNm fun n => gBind (gNd [61]) fun _ => gBind gEx fun e => gBind (gOth b) fun l => gPure (.mk 9 n [] [e] [] l))<|gAlt [115,101,110,100] (gBind gNm fun n => gBind (gNd [46]) fun _ => gBind gNm fun h => gBind (gList gEx) fun l => gBind (gNd [59]) fun _ => gPure (.mk 6 n h l [] []))<|gAlt [97,102,116,101,114] (gBind gEx fun e => gBind (gNd [100,111]) fun _ => gBind gNm fun h => gBind (gList gEx) fun l => gBind (gNd [59]) fun _ => gPure (.mk 7 [] h (e :: l) [] []))<|gAlt [115,116,111,112] (gBind (gNd [59]) fun _ => gPure (.mk 10 [] [] [] [] []))<|gAlt [100,101,108,101,116,101] (gBind gNm fun n => gBind (gNd [91]) fun _ => gBind gEx fun e => gBind (gNd [93]) fun _ => gBind (gNd [59]) fun _ => gPure (.mk 3 n [] [e] [] []))<|gBind gNm fun n => gAlt [91] (gBind gEx fun e => gBind (gNd [93]) fun _ => gBind (gNd [61]) fun _ => gBind gEx fun e2 => gBind (gNd [59]) fun _ => gPure (.mk 2 n [] [e,e2] [] []))
  (gBind (gNd [61]) fun _ => gBind gEx fun e => gBind (gNd [59]) fun _ => gPure (.mk 1 n [] [e] [] []))
def gBF : Nat → Pz (List Sm)
 | 0 => fun r => .er r 99
 | f + 1 => fun r => if isT [125] r then .ok [] r else (gSt (gBF f) r).bind fun s r1 => (gBF f r1).bind fun l r2 => .ok (s :: l) r2
def gB : Pz (List Sm) := fun r => gBF (r.length + 1) r
def gTr : Pz Bool := gAlt [116,114,117,101] (gPure true) (gBind (gNd [102,97,108,115,101]) fun _ => gPure false)
def gFg : Pz Fg := gBind gNm fun n => gBind (gNd [61]) fun _ => gBind gTr fun b => gBind (gNd [59]) fun _ => gPure ⟨n,b⟩
def gLk : Pz Lk := gBind gNm fun n => gBind (gNd [45,62]) fun _ => gBind gNm fun m => gBind (gNd [108,97,116,101,110,99,121]) fun _ => gBind gNu fun v => gBind (gNd [59]) fun _ => gPure ⟨n,m,v⟩
def gInt : Pz Int64 := gAlt [45] (gBind gNu fun v => gPure (-v)) gNu
def gVr : Pz Vr := gBind gNm fun n => gBind (gNd [58]) fun _ =>
 gAlt [105,110,116] (gBind (gNd [61]) fun _ => gBind gInt fun v => gBind (gNd [59]) fun _ => gPure ⟨n,1,v⟩)<|gAlt [98,111,111,108] (gBind (gNd [61]) fun _ => gBind gTr fun b => gBind (gNd [59]) fun _ => gPure ⟨n,2,if b then 1 else 0⟩)<|gBind (gNd [116,97,98,108,101]) fun _ => gBind (gNd [59]) fun _ => gPure ⟨n,3,0⟩
def gHd : Pz Hd := gBind gNm fun n => gBind (gList gNm) fun l => gBind (gBlk gB) fun b => gPure ⟨n,l,b⟩
def gVs : Pz (List Hd) := gMany [111,110] gHd
def gVn (n : Str) : Pz (List Hd) := gBind (gNn n) fun _ => gBind (gNd [123]) fun _ => gBind gVs fun v => gBind (gNd [125]) fun _ => gPure v
def gVm : Pz (List (List Hd)) := gAlt [118,101,114,115,105,111,110] (gBind (gVn [50]) fun v => gAlt [118,101,114,115,105,111,110] (gBind (gVn [51]) fun w => gPure [v,w]) (gPure [v])) (gPure [])
def gCp : Pz Cp := gBind gNm fun n => gBind (gNd [123]) fun _ => gBind (gMany [118,97,114] gVr) fun vs => gBind gVs fun v => gBind gVm fun l => gBind (gNd [125]) fun _ => gPure ⟨n,vs,v :: l⟩
def gFt : Pz Ft := gBind (gNd [102,108,101,101,116]) fun _ => gBind gNm fun n => gBind (gNd [123]) fun _ => gBind (gMany [102,108,97,103] gFg) fun fs => gBind (gMany [108,105,110,107] gLk) fun ls => gBind (gMany [99,111,109,112,111,110,101,110,116] gCp) fun cs => gBind (gNd [125]) fun _ => gPure ⟨n,fs,ls,cs⟩
/-! ### Rules that consume -/
section
variable {α β : Type}
def Shr (p : Pz α) : Prop := ∀ r a r',p r = .ok a r' → r'.length ≤ r.length
def Shs (p : Pz α) : Prop := ∀ r a r',p r = .ok a r' → r'.length < r.length
theorem Shs.le {p : Pz α} (h : Shs p) : Shr p := fun r a r' e => Nat.le_of_lt (h r a r' e)
theorem Shr.pure (a : α) : Shr (gPure a) := fun r a r' e => by injection e with _ e;subst e;exact Nat.le_refl _
theorem Shr.bind {p : Pz α} {f : α → Pz β} (h : Shr p) (k : ∀ a,Shr (f a)) : Shr (gBind p f) := fun r b r' e => by
 obtain ⟨a,q,h1,h2⟩ := Rs.bind_ok e
 have := h _ _ _ h1
 have := k _ _ _ _ h2
 omega
theorem Shs.bind {p : Pz α} {f : α → Pz β} (h : Shs p) (k : ∀ a,Shr (f a)) : Shs (gBind p f) := fun r b r' e => by
 obtain ⟨a,q,h1,h2⟩ := Rs.bind_ok e
 have := h _ _ _ h1
 have := k _ _ _ _ h2
 omega
theorem Shs.nd (w : Str) : Shs (gNd w) := fun r a r' e => by
 unfold gNd at e
 split at e
 ·rename_i h;injection e with _ e;subst e;have := isT_ne h;omega
 ·cases e
theorem isN_ne {w : Str} {r : List Tk} (h : isN w r = true) : r.length = r.tail.length + 1 := by cases r with | nil => cases h | cons t q => rfl
theorem Shs.nn (w : Str) : Shs (gNn w) := fun r a r' e => by
 unfold gNn at e
 split at e
 ·rename_i h;injection e with _ e;subst e;have := isN_ne h;omega
 ·cases e
theorem Shs.nm : Shs gNm := fun r a r' e => by
 unfold gNm at e
 split at e
 ·cases e
 ·split at e
  ·injection e with _ e;subst e;simp
  ·cases e
theorem Shs.nu : Shs gNu := fun r a r' e => by
 unfold gNu at e
 split at e
 ·cases e
 ·split at e
  ·split at e
   ·injection e with _ e;subst e;simp
   ·cases e
  ·cases e
theorem Shs.ex : Shs gEx := fun r a r' e => (pE_len _).1 _ _ _ _ e
theorem Shr.alt {w : Str} {p q : Pz α} (h : Shr p) (k : Shr q) : Shr (gAlt w p q) := fun r a r' e => by
 unfold gAlt at e
 split at e
 ·rename_i h2;have := isT_ne h2;have := h _ _ _ e;omega
 ·exact k _ _ _ e
theorem Shs.alt {w : Str} {p q : Pz α} (h : Shr p) (k : Shs q) : Shs (gAlt w p q) := fun r a r' e => by
 unfold gAlt at e
 split at e
 ·rename_i h2;have := isT_ne h2;have := h _ _ _ e;omega
 ·exact k _ _ _ e
theorem Shr.many {w : Str} {p : Pz α} (h : Shr p) : Shr (gMany w p) := by
 have key : ∀ f,Shr (gManyF w p f) := fun f => by
  induction f with
  | zero => intro r a r' e;cases e
  | succ f ih => exact .alt (.bind h fun a => .bind ih fun l => .pure _) (.pure _)
 exact fun r a r' e => key _ _ _ _ e
theorem gManyF_more {w : Str} {p : Pz α} (h : Shr p) : ∀ (f g : Nat) (r : List Tk),r.length < f → r.length < g → gManyF w p f r = gManyF w p g r
 | 0,_,_,k,_ => by omega
 | _,0,_,_,k => by omega
 | f + 1,g + 1,r,k1,k2 => by
  unfold gManyF gAlt
  split
  ·rename_i e
   have := isT_ne e
   refine Rs.bind_congr rfl fun a q e2 => ?_
   have := h _ _ _ e2
   exact Rs.bind_congr (gManyF_more h f g q (by omega) (by omega)) fun _ _ _ => rfl
  ·rfl
theorem gMany_eq {w : Str} {p : Pz α} (h : Shr p) : gMany w p = gAlt w (gBind p fun a => gBind (gMany w p) fun l => gPure (a :: l)) (gPure []) := funext fun r => by
 unfold gMany
 conv => lhs;unfold gManyF
 unfold gAlt
 split
 ·rename_i e
  have := isT_ne e
  refine Rs.bind_congr rfl fun a q e2 => ?_
  have := h _ _ _ e2
  exact Rs.bind_congr (gManyF_more h _ _ q (by omega) (by omega)) fun _ _ _ => rfl
 ·rfl
theorem Shs.list {p : Pz α} (h : Shr p) : Shs (gList p) := .bind (.nd _) fun _ => .alt (.pure _) (.bind h fun _ => .bind (.many h) fun _ => .bind (Shs.nd _).le fun _ => .pure _)
/-! ### Rules that agree on short lists of tokens -/
def Agz (n : Nat) (p q : Pz α) : Prop := ∀ r,r.length ≤ n → p r = q r
theorem Agz.rfl' {n : Nat} {p : Pz α} : Agz n p p := fun _ _ => rfl
theorem Agz.bind {n : Nat} {p q : Pz α} {f g : α → Pz β} (hp : Shr p) (h : Agz n p q) (k : ∀ a,Agz n (f a) (g a)) : Agz n (gBind p f) (gBind q g) := fun r hr =>
 Rs.bind_congr (h r hr) fun a r' e => k a r' (Nat.le_trans (hp _ _ _ e) hr)
theorem Agz.alt {n : Nat} {w : Str} {p q p' q' : Pz α} (h : Agz (n - 1) p p') (k : Agz n q q') : Agz n (gAlt w p q) (gAlt w p' q') := fun r hr => by
 unfold gAlt
 split
 ·rename_i e;have := isT_ne e;exact h _ (by omega)
 ·exact k r hr
theorem Agz.altr {n : Nat} {w : Str} {p q p' q' : Pz α} (h : Agz n p p') (k : Agz n q q') : Agz n (gAlt w p q) (gAlt w p' q') := .alt (fun r hr => h r (by omega)) k
end
theorem Shs.blk {b : Pz (List Sm)} (h : Shr b) : Shs (gBlk b) := .bind (.nd _) fun _ => .bind h fun _ => .bind (Shs.nd _).le fun _ => .pure _
theorem Shr.els {b : Pz (List Sm)} (h : Shr b) : Shr (gEls b) := .alt (Shs.blk h).le (.pure _)
theorem Shr.oth {b : Pz (List Sm)} (h : Shr b) : Shr (gOth b) := .alt (Shs.blk h).le (.bind (Shs.nd _).le fun _ => .pure _)
theorem Shs.st {b : Pz (List Sm)} (h : Shr b) : Shs (gSt b) :=
 .alt (.bind Shs.ex.le fun _ => .bind (Shs.blk h).le fun _ => .bind (.els h) fun _ => .pure _)<|.alt (.bind Shs.ex.le fun _ => .bind (Shs.blk h).le fun _ => .pure _)<|.alt (.bind Shs.ex.le fun _ => .bind (Shs.nd _).le fun _ => .bind Shs.ex.le fun _ => .bind (.oth h) fun _ => .pure _)<|.alt (.bind Shs.nm.le fun _ => .bind (Shs.nd _).le fun _ => .bind Shs.ex.le fun _ => .bind (.oth h) fun _ => .pure _)<|.alt (.bind Shs.nm.le fun _ => .bind (Shs.nd _).le fun _ => .bind Shs.nm.le fun _ => .bind (Shs.list Shs.ex.le).le fun _ => .bind (Shs.nd _).le fun _ => .pure _)<|.alt (.bind Shs.ex.le fun _ => .bind (Shs.nd _).le fun _ => .bind Shs.nm.le fun _ => .bind (Shs.list Shs.ex.le).le fun _ => .bind (Shs.nd _).le fun _ => .pure _)<|.alt (.bind (Shs.nd _).le fun _ => .pure _)<|.alt (.bind Shs.nm.le fun _ => .bind (Shs.nd _).le fun _ => .bind Shs.ex.le fun _ => .bind (Shs.nd _).le fun _ => .bind (Shs.nd _).le fun _ => .pure _)<|.bind .nm fun _ => .alt (.bind Shs.ex.le fun _ => .bind (Shs.nd _).le fun _ => .bind (Shs.nd _).le fun _ => .bind Shs.ex.le fun _ => .bind (Shs.nd _).le fun _ => .pure _) (.bind (Shs.nd _).le fun _ => .bind Shs.ex.le fun _ => .bind (Shs.nd _).le fun _ => .pure _)
theorem Agz.blk {n : Nat} {b c : Pz (List Sm)} (h : Agz n b c) (hb : Shr b) : Agz n (gBlk b) (gBlk c) := .bind (Shs.nd _).le .rfl' fun _ => .bind hb h fun _ => .rfl'
theorem Agz.els {n : Nat} {b c : Pz (List Sm)} (h : Agz n b c) (hb : Shr b) : Agz n (gEls b) (gEls c) := .altr (.blk h hb) .rfl'
theorem Agz.oth {n : Nat} {b c : Pz (List Sm)} (h : Agz n b c) (hb : Shr b) : Agz n (gOth b) (gOth c) := .altr (.blk h hb) .rfl'
theorem Agz.st {n : Nat} {b c : Pz (List Sm)} (h : Agz (n - 1) b c) (hb : Shr b) : Agz n (gSt b) (gSt c) :=
 .alt (.bind Shs.ex.le .rfl' fun _ => .bind (Shs.blk hb).le (.blk h hb) fun _ => .bind (.els hb) (.els h hb) fun _ => .rfl')<|.alt (.bind Shs.ex.le .rfl' fun _ => .bind (Shs.blk hb).le (.blk h hb) fun _ => .rfl')<|.alt (.bind Shs.ex.le .rfl' fun _ => .bind (Shs.nd _).le .rfl' fun _ => .bind Shs.ex.le .rfl' fun _ => .bind (.oth hb) (.oth h hb) fun _ => .rfl')<|.alt (.bind Shs.nm.le .rfl' fun _ => .bind (Shs.nd _).le .rfl' fun _ => .bind Shs.ex.le .rfl' fun _ => .bind (.oth hb) (.oth h hb) fun _ => .rfl') .rfl'
theorem gBF_shr : ∀ f,Shr (gBF f)
 | 0 => fun _ _ _ e => by cases e
 | f + 1 => fun r a r' e => by
  unfold gBF at e
  split at e
  ·injection e with _ e;subst e;exact Nat.le_refl _
  ·obtain ⟨s,q,h1,h2⟩ := Rs.bind_ok e
   obtain ⟨l,q2,h3,h4⟩ := Rs.bind_ok h2
   injection h4 with _ h4;subst h4
   have := (Shs.st (gBF_shr f)) _ _ _ h1
   have := gBF_shr f _ _ _ h3
   omega
theorem Shr.b : Shr gB := fun _ _ _ e => gBF_shr _ _ _ _ e
theorem gBF_more : ∀ (f g : Nat) (r : List Tk),r.length < f → r.length < g → gBF f r = gBF g r
 | 0,_,_,k,_ => by omega
 | _,0,_,_,k => by omega
 | f + 1,g + 1,[],_,_ => rfl
 | f + 1,g + 1,t :: r,k1,k2 => by
  unfold gBF
  simp only [List.length_cons] at k1 k2
  refine ifC rfl (Rs.bind_congr (Agz.st (n := (t :: r).length) (fun q hq => ?_) (gBF_shr f) _ (Nat.le_refl _)) fun s q e => ?_)
  ·simp only [List.length_cons] at hq
   exact gBF_more f g q (by omega) (by omega)
  ·have := (Shs.st (gBF_shr f)) _ _ _ e
   simp only [List.length_cons] at this
   exact Rs.bind_congr (gBF_more f g q (by omega) (by omega)) fun _ _ _ => rfl
theorem gB_eq (r : List Tk) : gB r = if isT [125] r then .ok [] r else (gSt gB r).bind fun s r1 => (gB r1).bind fun l r2 => .ok (s :: l) r2 := by
 match r with
 | [] => rfl
 | t :: r =>
  conv => lhs;unfold gB;unfold gBF
  refine ifC rfl (Rs.bind_congr (Agz.st (n := (t :: r).length) (fun q hq => ?_) (gBF_shr _) _ (Nat.le_refl _)) fun s q e => ?_)
  ·simp only [List.length_cons] at hq
   exact gBF_more _ _ q (by simp only [List.length_cons];omega) (by omega)
  ·have := (Shs.st (gBF_shr _)) _ _ _ e
   exact Rs.bind_congr (gBF_more _ _ q (by omega) (by omega)) fun _ _ _ => rfl
def hdO (r : List Tk) : Option Kt := r.head?.map kt
def hdC (k : List Kt) (o : Option Kt) : Option Kt := match k with | [] => o | x :: _ => some x
theorem hdO_app {l r : List Tk} {k : List Kt} (h : l.map kt = k) : hdO (l ++ r) = hdC k (hdO r) := by
 subst h
 cases l <;> rfl
def anyO (_ : Option Kt) : Prop := True
def notW (w : Str) : Option Kt → Prop
 | none => True
 | some x => isK w x = false
def stpO : Option Kt → Prop
 | none => True
 | some x => (∀ i ∈ List.range 5,opK i x = none) ∧ isK [91] x = false
theorem isT_hdO (w : Str) (r : List Tk) : isT w r = match hdO r with | none => false | some x => isK w x := by cases r <;> rfl
theorem notW_isT {w : Str} {r : List Tk} (h : notW w (hdO r)) : isT w r = false := by
 rw [isT_hdO]
 cases e : hdO r with
 | none => rfl
 | some x => rw [e] at h;exact h
section
variable {α β : Type}
def Rdc (p : Pz α) (ks : List Kt) (v : α) (C : Option Kt → Prop) : Prop := ∀ le r,le.map kt = ks → C (hdO r) → p (le ++ r) = .ok v r
variable {k k1 k2 : List Kt} {v a : α} {C C1 C2 : Option Kt → Prop} {w : Str} {x : Kt}
theorem Rdc.pure : Rdc (gPure v) [] v C := fun le r e _ => by
 obtain rfl := List.map_eq_nil_iff.1 e;rfl
theorem Rdc.seq {p : Pz α} {f : α → Pz β} {b : β} (h1 : Rdc p k1 a C1) (hc : ∀ o,C2 o → C1 (hdC k2 o)) (h2 : Rdc (f a) k2 b C2) : Rdc (gBind p f) (k1 ++ k2) b C2 := fun le r e c => by
 obtain ⟨l1,l2,rfl,e1,e2⟩ := List.map_eq_append_iff.1 e
 unfold gBind
 rw [List.append_assoc,h1 l1 (l2 ++ r) e1 (by rw [hdO_app e2];exact hc _ c)]
 exact h2 l2 r e2 c
theorem Rdc.nd {f : Unit → Pz β} {b : β} (hx : isK w x = true) (h : Rdc (f ()) k b C) : Rdc (gBind (gNd w) f) (x :: k) b C := fun le r e c => by
 obtain ⟨t,l,rfl,ht,hl⟩ := List.map_eq_cons_iff.1 e
 unfold gBind gNd
 rw [List.cons_append,isT_cons,ht,hx]
 exact h l r hl c
theorem Rdc.nm {f : Str → Pz β} {b : β} (h : Rdc (f w) k b C) : Rdc (gBind gNm f) ((1,w) :: k) b C := fun le r e c => by
 obtain ⟨t,l,rfl,ht,hl⟩ := List.map_eq_cons_iff.1 e
 have h1 : t.k = 1 := congrArg Prod.fst ht
 have h2 : t.t = w := congrArg Prod.snd ht
 unfold gBind gNm
 rw [List.cons_append]
 simp only [h1,h2,if_true]
 exact h l r hl c
theorem Rdc.nm1 : Rdc gNm [(1,w)] w C := fun le r e c => by
 obtain ⟨t,l,rfl,ht,hl⟩ := List.map_eq_cons_iff.1 e
 obtain rfl := List.map_eq_nil_iff.1 hl
 have h1 : t.k = 1 := congrArg Prod.fst ht
 have h2 : t.t = w := congrArg Prod.snd ht
 unfold gNm
 rw [List.cons_append]
 simp only [h1,h2,if_true]
 rfl
theorem Rdc.nu {u : Nat} (h : u ≤ 9223372036854775807) : Rdc gNu [(3,Lib.decDigits u)] (Int64.ofNat u) C := fun le r e c => by
 obtain ⟨t,l,rfl,ht,hl⟩ := List.map_eq_cons_iff.1 e
 obtain rfl := List.map_eq_nil_iff.1 hl
 have h1 : t.k = 3 := congrArg Prod.fst ht
 have h2 : t.t = Lib.decDigits u := congrArg Prod.snd ht
 unfold gNu
 rw [List.cons_append]
 simp only [h1,h2,if_true,numV_digits,h]
 rfl
theorem Rdc.altT {p q : Pz α} (hx : isK w x = true) (h : Rdc p k v C) : Rdc (gAlt w p q) (x :: k) v C := fun le r e c => by
 obtain ⟨t,l,rfl,ht,hl⟩ := List.map_eq_cons_iff.1 e
 unfold gAlt
 rw [List.cons_append,isT_cons,ht,hx]
 exact h l r hl c
theorem Rdc.altF {p q : Pz α} (hx : isK w x = false) (h : Rdc q (x :: k) v C) : Rdc (gAlt w p q) (x :: k) v C := fun le r e c => by
 have h2 := h le r e c
 obtain ⟨t,l,rfl,ht,hl⟩ := List.map_eq_cons_iff.1 e
 unfold gAlt
 rw [List.cons_append,isT_cons,ht,hx]
 exact h2
theorem Rdc.altE {p q : Pz α} (hc : ∀ o,C o → notW w o) (h : Rdc q [] v C) : Rdc (gAlt w p q) [] v C := fun le r e c => by
 have h2 := h le r e c
 obtain rfl := List.map_eq_nil_iff.1 e
 unfold gAlt
 rw [List.nil_append,notW_isT (hc _ c),if_neg (by decide)]
 exact h2
theorem Rdc.many {p : Pz α} (hp : Shr p) (hx : isK w x = true) {g : α → List Kt} {Cp : Option Kt → Prop} (h1 : Cp (some x)) (hc : ∀ o,C o → Cp o ∧ notW w o) : ∀ l : List α,(∀ a ∈ l,Rdc p (g a) a Cp) → Rdc (gMany w p) ((l.map fun a => x :: g a).flatten) l C
 | [],_ => by
  rw [gMany_eq hp]
  exact .altE (fun o c => (hc o c).2) .pure
 | a :: l,h => by
  have ih := Rdc.many hp hx h1 hc l fun b hb => h b (List.mem_cons_of_mem _ hb)
  rw [gMany_eq hp]
  simp only [List.map_cons,List.flatten_cons,List.cons_append]
  refine .altT hx (.seq (h a (List.mem_cons_self ..)) (fun o c => ?_) ?_)
  ·cases l with
   | nil => exact (hc o c).1
   | cons b l => exact h1
  ·have := Rdc.seq (f := fun l => gPure (a :: l)) (k2 := []) ih (fun o c => c) .pure
   rwa [List.append_nil] at this
def comK (l : List (List Kt)) : List Kt := (l.map fun k => (4,[44]) :: k).flatten
def sepK : List (List Kt) → List Kt
 | [] => []
 | k :: l => k ++ comK l
def lstK (l : List (List Kt)) : List Kt := (4,[40]) :: (sepK l ++ [(4,[41])])
theorem Rdc.list {p : Pz α} (hp : Shr p) {g : α → List Kt} {Cp : Option Kt → Prop} (h1 : Cp (some (4,[44]))) (h2 : Cp (some (4,[41]))) {l : List α} (h : ∀ a ∈ l,Rdc p (g a) a Cp) (hg : ∀ a ∈ l,∃ x k,g a = x :: k ∧ isK [41] x = false) : Rdc (gList p) (lstK (l.map g)) l C := by
 refine .nd Z ?_
 cases l with
 | nil => exact .altT rfl .pure
 | cons a l =>
  obtain ⟨x,k,e,hk⟩ := hg a (List.mem_cons_self ..)
  have ha := h a (List.mem_cons_self ..)
  have hm : Rdc (gMany [44] p) (comK (l.map g)) l (fun o => o = some (4,[41])) := by
   have := Rdc.many (C := fun o => o = some (4,[41])) hp (w := [44]) (x := (4,[44])) rfl (g := g) h1 (fun o c => by subst c;exact ⟨h2,rfl⟩) l fun b hb => h b (List.mem_cons_of_mem _ hb)
   unfold comK
   rwa [List.map_map]
  have key : Rdc (gBind p fun a => gBind (gMany [44] p) fun l => gBind (gNd [41]) fun _ => gPure (a :: l)) (g a ++ (comK (l.map g) ++ [(4,[41])])) (a :: l) C := by
   refine .seq ha (fun o c => ?_) (.seq hm (fun o c => rfl) (.nd Z .pure))
   cases l with
   | nil => exact h2
   | cons b l => exact h1
  simp only [List.map_cons,sepK,List.append_assoc]
  rw [e] at key ⊢
  exact .altF hk key
end
def stK (kd : UInt8) (nm hd : Str) (es : List (List Kt)) (T : List Kt) (noE : Bool) (E : List Kt) : List Kt :=
 if kd = 1 then (1,nm) :: (4,[61]) :: (es.getD 0 [] ++ [(4,[59])])
 else if kd = 2 then (1,nm) :: (4,[91]) :: (es.getD 0 [] ++ (4,[93]) :: (4,[61]) :: (es.getD 1 [] ++ [(4,[59])]))
 else if kd = 3 then (2,[100,101,108,101,116,101]) :: (1,nm) :: (4,[91]) :: (es.getD 0 [] ++ [(4,[93]),(4,[59])])
 else if kd = 4 then (2,[105,102]) :: (es.getD 0 [] ++ ((4,[123]) :: (T ++ [(4,[125])]) ++ if noE then [] else (2,[101,108,115,101]) :: (4,[123]) :: (E ++ [(4,[125])])))
 else if kd = 5 then (2,[119,104,105,108,101]) :: (es.getD 0 [] ++ (4,[123]) :: (T ++ [(4,[125])]))
 else if kd = 6 then (2,[115,101,110,100]) :: (1,nm) :: (4,[46]) :: (1,hd) :: (lstK es ++ [(4,[59])])
 else if kd = 7 then (2,[97,102,116,101,114]) :: (es.getD 0 [] ++ (2,[100,111]) :: (1,hd) :: (lstK (es.drop 1) ++ [(4,[59])]))
 else if kd = 8 then (2,[115,116,111,114,101]) :: (es.getD 0 [] ++ (4,[61]) :: (es.getD 1 [] ++ if noE then [(4,[59])] else (2,[101,108,115,101]) :: (4,[123]) :: (E ++ [(4,[125])])))
 else if kd = 9 then (2,[102,101,116,99,104]) :: (1,nm) :: (4,[61]) :: (es.getD 0 [] ++ if noE then [(4,[59])] else (2,[101,108,115,101]) :: (4,[123]) :: (E ++ [(4,[125])]))
 else [(2,[115,116,111,112]),(4,[59])]
mutual
def ktS : Sm → List Kt
 | .mk kd nm hd ex th el => stK kd nm hd (ex.map ktE) (ktSs th) (decide (el.length = 0)) (ktSs el)
def ktSs : List Sm → List Kt
 | [] => []
 | s :: r => ktS s ++ ktSs r
end
theorem ktS_mk (kd : UInt8) (nm hd : Str) (ex : List Ex) (th el : List Sm) : ktS (.mk kd nm hd ex th el) = stK kd nm hd (ex.map ktE) (ktSs th) (decide (el.length = 0)) (ktSs el) := by rw [ktS]
theorem Rdc.ex {e : Ex} (h : Ex.all frmE e = true) : Rdc gEx (ktE e) e stpO := fun le r hk c => by
 obtain ⟨h1,h2⟩ := rd_all e h
 refine h1.full hk (by omega) h2 ⟨fun i _ h4 => ?_,?_⟩
 ·cases r with
  | nil => unfold opAt isT;simp
  | cons t r => exact c.1 i (List.mem_range.2 (by omega))
 ·cases r with
  | nil => rfl
  | cons t r => exact c.2
theorem ktE_hd (e : Ex) : Ex.all frmE e = true → ∃ x k,ktE e = x :: k ∧ isK [41] x = false := by
 induction e using Ex.ind with
 | _ op nm n args ih =>
  intro h
  rw [all_mk,Bool.and_eq_true] at h
  obtain ⟨hf,hr⟩ := h
  have ha : ∀ a ∈ args,∃ x k,ktE a = x :: k ∧ isK [41] x = false := fun a m => ih a m (alls_mem m hr)
  simp only [frmE,Bool.and_eq_true,Bool.or_eq_true,decide_eq_true_eq] at hf
  obtain ⟨⟨⟨hop,hl⟩,_⟩,_⟩ := hf
  by_cases h1 : op = 1
  ·subst h1;exact ⟨_,_,rfl,by simp [isK]⟩
  by_cases hb : op ∈ ([11,12,13,14,15,16,17,18,19,20,21,22,23] : List UInt8)
  ·obtain ⟨b1,_⟩ := bin_facts op hb
   obtain ⟨a,b,rfl⟩ := args2 (l := args) (by omega)
   rw [ktE_bin hb]
   unfold parK
   split
   ·exact ⟨_,_,rfl,rfl⟩
   ·obtain ⟨x,k,e,hx⟩ := ha a (by simp)
    rw [e]
    exact ⟨_,_,rfl,hx⟩
  have hs : op = 2 ∨ op = 3 ∨ op = 4 ∨ op = 5 ∨ op = 6 ∨ op = 7 ∨ op = 8 ∨ op = 9 ∨ op = 10 := ((ok_split hop).resolve_left h1).resolve_left hb
  rcases hs with rfl | rfl | rfl | rfl | rfl | rfl | rfl | rfl | rfl
  all_goals first | exact ⟨_,_,rfl,rfl⟩ | exact ⟨_,_,rfl,by decide⟩
theorem Rdc.exs {C : Option Kt → Prop} {l : List Ex} (h : ∀ a ∈ l,Ex.all frmE a = true) : Rdc (gList gEx) (lstK (l.map ktE)) l C :=
 .list Shs.ex.le ⟨by decide,by decide⟩ ⟨by decide,by decide⟩ (fun a ha => .ex (h a ha)) fun a ha => ktE_hd a (h a ha)
def endB (o : Option Kt) : Prop := o = some (4,[125])
theorem Rdc.blk {C : Option Kt → Prop} {l : List Sm} (h : Rdc gB (ktSs l) l endB) : Rdc (gBlk gB) ((4,[123]) :: (ktSs l ++ [(4,[125])])) l C :=
 .nd rfl (.seq h (fun _ _ => rfl) (.nd rfl .pure))
theorem okKd_cases {kd : UInt8} (h : okKd kd = true) : kd = 1 ∨ kd = 2 ∨ kd = 3 ∨ kd = 4 ∨ kd = 5 ∨ kd = 6 ∨ kd = 7 ∨ kd = 8 ∨ kd = 9 ∨ kd = 10 := by
 simp only [okKd,Bool.and_eq_true,decide_eq_true_eq] at h
 have key : ∀ i ∈ List.range 11,1 ≤ i → (UInt8.ofNat i = 1 ∨ UInt8.ofNat i = 2 ∨ UInt8.ofNat i = 3 ∨ UInt8.ofNat i = 4 ∨ UInt8.ofNat i = 5 ∨ UInt8.ofNat i = 6 ∨ UInt8.ofNat i = 7 ∨ UInt8.ofNat i = 8 ∨ UInt8.ofNat i = 9 ∨ UInt8.ofNat i = 10) := by decide
 have := key kd.toNat (List.mem_range.2 (by omega)) h.1
 rwa [UInt8.ofNat_toNat] at this
theorem exs1 {l : List Ex} (h : l.length = 1) (hf : Ex.alls frmE l = true) : ∃ a,l = [a] ∧ Ex.all frmE a = true := by
 obtain ⟨a,rfl⟩ := args1 h
 exact ⟨a,rfl,alls_mem (by simp) hf⟩
theorem exs2 {l : List Ex} (h : l.length = 2) (hf : Ex.alls frmE l = true) : ∃ a b,l = [a,b] ∧ Ex.all frmE a = true ∧ Ex.all frmE b = true := by
 obtain ⟨a,b,rfl⟩ := args2 h
 exact ⟨a,b,rfl,alls_mem (by simp) hf,alls_mem (by simp) hf⟩
inductive FmS : Sm → Prop where
 | k1 {nm : Str} {a : Ex} (ha : Ex.all frmE a = true) : FmS (.mk 1 nm [] [a] [] [])
 | k2 {nm : Str} {a b : Ex} (ha : Ex.all frmE a = true) (hb : Ex.all frmE b = true) : FmS (.mk 2 nm [] [a,b] [] [])
 | k3 {nm : Str} {a : Ex} (ha : Ex.all frmE a = true) : FmS (.mk 3 nm [] [a] [] [])
 | k4 {a : Ex} {th el : List Sm} (ha : Ex.all frmE a = true) : FmS (.mk 4 [] [] [a] th el)
 | k5 {a : Ex} {th : List Sm} (ha : Ex.all frmE a = true) : FmS (.mk 5 [] [] [a] th [])
 | k6 {nm hd : Str} {l : List Ex} (hl : ∀ a ∈ l,Ex.all frmE a = true) : FmS (.mk 6 nm hd l [] [])
 | k7 {hd : Str} {a : Ex} {l : List Ex} (ha : Ex.all frmE a = true) (hl : ∀ a ∈ l,Ex.all frmE a = true) : FmS (.mk 7 [] hd (a :: l) [] [])
 | k8 {a b : Ex} {el : List Sm} (ha : Ex.all frmE a = true) (hb : Ex.all frmE b = true) : FmS (.mk 8 [] [] [a,b] [] el)
 | k9 {nm : Str} {a : Ex} {el : List Sm} (ha : Ex.all frmE a = true) : FmS (.mk 9 nm [] [a] [] el)
 | k10 : FmS (.mk 10 [] [] [] [] [])
theorem frmS_form {s : Sm} (h : frmS s = true) : FmS s := by
 obtain ⟨kd,nm,hd,ex,th,el⟩ := s
 simp only [frmS,Bool.and_eq_true,Bool.or_eq_true,decide_eq_true_eq] at h
 obtain ⟨⟨⟨⟨⟨⟨⟨hk,h1⟩,h2⟩,h3⟩,h4⟩,h5⟩,h6⟩,h7⟩ := h
 have z : ∀ {l : List Sm},l.length = 0 → l = [] := List.eq_nil_of_length_eq_zero
 rcases okKd_cases hk with rfl | rfl | rfl | rfl | rfl | rfl | rfl | rfl | rfl | rfl
 ·obtain rfl := h4.resolve_left (by decide);obtain rfl := z (h5.resolve_left (by decide));obtain rfl := z (h6.resolve_left (by decide))
  obtain ⟨a,rfl,ha⟩ := exs1 (Nat.le_antisymm h2 h1) h7
  exact .k1 ha
 ·obtain rfl := h4.resolve_left (by decide);obtain rfl := z (h5.resolve_left (by decide));obtain rfl := z (h6.resolve_left (by decide))
  obtain ⟨a,b,rfl,ha,hb⟩ := exs2 (Nat.le_antisymm h2 h1) h7
  exact .k2 ha hb
 ·obtain rfl := h4.resolve_left (by decide);obtain rfl := z (h5.resolve_left (by decide));obtain rfl := z (h6.resolve_left (by decide))
  obtain ⟨a,rfl,ha⟩ := exs1 (Nat.le_antisymm h2 h1) h7
  exact .k3 ha
 ·obtain rfl := h3.resolve_left (by decide);obtain rfl := h4.resolve_left (by decide)
  obtain ⟨a,rfl,ha⟩ := exs1 (Nat.le_antisymm h2 h1) h7
  exact .k4 ha
 ·obtain rfl := h3.resolve_left (by decide);obtain rfl := h4.resolve_left (by decide);obtain rfl := z (h6.resolve_left (by decide))
  obtain ⟨a,rfl,ha⟩ := exs1 (Nat.le_antisymm h2 h1) h7
  exact .k5 ha
 ·obtain rfl := z (h5.resolve_left (by decide));obtain rfl := z (h6.resolve_left (by decide))
  exact .k6 fun a ha => alls_mem ha h7
 ·obtain rfl := h3.resolve_left (by decide);obtain rfl := z (h5.resolve_left (by decide));obtain rfl := z (h6.resolve_left (by decide))
  cases ex with
  | nil => exact absurd h1 (by decide)
  | cons a l => exact .k7 (alls_mem (by simp) h7) fun b hb => alls_mem (by simp [hb]) h7
 ·obtain rfl := h3.resolve_left (by decide);obtain rfl := h4.resolve_left (by decide);obtain rfl := z (h5.resolve_left (by decide))
  obtain ⟨a,b,rfl,ha,hb⟩ := exs2 (Nat.le_antisymm h2 h1) h7
  exact .k8 ha hb
 ·obtain rfl := h4.resolve_left (by decide);obtain rfl := z (h5.resolve_left (by decide))
  obtain ⟨a,rfl,ha⟩ := exs1 (Nat.le_antisymm h2 h1) h7
  exact .k9 ha
 ·obtain rfl := h3.resolve_left (by decide);obtain rfl := h4.resolve_left (by decide);obtain rfl := z (h5.resolve_left (by decide));obtain rfl := z (h6.resolve_left (by decide))
  obtain rfl := args0 (Nat.le_zero.1 h2)
  exact .k10
theorem ktS_hd {s : Sm} (h : FmS s) : ∃ x k,ktS s = x :: k ∧ isK [125] x = false ∧ isK [101,108,115,101] x = false := by
 cases h <;> rw [ktS_mk] <;> exact ⟨_,_,rfl,rfl,rfl⟩
def RdS (s : Sm) : Prop := Rdc (gSt gB) (ktS s) s (notW [101,108,115,101])
theorem stp_ {x : Kt} (h1 : (List.range 5).all (fun i => (opK i x).isNone) = true) (h2 : isK [91] x = false) : stpO (some x) := ⟨fun i hi => by simpa using List.all_eq_true.1 h1 i hi,h2⟩
theorem Rdc.oth {C : Option Kt → Prop} {el : List Sm} (h : Rdc gB (ktSs el) el endB) : Rdc (gOth gB) (if decide (el.length = 0) = true then [(4,[59])] else (2,[101,108,115,101]) :: (4,[123]) :: (ktSs el ++ [(4,[125])])) el C := by
 split
 ·rename_i e
  obtain rfl := List.eq_nil_of_length_eq_zero (of_decide_eq_true e)
  exact .altF Z (.nd Z .pure)
 ·exact .altT Z (.blk h)
theorem oth_stp (el : List Sm) (o : Option Kt) : stpO (hdC (if decide (el.length = 0) = true then [(4,[59])] else (2,[101,108,115,101]) :: (4,[123]) :: (ktSs el ++ [(4,[125])])) o) := by
 split <;> exact stp_ rfl rfl
theorem Rdc.st {s : Sm} (h : FmS s) (ht : ∀ nm hd kd ex th el,s = .mk kd nm hd ex th el → Rdc gB (ktSs th) th endB ∧ Rdc gB (ktSs el) el endB) : RdS s := by
 unfold RdS
 cases h with
 | k1 ha => exact .altF rfl<|.altF rfl<|.altF rfl<|.altF rfl<|.altF rfl<|.altF rfl<|.altF rfl<|.altF rfl<|.nm<|.altF rfl<|.nd rfl<|.seq (.ex ha) (fun _ _ => stp_ rfl rfl)<|.nd rfl .pure
 | k2 ha hb => exact .altF rfl<|.altF rfl<|.altF rfl<|.altF rfl<|.altF rfl<|.altF rfl<|.altF rfl<|.altF rfl<|.nm<|.altT rfl<|.seq (.ex ha) (fun _ _ => stp_ rfl rfl)<|.nd rfl<|.nd rfl<|.seq (.ex hb) (fun _ _ => stp_ rfl rfl)<|.nd rfl .pure
 | k3 ha => exact .altF rfl<|.altF rfl<|.altF rfl<|.altF rfl<|.altF rfl<|.altF rfl<|.altF rfl<|.altT rfl<|.nm<|.nd rfl<|.seq (.ex ha) (fun _ _ => stp_ rfl rfl)<|.nd rfl<|.nd rfl .pure
 | @k4 a th el ha =>
  obtain ⟨h1,h2⟩ := ht _ _ _ _ _ _ rfl
  refine .altT Z<|.seq (.ex ha) (fun _ _ => stp_ Z Z)<|.seq (C1 := anyO) (.blk h1) (fun _ _ => trivial) ?_
  split
  ·rename_i e
   obtain rfl := List.eq_nil_of_length_eq_zero (of_decide_eq_true e)
   exact Rdc.seq (k1 := []) (k2 := []) (C1 := notW [101,108,115,101]) (.altE (fun o c => c) .pure) (fun o c => c) .pure
  ·have := Rdc.seq (C2 := notW [101,108,115,101]) (f := fun l => gPure (Sm.mk 4 [] [] [a] th l)) (k2 := []) (C1 := anyO) (.altT (w := [101,108,115,101]) (q := gPure []) (x := (2,[101,108,115,101])) rfl (.blk h2)) (fun o c => trivial) .pure
   rwa [List.append_nil] at this
 | @k5 a th ha =>
  obtain ⟨h1,_⟩ := ht _ _ _ _ _ _ rfl
  have := Rdc.seq (C2 := notW [101,108,115,101]) (f := fun t => gPure (Sm.mk 5 [] [] [a] t [])) (k2 := []) (C1 := anyO) (.blk h1) (fun o c => trivial) .pure
  rw [List.append_nil] at this
  exact .altF Z<|.altT Z<|.seq (.ex ha) (fun _ _ => stp_ Z Z) this
 | k6 hl => exact .altF rfl<|.altF rfl<|.altF rfl<|.altF rfl<|.altT rfl<|.nm<|.nd rfl<|.nm<|.seq (C1 := anyO) (.exs hl) (fun _ _ => trivial)<|.nd rfl .pure
 | k7 ha hl => exact .altF rfl<|.altF rfl<|.altF rfl<|.altF rfl<|.altF rfl<|.altT rfl<|.seq (.ex ha) (fun _ _ => stp_ rfl rfl)<|.nd rfl<|.nm<|.seq (C1 := anyO) (.exs hl) (fun _ _ => trivial)<|.nd rfl .pure
 | @k8 a b el ha hb =>
  obtain ⟨_,h2⟩ := ht _ _ _ _ _ _ rfl
  have := Rdc.seq (C2 := notW [101,108,115,101]) (f := fun l => gPure (Sm.mk 8 [] [] [a,b] [] l)) (k2 := []) (C1 := anyO) (.oth h2) (fun o c => trivial) .pure
  rw [List.append_nil] at this
  exact .altF Z<|.altF Z<|.altT Z<|.seq (.ex ha) (fun _ _ => stp_ Z Z)<|.nd Z<|.seq (.ex hb) (fun o _ => oth_stp el o) this
 | @k9 nm a el ha =>
  obtain ⟨_,h2⟩ := ht _ _ _ _ _ _ rfl
  have := Rdc.seq (C2 := notW [101,108,115,101]) (f := fun l => gPure (Sm.mk 9 nm [] [a] [] l)) (k2 := []) (C1 := anyO) (.oth h2) (fun o c => trivial) .pure
  rw [List.append_nil] at this
  exact .altF Z<|.altF Z<|.altF Z<|.altT Z<|.nm<|.nd Z<|.seq (.ex ha) (fun o _ => oth_stp el o) this
 | k10 => exact .altF rfl<|.altF rfl<|.altF rfl<|.altF rfl<|.altF rfl<|.altF rfl<|.altT rfl<|.nd rfl .pure
theorem Rdc.b : ∀ (l : List Sm),(∀ s ∈ l,FmS s ∧ RdS s) → Rdc gB (ktSs l) l endB
 | [],_ => fun le r e c => by
  obtain rfl := List.map_eq_nil_iff.1 (by rw [ktSs] at e;exact e)
  rw [gB_eq,List.nil_append,isT_hdO]
  have c : hdO r = some (4,[125]) := c
  rw [c]
  rfl
 | s :: l,h => fun le r e c => by
  rw [ktSs] at e
  obtain ⟨l1,l2,rfl,e1,e2⟩ := List.map_eq_append_iff.1 e
  obtain ⟨hf,hs⟩ := h s (List.mem_cons_self ..)
  obtain ⟨x,k,hx,hx1,_⟩ := ktS_hd hf
  have ih := Rdc.b l (fun a ha => h a (List.mem_cons_of_mem _ ha)) l2 r e2 c
  have h2 := hs l1 (l2 ++ r) e1 (by
   rw [hdO_app e2]
   cases l with
   | nil => rw [show hdC (ktSs []) (hdO r) = hdO r from rfl,show hdO r = some (4,[125]) from c];rfl
   | cons b l =>
    obtain ⟨y,k2,hy,_,hy2⟩ := ktS_hd (h b (by simp)).1
    rw [ktSs,hy];exact hy2)
  rw [gB_eq,List.append_assoc,isT_hdO,hdO_app e1,hx]
  show (if isK [125] x = true then _ else _) = _
  rw [hx1,if_neg (by decide),h2]
  show (gB (l2 ++ r)).bind _ = _
  rw [ih]
  rfl
theorem salls_mem {q : Sm → Bool} : ∀ {l : List Sm} {a : Sm},a ∈ l → Sm.alls q l = true → Sm.all q a = true
 | b :: l,a,h,k => by
  rw [Sm.alls,Bool.and_eq_true] at k
  rcases List.mem_cons.1 h with rfl | h
  ·exact k.1
  ·exact salls_mem h k.2
theorem rdS_all (s : Sm) : Sm.all frmS s = true → FmS s ∧ RdS s := by
 induction s using Sm.ind with
 | _ kd nm hd ex th el ih1 ih2 =>
  intro h
  rw [sall_mk,Bool.and_eq_true,Bool.and_eq_true] at h
  obtain ⟨⟨h1,h2⟩,h3⟩ := h
  have hf := frmS_form h1
  exact ⟨hf,.st hf fun nm' hd' kd' ex' th' el' e => by
   injection e with _ _ _ _ e1 e2
   subst e1 e2
   exact ⟨.b _ fun s hs => ih1 s hs (salls_mem hs h2),.b _ fun s hs => ih2 s hs (salls_mem hs h3)⟩⟩
theorem Rdc.body {l : List Sm} (h : Sm.alls frmS l = true) : Rdc gB (ktSs l) l endB := .b l fun s hs => rdS_all s (salls_mem hs h)
/-! ### Fleets -/
def intK (n : Int64) : List Kt := if n.toInt < 0 then [(4,[45]),(3,Lib.decDigits (-n.toInt).toNat)] else [(3,Lib.decDigits n.toInt.toNat)]
def hdK (h : Hd) : List Kt := (1,h.nm) :: (lstK (h.ps.map fun p => [(1,p)]) ++ (4,[123]) :: (ktSs h.body ++ [(4,[125])]))
section
variable {C : Option Kt → Prop}
theorem i64_nat {n : Int64} (h : 0 ≤ n.toInt) : n.toInt.toNat ≤ 9223372036854775807 ∧ Int64.ofNat n.toInt.toNat = n := by
 have hlt := n.toInt_lt
 refine ⟨by omega,Int64.toInt_inj.1 ?_⟩
 rw [Int64.toInt_ofNat_of_lt (by omega)];omega
theorem Rdc.int {n : Int64} (h : n.toInt ≠ -9223372036854775808) : Rdc gInt (intK n) n C := by
 unfold intK
 split
 ·rename_i hn
  have hlt := n.le_toInt
  have h1 : (-n.toInt).toNat ≤ 9223372036854775807 := by omega
  have e : -Int64.ofNat (-n.toInt).toNat = n := by
   apply Int64.toInt_inj.1
   rw [Int64.toInt_neg,Int64.toInt_ofNat_of_lt (by omega)]
   rw [Int.toNat_of_nonneg (by omega),Int.neg_neg]
   exact Int.bmod_eq_of_le (by omega) (by have := n.toInt_lt;omega)
  have := Rdc.seq (C1 := anyO) (C2 := C) (f := fun v => gPure (-v)) (k2 := []) (.nu h1) (fun _ _ => trivial) .pure
  rw [e] at this
  exact .altT Z this
 ·obtain ⟨h1,h2⟩ := i64_nat (n := n) (by omega)
  have h3 := Rdc.nu (C := C) h1
  rw [h2] at h3
  exact .altF (by simp [isK]) h3
theorem Rdc.hd {h : Hd} (hf : frmH h = true) : Rdc gHd (hdK h) h C := by
 have h1 : Rdc (gList gNm) (lstK (h.ps.map fun p => [(1,p)])) h.ps anyO := .list Shs.nm.le (Cp := anyO) trivial trivial (fun a _ => .nm1) fun a _ => ⟨_,_,rfl,by simp [isK]⟩
 have h2 := Rdc.seq (C1 := anyO) (C2 := C) (f := fun b => gPure (Hd.mk h.nm h.ps b)) (k2 := []) (.blk (.body hf)) (fun _ _ => trivial) .pure
 rw [List.append_nil] at h2
 exact .nm<|.seq h1 (fun _ _ => trivial) h2
theorem Shs.hd : Shs gHd := .bind .nm fun _ => .bind (Shs.list Shs.nm.le).le fun _ => .bind (Shs.blk Shr.b).le fun _ => .pure _
theorem Shs.tr : Shs gTr := .alt (.pure _) (.bind (.nd _) fun _ => .pure _)
theorem Shs.fg : Shs gFg := .bind .nm fun _ => .bind (Shs.nd _).le fun _ => .bind Shs.tr.le fun _ => .bind (Shs.nd _).le fun _ => .pure _
theorem Shs.lk : Shs gLk := .bind .nm fun _ => .bind (Shs.nd _).le fun _ => .bind Shs.nm.le fun _ => .bind (Shs.nd _).le fun _ => .bind Shs.nu.le fun _ => .bind (Shs.nd _).le fun _ => .pure _
theorem Shs.int : Shs gInt := .alt (.bind Shs.nu.le fun _ => .pure _) .nu
theorem Shs.vr : Shs gVr := .bind .nm fun _ => .bind (Shs.nd _).le fun _ => .alt (.bind (Shs.nd _).le fun _ => .bind Shs.int.le fun _ => .bind (Shs.nd _).le fun _ => .pure _) (.alt (.bind (Shs.nd _).le fun _ => .bind Shs.tr.le fun _ => .bind (Shs.nd _).le fun _ => .pure _) (.bind (Shs.nd _).le fun _ => .bind (Shs.nd _).le fun _ => .pure _))
theorem Shr.vs : Shr gVs := .many Shs.hd.le
theorem Shs.vn (n : Str) : Shs (gVn n) := .bind (.nn _) fun _ => .bind (Shs.nd _).le fun _ => .bind .vs fun _ => .bind (Shs.nd _).le fun _ => .pure _
theorem Shr.vm : Shr gVm := .alt (.bind (Shs.vn _).le fun _ => .alt (.bind (Shs.vn _).le fun _ => .pure _) (.pure _)) (.pure _)
theorem Shs.cp : Shs gCp := .bind .nm fun _ => .bind (Shs.nd _).le fun _ => .bind (.many Shs.vr.le) fun _ => .bind .vs fun _ => .bind .vm fun _ => .bind (Shs.nd _).le fun _ => .pure _
end
structure Tok (x : Kt) (r : Str) : Prop where
 ne : x.2 ≠ []
 read : readK (x.2 ++ r) = (x.1,x.2.length)
 skip : skipS false (x.2 ++ r) = x.2 ++ r
 k5 : x.1 ≠ 5
inductive Lx : Str → List Kt → Prop where
 | nil : Lx [] []
 | blk {c : UInt8} {s : Str} {k : List Kt} (h : blkB c = true) (l : Lx s k) : Lx (c :: s) k
 | tok {x : Kt} {s : Str} {k : List Kt} (h : Tok x s) (l : Lx s k) : Lx (x.2 ++ s) (x :: k)
def sepB (r : Str) : Prop := ∀ c,r.head? = some c → insB c = false ∧ c ≠ 46 ∧ c ≠ 61 ∧ c ≠ 62 ∧ c ≠ 47
def hdB (r : Str) : Prop := ∀ c,r.head? = some c → c ≠ 46 ∧ c ≠ 61 ∧ c ≠ 62 ∧ c ≠ 47
theorem sepB.hd {r : Str} (h : sepB r) : hdB r := fun c e => (h c e).2
theorem sepB_cons {c : UInt8} {r : Str} (h : insB c = false ∧ c ≠ 46 ∧ c ≠ 61 ∧ c ≠ 62 ∧ c ≠ 47) : sepB (c :: r) := fun d e => by cases e;exact h
theorem hdB_cons {c : UInt8} {r : Str} (h : c ≠ 46 ∧ c ≠ 61 ∧ c ≠ 62 ∧ c ≠ 47) : hdB (c :: r) := fun d e => by cases e;exact h
theorem pre_app {q : UInt8 → Bool} : ∀ {w r : Str},w.all q = true → (∀ c,r.head? = some c → q c = false) → pre q (w ++ r) = w.length
 | [],[],_,_ => rfl
 | [],c :: r,_,h => by unfold pre;rw [List.nil_append,List.takeWhile_cons,h c rfl];rfl
 | a :: w,r,hw,h => by
  rw [List.all_cons,Bool.and_eq_true] at hw
  have := pre_app hw.2 h
  unfold pre at this ⊢
  rw [List.cons_append,List.takeWhile_cons,hw.1]
  simp [this]
theorem pre_all {q : UInt8 → Bool} : ∀ {w : Str},pre q w = w.length → w.all q = true
 | [],_ => rfl
 | a :: w,h => by
  unfold pre at h
  rw [List.takeWhile_cons] at h
  cases ha : q a with
  | false => rw [ha] at h;simp at h
  | true =>
   rw [ha] at h
   have := pre_all (q := q) (w := w) (by unfold pre;simpa using h)
   rw [List.all_cons,ha,this];rfl
theorem byte_key {Q : UInt8 → Prop} (h : ∀ i ∈ List.range 256,Q (UInt8.ofNat i)) (c : UInt8) : Q c := by
 have := h c.toNat (List.mem_range.2 c.toNat_lt)
 rwa [UInt8.ofNat_toNat] at this
theorem let_blk (c : UInt8) (h : letB c = true) : blkB c = false ∧ c ≠ 47 ∧ c ≠ 46 ∧ c ≠ 61 ∧ c ≠ 62 ∧ insB c = true ∧ digB c = false := by
 revert h
 exact byte_key (Q := fun c => letB c = true → blkB c = false ∧ c ≠ 47 ∧ c ≠ 46 ∧ c ≠ 61 ∧ c ≠ 62 ∧ insB c = true ∧ digB c = false) (by decide +kernel) c
theorem dig_blk (c : UInt8) (h : digB c = true) : blkB c = false ∧ c ≠ 47 ∧ c ≠ 46 ∧ c ≠ 61 ∧ c ≠ 62 ∧ letB c = false := by
 revert h
 exact byte_key (Q := fun c => digB c = true → blkB c = false ∧ c ≠ 47 ∧ c ≠ 46 ∧ c ≠ 61 ∧ c ≠ 62 ∧ letB c = false) (by decide +kernel) c
theorem ins_dig (c : UInt8) (h : insB c = false) : digB c = false := by
 revert h
 exact byte_key (Q := fun c => insB c = false → digB c = false) (by decide +kernel) c
theorem tok_word {k : UInt8} {w r : Str} (h0 : w ≠ []) (hl : letB (w.headD 0) = true) (hw : w.all insB = true) (hk : (if words.contains w then (2 : UInt8) else if w.length ≤ 12 then 1 else 5) = k) (h5 : k ≠ 5) (hr : sepB r) : Tok (k,w) r := by
 match w,h0 with
 | c :: t,h0 =>
  have hlb := let_blk c hl
  have hp : pre insB ((c :: t) ++ r) = (c :: t).length := pre_app hw fun d hd => (hr d hd).1
  refine ⟨h0,?_,?_,h5⟩
  ·show readK ((c :: t) ++ r) = (k,(c :: t).length)
   unfold readK
   simp only
   rw [show ((c :: t) ++ r).headD 0 = c from rfl,show letB c = true from hl,if_pos rfl,hp,List.take_left]
   split at hk
   ·rename_i e;rw [if_pos e,← hk]
   ·rename_i e
    rw [if_neg e]
    split at hk
    ·rename_i e2;rw [if_pos e2,← hk]
    ·exact absurd hk.symm h5
  ·exact skipS_stop hlb.1 (fun e => hlb.2.1 e.1)
theorem kw_facts : ∀ w ∈ words,w ≠ [] ∧ letB (w.headD 0) = true ∧ w.all insB = true := by decide +kernel
theorem tok_kw {w r : Str} (hw : w ∈ words) (hr : sepB r) : Tok (2,w) r := by
 obtain ⟨h1,h2,h3⟩ := kw_facts w hw
 exact tok_word h1 h2 h3 (by rw [if_pos (List.contains_iff_mem.2 hw)]) (by decide) hr
theorem nameB_facts {w : Str} (h : nameB w = true) : w ≠ [] ∧ letB (w.headD 0) = true ∧ w.all insB = true ∧ words.contains w = false ∧ w.length ≤ 12 := by
 have hlen := name_len h
 simp only [nameB,Bool.and_eq_true,decide_eq_true_eq,beq_iff_eq] at h
 obtain ⟨⟨h0,h1⟩,h2⟩ := h
 match w,h0 with
 | c :: t,h0 =>
  have hl := readK_one h1
  have h3 : words.contains ((c :: t).take (pre insB (c :: t))) = false ∧ pre insB (c :: t) = (c :: t).length := by
   unfold readK at h1 h2
   simp only [List.headD_cons,hl,if_true] at h1 h2
   split at h1
   ·simp at h1
   ·rename_i e
    rw [if_neg e] at h2
    split at h1
    ·rename_i e2
     rw [if_pos e2] at h2
     exact ⟨by simpa using e,h2⟩
    ·simp at h1
  obtain ⟨h4,h5⟩ := h3
  rw [h5,List.take_length] at h4
  exact ⟨h0,hl,pre_all h5,h4,hlen⟩
theorem tok_name {w r : Str} (hw : nameB w = true) (hr : sepB r) : Tok (1,w) r := by
 obtain ⟨h1,h2,h3,h4,h5⟩ := nameB_facts hw
 exact tok_word h1 h2 h3 (by rw [h4,if_neg (by decide),if_pos h5]) (by decide) hr
theorem name_hd {w r : Str} (hw : nameB w = true) : hdB (w ++ r) := by
 obtain ⟨h1,h2,_⟩ := nameB_facts hw
 match w,h1 with
 | c :: t,_ => have := let_blk c h2;exact hdB_cons ⟨this.2.2.1,this.2.2.2.1,this.2.2.2.2.1,this.2.1⟩
theorem kw_hd {w r : Str} (hw : w ∈ words) : hdB (w ++ r) := by
 obtain ⟨h1,h2,_⟩ := kw_facts w hw
 match w,h1 with
 | c :: t,_ => have := let_blk c h2;exact hdB_cons ⟨this.2.2.1,this.2.2.2.1,this.2.2.2.2.1,this.2.1⟩
theorem digits_hd : ∀ (u : Nat),∃ c t,Lib.decDigits u = c :: t ∧ (t = [] ∨ c ≠ 48) ∧ (u ≠ 0 → c ≠ 48) := by
 intro u
 induction u using Nat.strongRecOn with
 | _ u ih =>
  by_cases h : u < 10
  ·rw [Lib.decDigits_one h]
   refine ⟨_,[],rfl,.inl rfl,fun hu e => ?_⟩
   have := congrArg UInt8.toNat e
   rw [Plain.digit_nat u h] at this
   have h48 : (48 : UInt8).toNat = 48 := rfl
   omega
  ·rw [Plain.digits_more u h]
   obtain ⟨c,t,e,_,h2⟩ := ih (u / 10) (by omega)
   rw [e]
   exact ⟨c,_,rfl,.inr (h2 (by omega)),fun _ => h2 (by omega)⟩
theorem tok_num {u : Nat} {r : Str} (hr : sepB r) : Tok (3,Lib.decDigits u) r := by
 obtain ⟨c,t,e,h2,_⟩ := digits_hd u
 have hall : (Lib.decDigits u).all digB = true := List.all_eq_true.2 fun d hd => by
  have := Plain.digits_are u d hd
  simp only [digB,Bool.and_eq_true,decide_eq_true_eq];exact this
 have hp : pre digB (Lib.decDigits u ++ r) = (Lib.decDigits u).length := pre_app hall fun d hd => ins_dig d (hr d hd).1
 rw [e] at hall hp ⊢
 rw [List.all_cons,Bool.and_eq_true] at hall
 have hb := dig_blk c hall.1
 refine ⟨by simp,?_,skipS_stop hb.1 (fun e => hb.2.1 e.1),(show (3 : UInt8) ≠ 5 by decide)⟩
 show readK ((c :: t) ++ r) = (3,(c :: t).length)
 unfold readK
 simp only
 rw [show ((c :: t) ++ r).headD 0 = c from rfl,hb.2.2.2.2.2,if_neg (by decide),hall.1,if_pos rfl,hp]
 refine if_pos ?_
 rcases h2 with rfl | h2
 ·exact .inl Z
 ·exact .inr h2
theorem num_hd {u : Nat} {r : Str} : hdB (Lib.decDigits u ++ r) := by
 obtain ⟨c,t,e,_⟩ := digits_hd u
 have := Plain.digits_are u c (by rw [e];simp)
 have hd : digB c = true := by simp only [digB,Bool.and_eq_true,decide_eq_true_eq];exact this
 have hb := dig_blk c hd
 rw [e]
 exact hdB_cons ⟨hb.2.2.1,hb.2.2.2.1,hb.2.2.2.2.1,hb.2.1⟩
def sym1 : Str := [123,125,40,41,91,93,44,59,58,46,61,60,62,43,45,42,47,37]
theorem tok_sym {c : UInt8} {r : Str} (hc : c ∈ sym1) (hr : hdB r) : Tok (4,[c]) r := by
 have hx : ∀ d,r.head? = some d → d ≠ 46 ∧ d ≠ 61 ∧ d ≠ 62 ∧ d ≠ 47 := hr
 refine ⟨by simp,?_,?_,(show (4 : UInt8) ≠ 5 by decide)⟩
 ·show readK (c :: r) = (4,1)
  have hl : letB c = false ∧ digB c = false := by revert c;decide
  have hf : symbols.find? (fun x => x.isPrefixOf (c :: r)) = some [c] := by
   cases r with
   | nil => revert c;decide
   | cons d t =>
    obtain ⟨e1,e2,e3,e4⟩ := hx d rfl
    have b1 : ((46 : UInt8) == d) = false := beq_false_of_ne (Ne.symm e1)
    have b2 : ((61 : UInt8) == d) = false := beq_false_of_ne (Ne.symm e2)
    have b3 : ((62 : UInt8) == d) = false := beq_false_of_ne (Ne.symm e3)
    simp only [sym1,List.mem_cons,List.not_mem_nil,or_false] at hc
    rcases hc with rfl | rfl | rfl | rfl | rfl | rfl | rfl | rfl | rfl | rfl | rfl | rfl | rfl | rfl | rfl | rfl | rfl | rfl <;>
     simp [symbols,List.find?,List.isPrefixOf,b1,b2,b3]
  unfold readK
  simp only [List.headD_cons,hl.1,hl.2,hf,Bool.false_eq_true,if_false,List.length_singleton]
 ·refine skipS_stop (by revert c;decide) ?_
  rintro ⟨_,h⟩
  exact (hx 47 h).2.2.2 rfl
def sym2 : List Str := [[61,61],[33,61],[60,61],[62,61],[45,62]]
theorem tok_two {w : Str} {r : Str} (hw : w ∈ sym2) : Tok (4,w) r := by
 simp only [sym2,List.mem_cons,List.not_mem_nil,or_false] at hw
 rcases hw with rfl | rfl | rfl | rfl | rfl <;> refine ⟨by simp,?_,?_,(show (4 : UInt8) ≠ 5 by decide)⟩ <;> simp [readK,letB,digB,symbols,List.find?,List.isPrefixOf,skipS,blkB]
theorem sp_sep {r : Str} : sepB (32 :: r) := sepB_cons (by decide)
theorem cl_sep {r : Str} : sepB (41 :: r) := sepB_cons (by decide)
theorem br_sep {r : Str} : sepB (91 :: r) := sepB_cons (by decide)
theorem bk_sep {r : Str} : sepB (93 :: r) := sepB_cons (by decide)
theorem Lx.sp {r : Str} {k : List Kt} (h : Lx r k) : Lx (32 :: r) k := .blk (by decide) h
theorem Lx.sy {c : UInt8} {r : Str} {k : List Kt} (hc : c ∈ sym1) (hr : hdB r) (h : Lx r k) : Lx (c :: r) ((4,[c]) :: k) := .tok (x := (4,[c])) (tok_sym hc hr) h
theorem Lx.kw {w r : Str} {k : List Kt} (hw : w ∈ words) (hr : sepB r) (h : Lx r k) : Lx (w ++ r) ((2,w) :: k) := .tok (x := (2,w)) (tok_kw hw hr) h
theorem Lx.nm {w r : Str} {k : List Kt} (hw : nameB w = true) (hr : sepB r) (h : Lx r k) : Lx (w ++ r) ((1,w) :: k) := .tok (x := (1,w)) (tok_name hw hr) h
theorem Lx.nu {u : Nat} {r : Str} {k : List Kt} (hr : sepB r) (h : Lx r k) : Lx (Lib.decDigits u ++ r) ((3,Lib.decDigits u) :: k) := .tok (x := (3,Lib.decDigits u)) (tok_num hr) h
def LxE (e : Ex) : Prop := ∀ r ks,sepB r → Lx r ks → Lx (e.text ++ r) (ktE e ++ ks) ∧ hdB (e.text ++ r)
theorem LxE.opnd {e : Ex} (h : LxE e) (n : Nat) {r : Str} {ks : List Kt} (hr : sepB r) (hk : Lx r ks) : Lx (opT n (e.lv,e.text) ++ r) (parK n e.lv (ktE e) ++ ks) ∧ hdB (opT n (e.lv,e.text) ++ r) := by
 unfold opT parK
 simp only
 split
 ·simp only [List.cons_append,List.nil_append,List.append_assoc]
  obtain ⟨h1,h2⟩ := h (41 :: r) ((4,[41]) :: ks) cl_sep (.sy (by decide) hr.hd hk)
  exact ⟨.sy (by decide) h2 h1,hdB_cons (by decide)⟩
 ·exact h r ks hr hk
theorem bin_tx : ∀ op ∈ ([11,12,13,14,15,16,17,18,19,20,21,22,23] : List UInt8),(shapeOf op).tx = 32 :: ((symK op).2 ++ [32]) ∧ (((symK op).1 = 2 ∧ (symK op).2 ∈ words) ∨ ((symK op).1 = 4 ∧ ((symK op).2 ∈ sym2 ∨ ∃ c ∈ sym1,(symK op).2 = [c]))) := by decide +kernel
theorem Lx.bin {op : UInt8} (h : op ∈ ([11,12,13,14,15,16,17,18,19,20,21,22,23] : List UInt8)) {r : Str} {k : List Kt} (hk : Lx r k) : Lx ((shapeOf op).tx ++ r) (symK op :: k) := by
 obtain ⟨h1,h2⟩ := bin_tx op h
 rw [h1]
 simp only [List.cons_append,List.append_assoc,List.nil_append]
 refine .sp ?_
 have hs := hk.sp
 refine .tok (x := symK op) ?_ hs
 generalize symK op = x at h2
 obtain ⟨k,w⟩ := x
 rcases h2 with ⟨e,hw⟩ | ⟨e,hw | ⟨c,hc,hw⟩⟩
 ·obtain rfl : k = 2 := e
  exact tok_kw hw sp_sep
 ·obtain rfl : k = 4 := e
  exact tok_two hw
 ·obtain rfl : k = 4 := e
  obtain rfl : w = [c] := hw
  exact tok_sym hc sp_sep.hd
theorem lx_all (e : Ex) : Ex.all frmE e = true → Ex.all namE e = true → LxE e := by
 induction e using Ex.ind with
 | _ op nm n args ih =>
  intro h hq
  rw [all_mk,Bool.and_eq_true] at h hq
  obtain ⟨hf,hr⟩ := h
  obtain ⟨hg,hq⟩ := hq
  have ha : ∀ a ∈ args,LxE a := fun a m => ih a m (alls_mem m hr) (alls_mem m hq)
  simp only [frmE,Bool.and_eq_true,Bool.or_eq_true,decide_eq_true_eq] at hf
  simp only [namE,Bool.or_eq_true,Bool.not_eq_true'] at hg
  obtain ⟨⟨⟨hop,hl⟩,hnm⟩,hn⟩ := hf
  have hm := ok_cases hop
  intro r ks hs hk
  by_cases h1 : op = 1
  ·subst h1
   rw [if_pos rfl,decide_eq_true_eq] at hn
   have e1 : Ex.text (.mk 1 nm n args) = Lib.decDigits n.toInt.toNat := by
    rw [Ex.text,txt,if_pos rfl,Lib.itoa,if_neg (by omega)]
   have e2 : ktE (.mk 1 nm n args) = [(3,Lib.decDigits n.toInt.toNat)] := by
    rw [ktE,ktx,if_pos rfl,Lib.itoa,if_neg (by omega)]
   rw [e1,e2]
   exact ⟨.nu hs hk,num_hd⟩
  rw [if_neg h1,decide_eq_true_eq] at hn
  obtain rfl := i64_zero hn
  by_cases hb : op ∈ ([11,12,13,14,15,16,17,18,19,20,21,22,23] : List UInt8)
  ·obtain ⟨b1,_,_,_,_,_,_,g1,g2,g3,g4,g5,g6,g7⟩ := bin_facts op hb
   obtain ⟨a,b,rfl⟩ := args2 (l := args) (by omega)
   have e1 : Ex.text (.mk op nm 0 [a,b]) = opT (lftT (shapeOf op).lv) (a.lv,a.text) ++ (shapeOf op).tx ++ opT ((shapeOf op).lv + 1) (b.lv,b.text) := by
    rw [Ex.text,txt,if_neg g1,if_neg (by simp [g2,g3]),if_neg (by simp [g4,g5]),if_neg (by simp [g6,g7]),if_neg (by omega)]
    rfl
   rw [e1,ktE_bin hb]
   simp only [List.append_assoc,List.cons_append]
   obtain ⟨k1,_⟩ := (ha b (by simp)).opnd ((shapeOf op).lv + 1) hs hk
   have k2 := Lx.bin hb k1
   refine (ha a (by simp)).opnd (lftT (shapeOf op).lv) ?_ k2
   rw [(bin_tx op hb).1]
   exact sp_sep
  have hs9 : op = 2 ∨ op = 3 ∨ op = 4 ∨ op = 5 ∨ op = 6 ∨ op = 7 ∨ op = 8 ∨ op = 9 ∨ op = 10 := ((ok_split hop).resolve_left h1).resolve_left hb
  have key : ∀ a,LxE a → Lx (91 :: (a.text ++ 93 :: r)) ((4,[91]) :: (ktE a ++ (4,[93]) :: ks)) := by
   intro a hA
   obtain ⟨k1,k2⟩ := hA (93 :: r) ((4,[93]) :: ks) bk_sep (.sy (by decide) hs.hd hk)
   exact .sy (by decide) k2 k1
  have hn5 : (shapeOf op).nm = true → nameB nm = true := fun e => hg.resolve_left (by rw [e];decide)
  rcases hs9 with rfl | rfl | rfl | rfl | rfl | rfl | rfl | rfl | rfl
  ·exact ⟨Lx.kw (w := [116,114,117,101]) (by decide) hs hk,kw_hd (w := [116,114,117,101]) (by decide)⟩
  ·exact ⟨Lx.kw (w := [102,97,108,115,101]) (by decide) hs hk,kw_hd (w := [102,97,108,115,101]) (by decide)⟩
  ·exact ⟨Lx.kw (w := [110,111,119]) (by decide) hs hk,kw_hd (w := [110,111,119]) (by decide)⟩
  ·exact ⟨Lx.nm (hn5 rfl) hs hk,name_hd (hn5 rfl)⟩
  ·obtain ⟨a,rfl⟩ := args1 hl
   have e1 : Ex.text (.mk 6 nm 0 [a]) ++ r = nm ++ 91 :: (a.text ++ 93 :: r) := by rw [text_mk];simp [txt,shapeOf,okOp,shapes]
   have e2 : ktE (.mk 6 nm 0 [a]) ++ ks = (1,nm) :: (4,[91]) :: (ktE a ++ (4,[93]) :: ks) := by
    rw [show ktE (.mk 6 nm 0 [a]) = (1,nm) :: (4,[91]) :: (ktE a ++ [(4,[93])]) from rfl];simp
   rw [e1,e2]
   exact ⟨.nm (hn5 rfl) br_sep (key a (ha a (by simp))),name_hd (hn5 rfl)⟩
  ·obtain ⟨a,rfl⟩ := args1 hl
   have e1 : Ex.text (.mk 7 nm 0 [a]) ++ r = [104,97,115] ++ 32 :: (nm ++ 91 :: (a.text ++ 93 :: r)) := by rw [text_mk];simp [txt,shapeOf,okOp,shapes]
   have e2 : ktE (.mk 7 nm 0 [a]) ++ ks = (2,[104,97,115]) :: (1,nm) :: (4,[91]) :: (ktE a ++ (4,[93]) :: ks) := by
    rw [show ktE (.mk 7 nm 0 [a]) = (2,[104,97,115]) :: (1,nm) :: (4,[91]) :: (ktE a ++ [(4,[93])]) from rfl];simp
   rw [e1,e2]
   exact ⟨.kw (by decide) sp_sep (.sp (.nm (hn5 rfl) br_sep (key a (ha a (by simp))))),kw_hd (by decide)⟩
  ·obtain rfl := args0 hl
   have e1 : Ex.text (.mk 8 nm 0 []) ++ r = [115,105,122,101] ++ 32 :: (nm ++ r) := by rw [text_mk];simp [txt,shapeOf,okOp,shapes]
   rw [e1]
   exact ⟨.kw (by decide) sp_sep (.sp (.nm (hn5 rfl) hs hk)),kw_hd (by decide)⟩
  ·obtain ⟨a,rfl⟩ := args1 hl
   obtain ⟨k1,k2⟩ := (ha a (by simp)).opnd 6 hs hk
   have e1 : Ex.text (.mk 9 nm 0 [a]) ++ r = 45 :: (opT 6 (a.lv,a.text) ++ r) := by rw [text_mk];rfl
   rw [e1]
   exact ⟨.sy (by decide) k2 k1,hdB_cons (by decide)⟩
  ·obtain ⟨a,rfl⟩ := args1 hl
   obtain ⟨k1,k2⟩ := (ha a (by simp)).opnd 6 hs hk
   have e1 : Ex.text (.mk 10 nm 0 [a]) ++ r = [110,111,116] ++ 32 :: (opT 6 (a.lv,a.text) ++ r) := by rw [text_mk];rfl
   rw [e1]
   exact ⟨.kw (by decide) sp_sep (.sp k1),kw_hd (by decide)⟩
theorem Lx.nl {r : Str} {k : List Kt} (h : Lx r k) : Lx (10 :: r) k := .blk (by decide) h
theorem Lx.spT {r : Str} {k : List Kt} : ∀ (n : Nat),Lx r k → Lx (spT n ++ r) k
 | 0,h => h
 | n + 1,h => by
  rw [Go.Proofs.YthhoebdlfjffkaaGreatDoor.spT,List.append_assoc]
  exact Lx.spT n (.sp (.sp h))
theorem Lx.line {n : Nat} {parts : List Str} {r : Str} {k : List Kt} (h : Lx (parts.flatten ++ 10 :: r) k) : Lx (lineT n parts ++ r) k := by
 unfold lineT
 rw [List.append_assoc,List.append_assoc]
 exact .spT n h
theorem tok_name2 {w r : Str} (hw : nameB w = true) (hr : ∀ d,r.head? = some d → insB d = false) : Tok (1,w) r := by
 obtain ⟨h1,h2,h3,h4,h5⟩ := nameB_facts hw
 match w,h1 with
 | c :: t,h1 =>
  have hlb := let_blk c h2
  have hp : pre insB ((c :: t) ++ r) = (c :: t).length := pre_app h3 hr
  refine ⟨h1,?_,skipS_stop hlb.1 (fun e => hlb.2.1 e.1),(show (1 : UInt8) ≠ 5 by decide)⟩
  show readK ((c :: t) ++ r) = (1,(c :: t).length)
  unfold readK
  simp only
  rw [show ((c :: t) ++ r).headD 0 = c from rfl,show letB c = true from h2,if_pos rfl,hp,List.take_left,h4,if_neg (by decide),if_pos h5]
theorem Lx.nm2 {w r : Str} {k : List Kt} (hw : nameB w = true) (hr : ∀ d,r.head? = some d → insB d = false) (h : Lx r k) : Lx (w ++ r) ((1,w) :: k) := .tok (x := (1,w)) (tok_name2 hw hr) h
def LxI (t : Str) (k : List Kt) : Prop := ∀ r ks,sepB r → Lx r ks → Lx (t ++ r) (k ++ ks) ∧ hdB (t ++ r)
theorem LxI.one {t r : Str} {k ks : List Kt} (h : LxI t k) (hr : sepB r) (l : Lx r ks) : Lx (t ++ r) (k ++ ks) := (h r ks hr l).1
theorem LxI.nm {w : Str} (h : nameB w = true) : LxI w [(1,w)] := fun r ks hr l => ⟨.nm h hr l,name_hd h⟩
theorem LxI.ex {e : Ex} (h : Ex.all frmE e = true) (hq : Ex.all namE e = true) : LxI e.text (ktE e) := lx_all e h hq
theorem lx_tail {α : Type} {tx : α → Str} {g : α → List Kt} : ∀ (l : List α) (r : Str) (ks : List Kt),(∀ a ∈ l,LxI (tx a) (g a)) → sepB r → Lx r ks → Lx (Lib.joinTail [44,32] (l.map tx) ++ r) (comK (l.map g) ++ ks) ∧ sepB (Lib.joinTail [44,32] (l.map tx) ++ r)
 | [],r,ks,_,hr,h => ⟨h,hr⟩
 | a :: l,r,ks,hl,hr,h => by
  obtain ⟨h1,h2⟩ := lx_tail l r ks (fun b hb => hl b (List.mem_cons_of_mem _ hb)) hr h
  have h3 := hl a (List.mem_cons_self ..) _ _ h2 h1
  unfold Lib.joinTail comK at *
  simp only [List.map_cons,List.flatten_cons,List.cons_append,List.append_assoc,List.nil_append]
  exact ⟨.sy (by decide) (hdB_cons (by decide)) (.sp h3.1),sepB_cons (by decide)⟩
theorem lx_list {α : Type} {tx : α → Str} {g : α → List Kt} {l : List α} (hl : ∀ a ∈ l,LxI (tx a) (g a)) {r : Str} {ks : List Kt} (hr : hdB r) (h : Lx r ks) : Lx (40 :: (joinT (l.map tx) ++ 41 :: r)) (lstK (l.map g) ++ ks) := by
 have h0 : Lx (41 :: r) ((4,[41]) :: ks) := .sy (by decide) hr h
 unfold lstK joinT
 cases l with
 | nil => exact .sy (by decide) (hdB_cons (by decide)) h0
 | cons a l =>
  simp only [List.map_cons,Lib.join_cons,sepK,List.cons_append,List.append_assoc,List.nil_append]
  obtain ⟨h1,h2⟩ := lx_tail l (41 :: r) _ (fun b hb => hl b (List.mem_cons_of_mem _ hb)) cl_sep h0
  obtain ⟨h3,h4⟩ := hl a (List.mem_cons_self ..) _ _ h2 h1
  exact .sy (by decide) h4 h3
def LxS (s : Sm) : Prop := ∀ n r ks,Lx r ks → Lx (Sm.text n s ++ r) (ktS s ++ ks)
def LxB (l : List Sm) : Prop := ∀ n r ks,Lx r ks → Lx (Sm.texts n l ++ r) (ktSs l ++ ks)
theorem LxB.of : ∀ {l : List Sm},(∀ s ∈ l,LxS s) → LxB l
 | [],_ => fun n r ks h => by rw [Sm.texts,ktSs];exact h
 | s :: l,hs => fun n r ks h => by
  rw [Sm.texts,ktSs,List.append_assoc,List.append_assoc]
  exact hs s (List.mem_cons_self ..) n _ _ (LxB.of (fun a ha => hs a (List.mem_cons_of_mem _ ha)) n r ks h)
theorem lx_kw {w r : Str} {k : List Kt} (hw : w ∈ words) (h : Lx r k) : Lx (w ++ 32 :: r) ((2,w) :: k) := .kw hw sp_sep (.sp h)
theorem lx_end {n : Nat} {r : Str} {ks : List Kt} (h : Lx r ks) : Lx (lineT n [[125]] ++ r) ((4,[125]) :: ks) := .line (.sy (by decide) (hdB_cons (by decide)) (.nl h))
theorem lx_oth {el : List Sm} (hb : LxB el) {n : Nat} {first : Str} {k : List Kt} (hf : LxI first k) {r : Str} {ks : List Kt} (h : Lx r ks) :
 Lx (diskT n first (decide (el.length = 0)) (Sm.texts (n + 1) el) ++ r) (k ++ ((if decide (el.length = 0) = true then [(4,[59])] else (2,[101,108,115,101]) :: (4,[123]) :: (ktSs el ++ [(4,[125])])) ++ ks)) := by
 unfold diskT
 split
 ·refine .line ?_
  simp only [List.flatten_cons,List.flatten_nil,List.append_nil,List.append_assoc,List.cons_append,List.nil_append]
  exact hf.one (sepB_cons (by decide)) (.sy (by decide) (hdB_cons (by decide)) (.nl h))
 ·simp only [List.append_assoc]
  refine .line ?_
  simp only [List.flatten_cons,List.flatten_nil,List.append_nil,List.append_assoc,List.cons_append,List.nil_append]
  exact hf.one sp_sep (.sp (lx_kw (w := [101,108,115,101]) (by decide) (.sy (by decide) (hdB_cons (by decide)) (.nl (hb _ _ _ (lx_end h))))))
theorem LxI.app {t t2 : Str} {k k2 : List Kt} (h : LxI t k) (h2 : ∀ r ks,sepB r → Lx r ks → Lx (t2 ++ r) (k2 ++ ks) ∧ sepB (t2 ++ r)) : LxI (t ++ t2) (k ++ k2) := fun r ks hr l => by
 rw [List.append_assoc,List.append_assoc]
 obtain ⟨h3,h4⟩ := h2 r ks hr l
 exact h _ _ h4 h3
theorem LxI.kw {w : Str} (hw : w ∈ words) {t : Str} {k : List Kt} (h : LxI t k) : LxI (w ++ 32 :: t) ((2,w) :: k) := fun r ks hr l => by
 rw [List.append_assoc]
 exact ⟨lx_kw hw (h r ks hr l).1,kw_hd hw⟩
theorem LxI.eq {t t2 : Str} {k k2 : List Kt} (h : LxI t k) (h2 : LxI t2 k2) : LxI (t ++ ([32,32,61,32].drop 1 ++ t2)) (k ++ (4,[61]) :: k2) := h.app fun r ks hr l =>
 ⟨.sp (.sy (by decide) (hdB_cons (by decide)) (.sp (h2.one hr l))),sp_sep⟩
theorem lxS_of {s : Sm} (h : FmS s) (hn : namS s = true) (hb : ∀ nm hd kd ex th el,s = .mk kd nm hd ex th el → LxB th ∧ LxB el) : LxS s := by
 intro n r ks hk
 cases h with
 | @k1 nm a ha =>
  simp only [namS,Bool.and_eq_true] at hn
  have h1 : nameB nm = true := by simpa [formOf,okKd,forms] using hn.1.1
  have h2 := LxI.ex ha (alls_mem (List.mem_cons_self ..) hn.2)
  refine .line ?_
  rw [ktS_mk]
  simp [stK]
  exact .nm h1 sp_sep<|.sp<|.sy (by decide) (hdB_cons (by decide))<|.sp<|h2.one (sepB_cons (by decide))<|.sy (by decide) (hdB_cons (by decide)) (.nl hk)
 | @k2 nm a b ha hb2 =>
  simp only [namS,Bool.and_eq_true] at hn
  have h1 : nameB nm = true := by simpa [formOf,okKd,forms] using hn.1.1
  have h2 := LxI.ex ha (alls_mem (by simp) hn.2)
  have h3 := LxI.ex hb2 (alls_mem (by simp) hn.2)
  refine .line ?_
  rw [ktS_mk]
  simp [stK]
  have h4 := h3.one (sepB_cons (by decide))<|Lx.sy (c := 59) (by decide) (hdB_cons (by decide)) (.nl hk)
  obtain ⟨h5,h6⟩ := h2 _ _ bk_sep<|Lx.sy (c := 93) (by decide) (hdB_cons (by decide))<|.sp<|.sy (c := 61) (by decide) (hdB_cons (by decide))<|.sp h4
  exact .nm h1 br_sep<|.sy (by decide) h6 h5
 | @k3 nm a ha =>
  simp only [namS,Bool.and_eq_true] at hn
  have h1 : nameB nm = true := by simpa [formOf,okKd,forms] using hn.1.1
  have h2 := LxI.ex ha (alls_mem (by simp) hn.2)
  refine .line ?_
  rw [ktS_mk]
  simp [stK]
  obtain ⟨h5,h6⟩ := h2 _ _ bk_sep<|Lx.sy (c := 93) (by decide) (hdB_cons (by decide))<|.sy (c := 59) (by decide) (hdB_cons (by decide)) (.nl hk)
  exact lx_kw (w := [100,101,108,101,116,101]) (by decide)<|.nm h1 br_sep<|.sy (by decide) h6 h5
 | @k4 a th el ha =>
  obtain ⟨b1,b2⟩ := hb _ _ _ _ _ _ rfl
  simp only [namS,Bool.and_eq_true] at hn
  have h2 := LxI.ex ha (alls_mem (by simp) hn.2)
  rw [stext_mk,ktS_mk]
  by_cases he : el.length = 0
  ·simp [stT,stK,he]
   refine .line ?_
   simp
   exact lx_kw (w := [105,102]) (by decide)<|h2.one sp_sep<|.sp<|.sy (by decide) (hdB_cons (by decide))<|.nl<|b1 _ _ _<|lx_end hk
  ·have he2 : ¬ el = [] := fun e => he (by rw [e];rfl)
   simp [stT,stK,he2]
   refine .line ?_
   simp
   exact lx_kw (w := [105,102]) (by decide)<|h2.one sp_sep<|.sp<|.sy (by decide) (hdB_cons (by decide))<|.nl<|b1 _ _ _<|.line<|.sy (by decide) (hdB_cons (by decide))<|.sp<|lx_kw (w := [101,108,115,101]) (by decide)<|.sy (by decide) (hdB_cons (by decide))<|.nl<|b2 _ _ _<|lx_end hk
 | @k5 a th ha =>
  obtain ⟨b1,b2⟩ := hb _ _ _ _ _ _ rfl
  simp only [namS,Bool.and_eq_true] at hn
  have h2 := LxI.ex ha (alls_mem (by simp) hn.2)
  rw [stext_mk,ktS_mk]
  simp [stT,stK]
  refine .line ?_
  simp
  exact lx_kw (w := [119,104,105,108,101]) (by decide)<|h2.one sp_sep<|.sp<|.sy (by decide) (hdB_cons (by decide))<|.nl<|b1 _ _ _<|lx_end hk
 | @k6 nm hd l hl =>
  simp only [namS,Bool.and_eq_true] at hn
  have h1 : nameB nm = true := by simpa [formOf,okKd,forms] using hn.1.1
  have h2 : nameB hd = true := by simpa [formOf,okKd,forms] using hn.1.2
  refine .line ?_
  rw [ktS_mk]
  simp [stK]
  exact lx_kw (w := [115,101,110,100]) (by decide)<|.nm2 h1 (fun d e => by cases e;rfl)<|.sy (by decide) (name_hd h2)<|.nm h2 (sepB_cons (by decide))<|lx_list (fun a ha => .ex (hl a ha) (alls_mem ha hn.2)) (hdB_cons (by decide))<|.sy (by decide) (hdB_cons (by decide)) (.nl hk)
 | @k7 hd a l ha hl =>
  simp only [namS,Bool.and_eq_true] at hn
  have h2 : nameB hd = true := by simpa [formOf,okKd,forms] using hn.1.2
  have h3 := LxI.ex ha (alls_mem (by simp) hn.2)
  refine .line ?_
  rw [ktS_mk]
  simp [stK]
  exact lx_kw (w := [97,102,116,101,114]) (by decide)<|h3.one sp_sep<|.sp<|lx_kw (w := [100,111]) (by decide)<|.nm h2 (sepB_cons (by decide))<|lx_list (fun b hb => .ex (hl b hb) (alls_mem (by simp [hb]) hn.2)) (hdB_cons (by decide))<|.sy (by decide) (hdB_cons (by decide)) (.nl hk)
 | @k8 a b el ha hb2 =>
  obtain ⟨_,b2⟩ := hb _ _ _ _ _ _ rfl
  simp only [namS,Bool.and_eq_true] at hn
  have h2 := LxI.ex ha (alls_mem (by simp) hn.2)
  have h3 := LxI.ex hb2 (alls_mem (by simp) hn.2)
  have h4 := lx_oth b2 (n := n) (LxI.kw (w := [115,116,111,114,101]) (by decide) (h2.eq h3)) hk
  rw [stext_mk,ktS_mk]
  simp [stT,stK] at h4 ⊢
  exact h4
 | @k9 nm a el ha =>
  obtain ⟨_,b2⟩ := hb _ _ _ _ _ _ rfl
  simp only [namS,Bool.and_eq_true] at hn
  have h1 : nameB nm = true := by simpa [formOf,okKd,forms] using hn.1.1
  have h2 := LxI.ex ha (alls_mem (by simp) hn.2)
  have h4 := lx_oth b2 (n := n) (LxI.kw (w := [102,101,116,99,104]) (by decide) ((LxI.nm h1).eq h2)) hk
  rw [stext_mk,ktS_mk]
  simp [stT,stK] at h4 ⊢
  exact h4
 | k10 =>
  refine .line ?_
  rw [ktS_mk]
  simp [stK]
  exact .kw (w := [115,116,111,112]) (by decide) (sepB_cons (by decide))<|.sy (by decide) (hdB_cons (by decide)) (.nl hk)
theorem lxS_all (s : Sm) : Sm.all frmS s = true → Sm.all namS s = true → LxS s := by
 induction s using Sm.ind with
 | _ kd nm hd ex th el ih1 ih2 =>
  intro h k
  rw [sall_mk,Bool.and_eq_true,Bool.and_eq_true] at h k
  obtain ⟨⟨h1,h2⟩,h3⟩ := h
  obtain ⟨⟨k1,k2⟩,k3⟩ := k
  refine lxS_of (frmS_form h1) k1 fun nm' hd' kd' ex' th' el' e => ?_
  injection e with _ _ _ _ e1 e2
  subst e1 e2
  exact ⟨.of fun s hs => ih1 s hs (salls_mem hs h2) (salls_mem hs k2),.of fun s hs => ih2 s hs (salls_mem hs h3) (salls_mem hs k3)⟩
theorem LxB.all {l : List Sm} (h : Sm.alls frmS l = true) (k : Sm.alls namS l = true) : LxB l := .of fun s hs => lxS_all s (salls_mem hs h) (salls_mem hs k)
/-! ### Fleets -/
end Go.Proofs.YthhoebdlfjffkaaGreatDoor
namespace Go.Proofs.YthhoebdlfjffkaaGreatDoor
open Go.RowKit Go.Par Go.Sx
structure Mk where
 ints : Nat
 tables : Nat
 flags : Nat
 own : Nat
 ars : List (List Nat)
 params : Nat
def arN (M : Mk) (c h : Nat) : Nat := (M.ars.getD c []).getD h 0
def arL (M : Mk) (c : Nat) : Nat := (M.ars.getD c []).length
def Mk.at (M : Mk) (k : Nat) : Mk := { M with params := arN M M.own k }
section
variable {H : Hp}
end
theorem Fx.agg25 : aggN Tryz.prog 25 = Option.some Option.none := by kernel_rfl
theorem Fx.agg27 : aggN Tryz.prog 27 = Option.some (Option.some 4) := by kernel_rfl
theorem Fx.call29 : callN Tryz.prog 29 = Bool.true := by kernel_rfl
theorem Fx.field27_3 : fieldN Tryz.prog 27 3 = Option.some 3 := by kernel_rfl
theorem Fx.sl25 : slN Tryz.prog 25 = Option.some 4 := by kernel_rfl
set_option maxRecDepth 100000 in
theorem exprDepth_any (e : Ex) : ∀ (H : Hp) (cs : List Value) (w : World),Rep H (dEx .u8 e) cs → e.depth ≤ 1000000 → Agr H w →
 Calls Tryz.prog 29 #[.agg cs.toArray] w fun r w' => r = .returned (.int .i64 (e.depth : Nat)) ∧ Ext w w' := by
 induction e using Ex.ind with | _ op nm nn args ih
 intro H cs w h he hA
 rw [depth_mk] at he
 obtain ⟨p,c,rfl,hs,hnm⟩ := ex_open h
 have hcap := hs.cap
 refine Sx.enter (H := H) Tryz.func29 rfl Tryz.ntmps29 rfl hA ?_
 refine .sr<|.bx Z Z Z fun b1 => .a Z Z<|.ns<|.a Z Z<|.nt<|.sq<|.sr<|.yv (.fieldAddr Z Fx.field27_3) Z<|.yv (.load Z Fx.agg25 (.head _) Z) Z<|.yv (.lenSl Fx.sl25 Z) Z<|.m Z Z<|.nt<|.bk<|.lp (X := Nat) [(1,_),(7,_)] ⟨rfl,rfl,trivial⟩ [_] (fun k => [(3,.int .i64 (Ex.deeps (args.take k) : Nat)),(8,.int .i64 (k : Nat))]) (fun k => H) (fun k => []) (fun k => k ≤ args.length) (fun k => args.length - k) 0 (fun _ s => s) ⟨rfl,rfl,trivial⟩ (by omega) fun k hC => ?_
 refine .sr<|.yv (.lss Z Z) Z<|.nt<|.sq<|.cd Z (fun h9 => ?_) (fun h9 => ?_)
 ·try simp only [dt] at h9
  have hk : k < args.length := by omega
  obtain ⟨b5,o5,c5,hp5,r5,l5,m5⟩ := hs.elem (map_at hk)
  cases hp5
  have h1 := deeps_take args k
  have h2 := deeps_at hk
  have h3 := deeps_succ hk
  exact .sk<|.tN<|.sq<|.bk<|.sr<|.m Z Z<|.a Z Z<|.nt<|.rg<|.m Z Z<|.yv (.fieldAddr Z Fx.field27_3) Z<|.yv (.load Z Fx.agg25 (.head _) Z) Z<|.m Z Z<|.yv (.indexSl Fx.sl25 Z Z Z (by omega) (q := o5 + k * 4) Z) Z<|.yv (.loadMW Z Fx.agg27 m5 l5) Z<|.yv (.call Fx.call29 Z (fun W s => ih _ (List.getElem_mem hk) H c5 W r5 (by omega) s.agr)) Z<|.yv (.max2 Z Z (c := ((Ex.deeps (args.take (k + 1)) : Nat) : Int)) (by omega)) Z<|.a Z Z<|.nl<|.bN<|.tN<|.rg<|.yv (.add Z Z (w6 (by omega))) Z<|.m Z Z<|.nt<|.ag (k + 1) ⟨rfl,rfl,trivial⟩ ⟨rfl,rfl,trivial⟩ (fun _ s => s) (by omega) (by omega)
 try simp only [df] at h9
 obtain rfl : k = args.length := by omega
 rw [List.take_length]
 refine .ex<|.tE<|.tE<|.bE<|.tN<|.sr<|.m Z Z<|.yv (.add Z Z (w6 (by omega))) Z<|.a Z Z<|.nt<|.rt<|?_
 exact Sx.ret1 (.inl rfl) rfl (.tmp rfl) fun W s => ⟨by rw [depth_mk];rfl,s.ext⟩
theorem Fx.agg242 : aggN Tryz.prog 242 = Option.some (Option.some 39) := by kernel_rfl
theorem Fx.are242 : arrE Tryz.prog 242 = Bool.true := by kernel_rfl
theorem Fx.arr242 : arrN Tryz.prog 242 = Option.some (39,1) := by kernel_rfl
theorem Fx.call114 : callN Tryz.prog 114 = Bool.true := by kernel_rfl
theorem Fx.call117 : callN Tryz.prog 117 = Bool.true := by kernel_rfl
theorem Fx.call145 : callN Tryz.prog 145 = Bool.true := by kernel_rfl
theorem Fx.str9 : isStr Tryz.prog 9 = Bool.true := by kernel_rfl
set_option maxRecDepth 100000 in
theorem letter_any (c : UInt8) (w : World) : Calls Tryz.prog 114 #[byteV c] w fun r w' => r = .returned (.bool (letB c)) ∧ Ext w w' := by
 refine Sx.enter (H := (fun _ => none)) Tryz.func114 rfl Tryz.ntmps114 rfl (fun _ _ e => by cases e) ?_
 refine .sr<|.a Z Z<|.ns<|.m Z Z<|.yv (.geq Z Z) Z<|.m Z Z<|.b2 (fun h5 => ?_) (fun h5 => ?_)
 ·try simp only [dt] at h5
  refine .gd Z Z<|.yv (.move Z) Z<|.gd Z Z<|.yv (.leq Z Z) Z<|.yv (.pickT Z Z) Z<|.m Z Z<|.b2 (fun h9 => ?_) (fun h9 => ?_)
  ·try simp only [dt] at h9
   refine .gF Z Z Z Z<|.gF Z Z Z Z<|.gF Z Z Z Z<|.gU Z Z Z<|.gU Z Z Z<|.gF Z Z Z Z<|.yv (.pickT Z Z) Z<|.a Z Z<|.nt<|.rt<|?_
   exact Sx.ret1 (.inl rfl) rfl (.tmp rfl) fun W s => ⟨retB (by simp only [letB,Bool.or_eq_true,Bool.and_eq_true,decide_eq_true_eq,reduceCtorEq,true_iff,false_iff,iff_true,iff_false,beq_iff_eq,Bool.true_eq_false,Bool.false_eq_true];try omega),s.ext⟩
  try simp only [df] at h9
  refine .gd Z Z<|.yv (.move Z) Z<|.gd Z Z<|.yv (.geq Z Z) Z<|.gd Z Z<|.yv (.move Z) Z<|.b2 (fun h12 => ?_) (fun h12 => ?_)
  ·try simp only [dt] at h12
   refine .gd Z Z<|.yv (.move Z) Z<|.gd Z Z<|.yv (.leq Z Z) Z<|.gd Z Z<|.yv (.pickT Z Z) Z<|.yv (.pickF Z Z) Z<|.a Z Z<|.nt<|.rt<|?_
   exact Sx.ret1 (.inl rfl) rfl (.tmp rfl) fun W s => ⟨retB (by simp only [letB,Bool.or_eq_true,Bool.and_eq_true,decide_eq_true_eq,reduceCtorEq,true_iff,false_iff,iff_true,iff_false,beq_iff_eq,Bool.true_eq_false,Bool.false_eq_true];try omega),s.ext⟩
  try simp only [df] at h12
  refine .gF Z Z Z Z<|.gF Z Z Z Z<|.gd Z Z<|.yv (.pickF Z Z) Z<|.yv (.pickF Z Z) Z<|.a Z Z<|.nt<|.rt<|?_
  exact Sx.ret1 (.inl rfl) rfl (.tmp rfl) fun W s => ⟨retB (by simp only [letB,Bool.or_eq_true,Bool.and_eq_true,decide_eq_true_eq,reduceCtorEq,true_iff,false_iff,iff_true,iff_false,beq_iff_eq,Bool.true_eq_false,Bool.false_eq_true];try omega),s.ext⟩
 try simp only [df] at h5
 refine .gF Z Z Z Z<|.gF Z Z Z Z<|.yv (.pickF Z Z) Z<|.m Z Z<|.gd Z Z<|.yv (.move Z) Z<|.gd Z Z<|.yv (.geq Z Z) Z<|.gd Z Z<|.yv (.move Z) Z<|.b2 (fun h12 => ?_) (fun h12 => ?_)
 ·try simp only [dt] at h12
  refine .gd Z Z<|.yv (.move Z) Z<|.gd Z Z<|.yv (.leq Z Z) Z<|.gd Z Z<|.yv (.pickT Z Z) Z<|.yv (.pickF Z Z) Z<|.a Z Z<|.nt<|.rt<|?_
  exact Sx.ret1 (.inl rfl) rfl (.tmp rfl) fun W s => ⟨retB (by simp only [letB,Bool.or_eq_true,Bool.and_eq_true,decide_eq_true_eq,reduceCtorEq,true_iff,false_iff,iff_true,iff_false,beq_iff_eq,Bool.true_eq_false,Bool.false_eq_true];try omega),s.ext⟩
 try simp only [df] at h12
 refine .gF Z Z Z Z<|.gF Z Z Z Z<|.gd Z Z<|.yv (.pickF Z Z) Z<|.yv (.pickF Z Z) Z<|.a Z Z<|.nt<|.rt<|?_
 exact Sx.ret1 (.inl rfl) rfl (.tmp rfl) fun W s => ⟨retB (by simp only [letB,Bool.or_eq_true,Bool.and_eq_true,decide_eq_true_eq,reduceCtorEq,true_iff,false_iff,iff_true,iff_false,beq_iff_eq,Bool.true_eq_false,Bool.false_eq_true];try omega),s.ext⟩
set_option maxRecDepth 100000 in
theorem digit_any (c : UInt8) (w : World) : Calls Tryz.prog 117 #[byteV c] w fun r w' => r = .returned (.bool (digB c)) ∧ Ext w w' := by
 refine Sx.enter (H := (fun _ => none)) Tryz.func117 rfl Tryz.ntmps117 rfl (fun _ _ e => by cases e) ?_
 refine .sr<|.a Z Z<|.ns<|.m Z Z<|.yv (.geq Z Z) Z<|.m Z Z<|.b2 (fun h5 => ?_) (fun h5 => ?_)
 ·try simp only [dt] at h5
  refine .gd Z Z<|.yv (.move Z) Z<|.gd Z Z<|.yv (.leq Z Z) Z<|.yv (.pickT Z Z) Z<|.a Z Z<|.nt<|.rt<|?_
  exact Sx.ret1 (.inl rfl) rfl (.tmp rfl) fun W s => ⟨retB (by simp only [digB,Bool.or_eq_true,Bool.and_eq_true,decide_eq_true_eq,reduceCtorEq,true_iff,false_iff,iff_true,iff_false,beq_iff_eq,Bool.true_eq_false,Bool.false_eq_true];try omega),s.ext⟩
 try simp only [df] at h5
 refine .gF Z Z Z Z<|.gF Z Z Z Z<|.yv (.pickF Z Z) Z<|.a Z Z<|.nt<|.rt<|?_
 exact Sx.ret1 (.inl rfl) rfl (.tmp rfl) fun W s => ⟨retB (by simp only [digB,Bool.or_eq_true,Bool.and_eq_true,decide_eq_true_eq,reduceCtorEq,true_iff,false_iff,iff_true,iff_false,beq_iff_eq,Bool.true_eq_false,Bool.false_eq_true];try omega),s.ext⟩
set_option maxRecDepth 100000 in
theorem rletter_any (c : UInt8) (w : World) : Calls Tryz.prog 131 #[byteV c] w fun r w' => r = .returned (.bool (letB c)) ∧ Ext w w' := by
 refine Sx.enter (H := (fun _ => none)) Tryz.func131 rfl Tryz.ntmps131 rfl (fun _ _ e => by cases e) ?_
 refine .sr<|.a Z Z<|.ns<|.m Z Z<|.yv (.geq Z Z) Z<|.m Z Z<|.b2 (fun h5 => ?_) (fun h5 => ?_)
 ·try simp only [dt] at h5
  refine .gd Z Z<|.yv (.move Z) Z<|.gd Z Z<|.yv (.leq Z Z) Z<|.yv (.pickT Z Z) Z<|.m Z Z<|.b2 (fun h9 => ?_) (fun h9 => ?_)
  ·try simp only [dt] at h9
   refine .gF Z Z Z Z<|.gF Z Z Z Z<|.gF Z Z Z Z<|.gU Z Z Z<|.gU Z Z Z<|.gF Z Z Z Z<|.yv (.pickT Z Z) Z<|.a Z Z<|.nt<|.rt<|?_
   exact Sx.ret1 (.inl rfl) rfl (.tmp rfl) fun W s => ⟨retB (by simp only [letB,Bool.or_eq_true,Bool.and_eq_true,decide_eq_true_eq,reduceCtorEq,true_iff,false_iff,iff_true,iff_false,beq_iff_eq,Bool.true_eq_false,Bool.false_eq_true];try omega),s.ext⟩
  try simp only [df] at h9
  refine .gd Z Z<|.yv (.move Z) Z<|.gd Z Z<|.yv (.geq Z Z) Z<|.gd Z Z<|.yv (.move Z) Z<|.b2 (fun h12 => ?_) (fun h12 => ?_)
  ·try simp only [dt] at h12
   refine .gd Z Z<|.yv (.move Z) Z<|.gd Z Z<|.yv (.leq Z Z) Z<|.gd Z Z<|.yv (.pickT Z Z) Z<|.yv (.pickF Z Z) Z<|.a Z Z<|.nt<|.rt<|?_
   exact Sx.ret1 (.inl rfl) rfl (.tmp rfl) fun W s => ⟨retB (by simp only [letB,Bool.or_eq_true,Bool.and_eq_true,decide_eq_true_eq,reduceCtorEq,true_iff,false_iff,iff_true,iff_false,beq_iff_eq,Bool.true_eq_false,Bool.false_eq_true];try omega),s.ext⟩
  try simp only [df] at h12
  refine .gF Z Z Z Z<|.gF Z Z Z Z<|.gd Z Z<|.yv (.pickF Z Z) Z<|.yv (.pickF Z Z) Z<|.a Z Z<|.nt<|.rt<|?_
  exact Sx.ret1 (.inl rfl) rfl (.tmp rfl) fun W s => ⟨retB (by simp only [letB,Bool.or_eq_true,Bool.and_eq_true,decide_eq_true_eq,reduceCtorEq,true_iff,false_iff,iff_true,iff_false,beq_iff_eq,Bool.true_eq_false,Bool.false_eq_true];try omega),s.ext⟩
 try simp only [df] at h5
 refine .gF Z Z Z Z<|.gF Z Z Z Z<|.yv (.pickF Z Z) Z<|.m Z Z<|.gd Z Z<|.yv (.move Z) Z<|.gd Z Z<|.yv (.geq Z Z) Z<|.gd Z Z<|.yv (.move Z) Z<|.b2 (fun h12 => ?_) (fun h12 => ?_)
 ·try simp only [dt] at h12
  refine .gd Z Z<|.yv (.move Z) Z<|.gd Z Z<|.yv (.leq Z Z) Z<|.gd Z Z<|.yv (.pickT Z Z) Z<|.yv (.pickF Z Z) Z<|.a Z Z<|.nt<|.rt<|?_
  exact Sx.ret1 (.inl rfl) rfl (.tmp rfl) fun W s => ⟨retB (by simp only [letB,Bool.or_eq_true,Bool.and_eq_true,decide_eq_true_eq,reduceCtorEq,true_iff,false_iff,iff_true,iff_false,beq_iff_eq,Bool.true_eq_false,Bool.false_eq_true];try omega),s.ext⟩
 try simp only [df] at h12
 refine .gF Z Z Z Z<|.gF Z Z Z Z<|.gd Z Z<|.yv (.pickF Z Z) Z<|.yv (.pickF Z Z) Z<|.a Z Z<|.nt<|.rt<|?_
 exact Sx.ret1 (.inl rfl) rfl (.tmp rfl) fun W s => ⟨retB (by simp only [letB,Bool.or_eq_true,Bool.and_eq_true,decide_eq_true_eq,reduceCtorEq,true_iff,false_iff,iff_true,iff_false,beq_iff_eq,Bool.true_eq_false,Bool.false_eq_true];try omega),s.ext⟩
set_option maxRecDepth 100000 in
theorem rdigit_any (c : UInt8) (w : World) : Calls Tryz.prog 132 #[byteV c] w fun r w' => r = .returned (.bool (digB c)) ∧ Ext w w' := by
 refine Sx.enter (H := (fun _ => none)) Tryz.func132 rfl Tryz.ntmps132 rfl (fun _ _ e => by cases e) ?_
 refine .sr<|.a Z Z<|.ns<|.m Z Z<|.yv (.geq Z Z) Z<|.m Z Z<|.b2 (fun h5 => ?_) (fun h5 => ?_)
 ·try simp only [dt] at h5
  refine .gd Z Z<|.yv (.move Z) Z<|.gd Z Z<|.yv (.leq Z Z) Z<|.yv (.pickT Z Z) Z<|.a Z Z<|.nt<|.rt<|?_
  exact Sx.ret1 (.inl rfl) rfl (.tmp rfl) fun W s => ⟨retB (by simp only [digB,Bool.or_eq_true,Bool.and_eq_true,decide_eq_true_eq,reduceCtorEq,true_iff,false_iff,iff_true,iff_false,beq_iff_eq,Bool.true_eq_false,Bool.false_eq_true];try omega),s.ext⟩
 try simp only [df] at h5
 refine .gF Z Z Z Z<|.gF Z Z Z Z<|.yv (.pickF Z Z) Z<|.a Z Z<|.nt<|.rt<|?_
 exact Sx.ret1 (.inl rfl) rfl (.tmp rfl) fun W s => ⟨retB (by simp only [digB,Bool.or_eq_true,Bool.and_eq_true,decide_eq_true_eq,reduceCtorEq,true_iff,false_iff,iff_true,iff_false,beq_iff_eq,Bool.true_eq_false,Bool.false_eq_true];try omega),s.ext⟩
set_option maxRecDepth 100000 in
theorem inside_any (c : UInt8) (w : World) : Calls Tryz.prog 115 #[byteV c] w fun r w' => r = .returned (.bool (insB c)) ∧ Ext w w' := by
 refine Sx.enter (H := (fun _ => none)) Tryz.func115 rfl Tryz.ntmps115 rfl (fun _ _ e => by cases e) ?_
 refine .sr<|.a Z Z<|.ns<|.m Z Z<|.yv (.call Fx.call114 Z (fun W s => letter_any c W)) Z<|.m Z Z<|.b2 (fun h5 => ?_) (fun h5 => ?_)
 ·skip
  refine .gF Z Z Z Z<|.gF Z Z Z Z<|.yv (.pickT Z Z) Z<|.m Z Z<|.gF Z Z Z Z<|.gF Z Z Z Z<|.yv (.pickT Z Z) Z<|.a Z Z<|.nt<|.rt<|?_
  exact Sx.ret1 (.inl rfl) rfl (.tmp rfl) fun W s => ⟨retB (by simp_all [insB];try omega),s.ext⟩
 skip
 refine .gd Z Z<|.yv (.move Z) Z<|.gd Z Z<|.yv (.call Fx.call117 Z (fun W s => digit_any c W)) Z<|.yv (.pickF Z Z) Z<|.m Z Z<|.b2 (fun h9 => ?_) (fun h9 => ?_)
 ·skip
  refine .gF Z Z Z Z<|.gF Z Z Z Z<|.yv (.pickT Z Z) Z<|.a Z Z<|.nt<|.rt<|?_
  exact Sx.ret1 (.inl rfl) rfl (.tmp rfl) fun W s => ⟨retB (by simp_all [insB];try omega),s.ext⟩
 skip
 refine .gd Z Z<|.yv (.move Z) Z<|.gd Z Z<|.yv (.eql Z Z) Z<|.yv (.pickF Z Z) Z<|.a Z Z<|.nt<|.rt<|?_
 exact Sx.ret1 (.inl rfl) rfl (.tmp rfl) fun W s => ⟨retB (by simp_all [insB];try omega),s.ext⟩
set_option maxRecDepth 100000 in
theorem prefix_any (gf : FuncId) (q : UInt8 → Bool) (hf : callN Tryz.prog gf = true) (hg : ∀ b w,Calls Tryz.prog gf #[byteV b] w fun r w' => r = .returned (.bool (q b)) ∧ Ext w w') (l : Str) (hl : l.length ≤ 9223372036854775807) (w : World) :
 Calls Tryz.prog 110 #[strV l,.func (.func gf) #[] #[]] w fun r w' => r = .returned (.int .i64 (pre q l : Nat)) ∧ Ext w w' := by
 refine Sx.enter (H := (fun _ => none)) Tryz.func110 rfl Tryz.ntmps110 rfl (fun _ _ e => by cases e) ?_
 refine .sr<|.a Z Z<|.ns<|.a Z Z<|.nt<|.sq<|.bk<|.lp (X := Nat) [(0,_),(1,_)] ⟨rfl,rfl,trivial⟩ [] (fun k => [(5,.int .i64 (k : Nat))]) (fun k => (fun _ => none)) (fun k => []) (fun k => k ≤ pre q l) (fun k => l.length - k) 0 (fun _ s => s) ⟨rfl,trivial⟩ (by omega) fun k hC => ?_
 have hp := pre_le q l
 refine .sq<|.sr<|.m Z Z<|.m Z Z<|.yv (.lenS Fx.str9 Z) Z<|.yv (.lss Z Z) Z<|.m Z Z<|.b2 (fun h10 => ?_) (fun h10 => ?_)
 ·try simp only [dt] at h10
  have hk : k < l.length := by omega
  refine .gd Z Z<|.yv (.move Z) Z<|.gd Z Z<|.yv (.move Z) Z<|.gd Z Z<|.yv (.move Z) Z<|.gd Z Z<|.yv (.idxS Fx.str9 Z Z Z (List.getElem?_eq_getElem hk)) Z<|.gd Z Z<|.yv (.callV (fi := []) (ca := []) Z hf Z (fun W s => hg _ W)) Z<|.yv (.pickT Z Z) Z<|.nt<|.cd Z (fun h16 => ?_) (fun h16 => ?_)
  ·skip
   exact .sk<|.tN<|.bk<|.rg<|.m Z Z<|.yv (.add Z Z (w6 (by omega))) Z<|.a Z Z<|.nl<|.bN<|.tN<|.ag (k + 1) ⟨rfl,trivial⟩ ⟨rfl,rfl,trivial⟩ (fun _ s => s) (pre_step hk hC (by simpa using h16)) (by omega)
  skip
  refine .ex<|.tE<|.tE<|.bE<|.tN<|.sr<|.m Z Z<|.a Z Z<|.nt<|.rt<|?_
  first
   | exact Sx.ret1 (.inl rfl) rfl (.tmp rfl) fun W s => ⟨by rw [show k = pre q l by omega],s.ext⟩
   | exact Sx.ret1 (.inl rfl) rfl (.tmp rfl) fun W s => ⟨by rw [pre_stop hk hC (by simpa using h16)],s.ext⟩
 try simp only [df] at h10
 refine .gF Z Z Z Z<|.gF Z Z Z Z<|.gF Z Z Z Z<|.gF Z Z Z Z<|.gF Z Z Z Z<|.yv (.pickF Z Z) Z<|.nt<|.cF Z<|.ex<|.tE<|.tE<|.bE<|.tN<|.sr<|.m Z Z<|.a Z Z<|.nt<|.rt<|?_
 first
  | exact Sx.ret1 (.inl rfl) rfl (.tmp rfl) fun W s => ⟨by rw [show k = pre q l by omega],s.ext⟩
  | exact Sx.ret1 (.inl rfl) rfl (.tmp rfl) fun W s => ⟨by rw [pre_stop hk hC (by simpa using h16)],s.ext⟩
set_option maxRecDepth 100000 in
theorem keyword_any (H : Hp) (G : Gl H) (l : Str) (w : World) (hA : Agr H w) :
 Calls Tryz.prog 116 #[strV l] w fun r w' => r = .returned (.bool (words.contains l)) ∧ Ext w w' := by
 refine Sx.enter (H := H) Tryz.func116 rfl Tryz.ntmps116 rfl hA ?_
 refine .sr<|.a Z Z<|.nt<|.sq<|.sr<|.yv (.loadMW Z Fx.agg242 G.words Z) Z<|.m Z Z<|.nt<|.bk<|.lp (X := Nat) [(0,_),(5,_)] ⟨rfl,rfl,trivial⟩ [] (fun k => [(6,.int .i64 (k : Nat))]) (fun k => H) (fun k => []) (fun k => k ≤ 39 ∧ ∀ j,j < k → words.getD j [] ≠ l) (fun k => 39 - k) 0 (fun _ s => s) ⟨rfl,trivial⟩ ⟨by omega,fun j hj => by omega⟩ fun k hC => ?_
 obtain ⟨hk,hne⟩ := hC
 refine .sr<|.yv (.lss Z Z) Z<|.nt<|.sq<|.cd Z (fun h7 => ?_) (fun h7 => ?_)
 ·try simp only [dt] at h7
  refine .sk<|.tN<|.sq<|.bk<|.sr<|.yv (.idxA Fx.arr242 Fx.are242 Z Z Z (by omega) (list_at (by show k < 39;omega) [])) Z<|.a Z Z<|.ns<|.m Z Z<|.m Z Z<|.yv (.eqS Z Z) Z<|.nt<|.cd Z (fun h11 => ?_) (fun h11 => ?_)
  ·try simp only [dt] at h11
   have hmem : l ∈ words := by
    rw [← h11,getD_at (show k < words.length by show k < 39;omega)]
    exact List.getElem_mem _
   refine .sr<|.a Z Z<|.nt<|.rt<|.bR<|.tR<|.tR<|.bR<|.tR<|?_
   exact Sx.ret1 (.inl rfl) rfl (.tmp rfl) fun W s => ⟨retB (by simp [List.contains_iff_mem, *]),s.ext⟩
  try simp only [df] at h11
  exact .sk<|.bN<|.tN<|.rg<|.yv (.add Z Z (w6 (by omega))) Z<|.m Z Z<|.nt<|.ag (k + 1) ⟨rfl,trivial⟩ ⟨rfl,rfl,trivial⟩ (fun _ s => s) ⟨by omega,fun j hj => by
   by_cases e : j = k
   ·subst e;exact h11
   ·exact hne j (by omega)⟩ (by omega)
 try simp only [df] at h7
 have hno : l ∉ words := fun hm => by
  obtain ⟨j,hj,e⟩ := List.mem_iff_getElem.1 hm
  have hj2 : j < 39 := hj
  exact hne j (by omega) (by rw [getD_at hj];exact e)
 refine .ex<|.tE<|.tE<|.bE<|.tN<|.sr<|.a Z Z<|.nt<|.rt<|?_
 exact Sx.ret1 (.inl rfl) rfl (.tmp rfl) fun W s => ⟨retB (by simp [List.contains_iff_mem, *]),s.ext⟩
set_option maxRecDepth 100000 in
theorem hasPrefixL_any (l m : Str) (w : World) : Calls Tryz.prog 145 #[strV l,strV m] w fun r w' => r = .returned (.bool (hasP l m)) ∧ Ext w w' := by
 refine Sx.enter (H := (fun _ => none)) Tryz.func145 rfl Tryz.ntmps145 rfl (fun _ _ e => by cases e) ?_
 refine .sr<|.a Z Z<|.ns<|.m Z Z<|.yv (.lenS Fx.str9 Z) Z<|.m Z Z<|.yv (.lenS Fx.str9 Z) Z<|.yv (.geq Z Z) Z<|.m Z Z<|.b2 (fun h10 => ?_) (fun h10 => ?_)
 ·try simp only [dt] at h10
  refine .gd Z Z<|.yv (.move Z) Z<|.gd Z Z<|.yv (.move Z) Z<|.gd Z Z<|.yv (.lenS Fx.str9 Z) Z<|.gd Z Z<|.yv (.takeS Fx.str9 Z Z Z (by omega)) Z<|.gd Z Z<|.yv (.move Z) Z<|.gd Z Z<|.yv (.eqS Z Z) Z<|.yv (.pickT Z Z) Z<|.a Z Z<|.nt<|.rt<|?_
  exact Sx.ret1 (.inl rfl) rfl (.tmp rfl) fun W s => ⟨retB (by first | (simp only [hasP,Bool.or_eq_true,Bool.and_eq_true,decide_eq_true_eq,reduceCtorEq,true_iff,false_iff,iff_true,iff_false,beq_iff_eq,Bool.true_eq_false,Bool.false_eq_true];omega) | exact ⟨fun e => by simp only [hasP,Bool.or_eq_true,Bool.and_eq_true,decide_eq_true_eq,reduceCtorEq,true_iff,false_iff,iff_true,iff_false,beq_iff_eq,Bool.true_eq_false,Bool.false_eq_true] at e ⊢;exact ⟨by omega,e⟩,fun e => by simp only [hasP,Bool.or_eq_true,Bool.and_eq_true,decide_eq_true_eq,reduceCtorEq,true_iff,false_iff,iff_true,iff_false,beq_iff_eq,Bool.true_eq_false,Bool.false_eq_true] at e ⊢;exact e.2⟩),s.ext⟩
 try simp only [df] at h10
 refine .gF Z Z Z Z<|.gF Z Z Z Z<|.gF Z Z Z Z<|.gF Z Z Z Z<|.gF Z Z Z Z<|.gF Z Z Z Z<|.yv (.pickF Z Z) Z<|.a Z Z<|.nt<|.rt<|?_
 exact Sx.ret1 (.inl rfl) rfl (.tmp rfl) fun W s => ⟨retB (by first | (simp only [hasP,Bool.or_eq_true,Bool.and_eq_true,decide_eq_true_eq,reduceCtorEq,true_iff,false_iff,iff_true,iff_false,beq_iff_eq,Bool.true_eq_false,Bool.false_eq_true];omega) | exact ⟨fun e => by simp only [hasP,Bool.or_eq_true,Bool.and_eq_true,decide_eq_true_eq,reduceCtorEq,true_iff,false_iff,iff_true,iff_false,beq_iff_eq,Bool.true_eq_false,Bool.false_eq_true] at e ⊢;exact ⟨by omega,e⟩,fun e => by simp only [hasP,Bool.or_eq_true,Bool.and_eq_true,decide_eq_true_eq,reduceCtorEq,true_iff,false_iff,iff_true,iff_false,beq_iff_eq,Bool.true_eq_false,Bool.false_eq_true] at e ⊢;exact e.2⟩),s.ext⟩
set_option maxRecDepth 100000 in
theorem hasPrefix_any (l m : Str) (w : World) : Calls Tryz.prog 112 #[strV l,strV m] w fun r w' => r = .returned (.bool (hasP l m)) ∧ Ext w w' := by
 refine Sx.enter (H := (fun _ => none)) Tryz.func112 rfl Tryz.ntmps112 rfl (fun _ _ e => by cases e) ?_
 refine .sr<|.a Z Z<|.ns<|.m Z Z<|.m Z Z<|.yv (.call Fx.call145 Z (fun W s => hasPrefixL_any l m W)) Z<|.a Z Z<|.nt<|.rt<|?_
 exact Sx.ret1 (.inl rfl) rfl (.tmp rfl) fun W s => ⟨rfl,s.ext⟩
theorem Fx.agg220 : aggN Tryz.prog 220 = Option.some (Option.some 25) := by kernel_rfl
theorem Fx.are220 : arrE Tryz.prog 220 = Bool.true := by kernel_rfl
theorem Fx.arr220 : arrN Tryz.prog 220 = Option.some (25,1) := by kernel_rfl
theorem Fx.call70 : callN Tryz.prog 70 = Bool.true := by kernel_rfl
theorem Fx.call110 : callN Tryz.prog 110 = Bool.true := by kernel_rfl
theorem Fx.call112 : callN Tryz.prog 112 = Bool.true := by kernel_rfl
theorem Fx.call115 : callN Tryz.prog 115 = Bool.true := by kernel_rfl
theorem Fx.call116 : callN Tryz.prog 116 = Bool.true := by kernel_rfl
theorem sym_find {l : Str} {k : Nat} (hk : k < 25) (h0 : ∀ j,j < k → hasP l (symbols.getD j []) = false) (h1 : hasP l (symbols.getD k []) = true) : symbols.find? (fun x => x.isPrefixOf l) = some (symbols.getD k []) := by
 have hk' : k < symbols.length := hk
 rw [getD_at hk'] at h1 ⊢
 rw [hasP_pre] at h1
 refine List.find?_eq_some_iff_getElem.2 ⟨h1,k,hk',rfl,fun j hj => ?_⟩
 have := h0 j hj
 rw [getD_at (by omega),hasP_pre] at this
 simp [this]
theorem sym_none {l : Str} (h0 : ∀ j,j < 25 → hasP l (symbols.getD j []) = false) : symbols.find? (fun x => x.isPrefixOf l) = none := by
 rw [List.find?_eq_none]
 intro x hx
 obtain ⟨j,hj,rfl⟩ := List.mem_iff_getElem.1 hx
 have := h0 j hj
 rw [getD_at hj,hasP_pre] at this
 simp [this]
set_option maxRecDepth 100000 in
theorem read_any (H : Hp) (G : Gl H) (l : Str) (hl : l.length ≤ 9223372036854775807) (h0 : l ≠ []) (w : World) (hA : Agr H w) :
 Calls Tryz.prog 70 #[strV l] w fun e w' => e = .returned (.tuple #[.int .u8 ((readK l).1.toNat : Nat),.int .i64 ((readK l).2 : Nat)]) ∧ Ext w w' := by
 match l,h0 with
 | c :: r,_ =>
 refine Sx.enter (H := H) Tryz.func70 rfl Tryz.ntmps70 rfl hA ?_
 refine .sr<|.a Z Z<|.a Z Z<|.nt<|.sq<|.sr<|.m Z Z<|.yv (.idxS Fx.str9 Z Z Z (b := c) (j := 0) Z) Z<|.a Z Z<|.nt<|.bk<|.sr<|.m Z Z<|.yv (.call Fx.call114 Z (fun W s => letter_any c W)) Z<|.a Z Z<|.nt<|.cd Z (fun h21 => ?_) (fun h21 => ?_)
 ·skip
  refine .sr<|.m Z Z<|.yv (.call Fx.call110 Z (fun W s => prefix_any 115 insB Fx.call115 inside_any (c :: r) hl W)) Z<|.a Z Z<|.nt<|.sq<|.sr<|.m Z Z<|.m Z Z<|.yv (.takeS Fx.str9 Z Z Z (pre_le _ _)) Z<|.yv (.call Fx.call116 Z (fun W s => keyword_any H G _ W s.agr)) Z<|.nt<|.cd Z (fun h29 => ?_) (fun h29 => ?_)
  ·skip
   refine .sr<|.m Z Z<|.a Z Z<|.a Z Z<|.nt<|.rt<|.tR<|.bR<|.tR<|?_
   first
    | exact Sx.retN (.inl rfl) rfl (.cons (.tmp rfl) (.cons (.tmp rfl) .nil)) rfl fun W s => ⟨by simp only [readK,List.headD_cons,h21,h29,if_true];rfl,s.ext⟩
    | exact Sx.retN (.inl rfl) rfl (.cons (.tmp rfl) (.cons (.tmp rfl) .nil)) rfl fun W s => ⟨by simp only [readK,List.headD_cons,h21,h29,if_true,Bool.false_eq_true,if_false,show pre insB (c :: r) ≤ 12 by omega];rfl,s.ext⟩
    | exact Sx.retN (.inl rfl) rfl (.cons (.tmp rfl) (.cons (.tmp rfl) .nil)) rfl fun W s => ⟨by simp only [readK,List.headD_cons,h21,h29,if_true,Bool.false_eq_true,if_false,show ¬ pre insB (c :: r) ≤ 12 by omega];rfl,s.ext⟩
    | exact Sx.retN (.inl rfl) rfl (.cons (.tmp rfl) (.cons (.tmp rfl) .nil)) rfl fun W s => ⟨by simp only [readK,List.headD_cons,h21,h34,if_true,Bool.false_eq_true,if_false,hor];rfl,s.ext⟩
    | exact Sx.retN (.inl rfl) rfl (.cons (.tmp rfl) (.cons (.tmp rfl) .nil)) rfl fun W s => ⟨by simp only [readK,List.headD_cons,h21,h34,Bool.false_eq_true,if_false,hfind];rfl,s.ext⟩
  skip
  refine .sk<|.tN<|.sr<|.m Z Z<|.yv (.leq Z Z) Z<|.nt<|.cd Z (fun h32 => ?_) (fun h32 => ?_)
  ·try simp only [dt] at h32
   refine .sr<|.m Z Z<|.a Z Z<|.a Z Z<|.nt<|.rt<|.bR<|.tR<|?_
   first
    | exact Sx.retN (.inl rfl) rfl (.cons (.tmp rfl) (.cons (.tmp rfl) .nil)) rfl fun W s => ⟨by simp only [readK,List.headD_cons,h21,h29,if_true];rfl,s.ext⟩
    | exact Sx.retN (.inl rfl) rfl (.cons (.tmp rfl) (.cons (.tmp rfl) .nil)) rfl fun W s => ⟨by simp only [readK,List.headD_cons,h21,h29,if_true,Bool.false_eq_true,if_false,show pre insB (c :: r) ≤ 12 by omega];rfl,s.ext⟩
    | exact Sx.retN (.inl rfl) rfl (.cons (.tmp rfl) (.cons (.tmp rfl) .nil)) rfl fun W s => ⟨by simp only [readK,List.headD_cons,h21,h29,if_true,Bool.false_eq_true,if_false,show ¬ pre insB (c :: r) ≤ 12 by omega];rfl,s.ext⟩
    | exact Sx.retN (.inl rfl) rfl (.cons (.tmp rfl) (.cons (.tmp rfl) .nil)) rfl fun W s => ⟨by simp only [readK,List.headD_cons,h21,h34,if_true,Bool.false_eq_true,if_false,hor];rfl,s.ext⟩
    | exact Sx.retN (.inl rfl) rfl (.cons (.tmp rfl) (.cons (.tmp rfl) .nil)) rfl fun W s => ⟨by simp only [readK,List.headD_cons,h21,h34,Bool.false_eq_true,if_false,hfind];rfl,s.ext⟩
  try simp only [df] at h32
  refine .sk<|.bN<|.tN<|.sr<|.m Z Z<|.yv (.lenS Fx.str9 Z) Z<|.a Z Z<|.a Z Z<|.nt<|.rt<|?_
  first
   | exact Sx.retN (.inl rfl) rfl (.cons (.tmp rfl) (.cons (.tmp rfl) .nil)) rfl fun W s => ⟨by simp only [readK,List.headD_cons,h21,h29,if_true];rfl,s.ext⟩
   | exact Sx.retN (.inl rfl) rfl (.cons (.tmp rfl) (.cons (.tmp rfl) .nil)) rfl fun W s => ⟨by simp only [readK,List.headD_cons,h21,h29,if_true,Bool.false_eq_true,if_false,show pre insB (c :: r) ≤ 12 by omega];rfl,s.ext⟩
   | exact Sx.retN (.inl rfl) rfl (.cons (.tmp rfl) (.cons (.tmp rfl) .nil)) rfl fun W s => ⟨by simp only [readK,List.headD_cons,h21,h29,if_true,Bool.false_eq_true,if_false,show ¬ pre insB (c :: r) ≤ 12 by omega];rfl,s.ext⟩
   | exact Sx.retN (.inl rfl) rfl (.cons (.tmp rfl) (.cons (.tmp rfl) .nil)) rfl fun W s => ⟨by simp only [readK,List.headD_cons,h21,h34,if_true,Bool.false_eq_true,if_false,hor];rfl,s.ext⟩
   | exact Sx.retN (.inl rfl) rfl (.cons (.tmp rfl) (.cons (.tmp rfl) .nil)) rfl fun W s => ⟨by simp only [readK,List.headD_cons,h21,h34,Bool.false_eq_true,if_false,hfind];rfl,s.ext⟩
 skip
 refine .sr<|.m Z Z<|.yv (.call Fx.call117 Z (fun W s => digit_any c W)) Z<|.a Z Z<|.nt<|.cd Z (fun h34 => ?_) (fun h34 => ?_)
 ·skip
  refine .sr<|.m Z Z<|.yv (.call Fx.call110 Z (fun W s => prefix_any 117 digB Fx.call117 digit_any (c :: r) hl W)) Z<|.a Z Z<|.ns<|.m Z Z<|.yv (.eql Z Z) Z<|.m Z Z<|.b2 (fun h41 => ?_) (fun h41 => ?_)
  ·try simp only [dt] at h41
   have hor : (pre digB (c :: r) = 1 ∨ c ≠ 48) = True := eq_true (.inl (by omega))
   refine .gF Z Z Z Z<|.gF Z Z Z Z<|.yv (.pickT Z Z) Z<|.nt<|.cT Z<|.sr<|.m Z Z<|.a Z Z<|.a Z Z<|.nt<|.rt<|.bR<|.tR<|?_
   first
    | exact Sx.retN (.inl rfl) rfl (.cons (.tmp rfl) (.cons (.tmp rfl) .nil)) rfl fun W s => ⟨by simp only [readK,List.headD_cons,h21,h29,if_true];rfl,s.ext⟩
    | exact Sx.retN (.inl rfl) rfl (.cons (.tmp rfl) (.cons (.tmp rfl) .nil)) rfl fun W s => ⟨by simp only [readK,List.headD_cons,h21,h29,if_true,Bool.false_eq_true,if_false,show pre insB (c :: r) ≤ 12 by omega];rfl,s.ext⟩
    | exact Sx.retN (.inl rfl) rfl (.cons (.tmp rfl) (.cons (.tmp rfl) .nil)) rfl fun W s => ⟨by simp only [readK,List.headD_cons,h21,h29,if_true,Bool.false_eq_true,if_false,show ¬ pre insB (c :: r) ≤ 12 by omega];rfl,s.ext⟩
    | exact Sx.retN (.inl rfl) rfl (.cons (.tmp rfl) (.cons (.tmp rfl) .nil)) rfl fun W s => ⟨by simp only [readK,List.headD_cons,h21,h34,if_true,Bool.false_eq_true,if_false,hor];rfl,s.ext⟩
    | exact Sx.retN (.inl rfl) rfl (.cons (.tmp rfl) (.cons (.tmp rfl) .nil)) rfl fun W s => ⟨by simp only [readK,List.headD_cons,h21,h34,Bool.false_eq_true,if_false,hfind];rfl,s.ext⟩
  try simp only [df] at h41
  refine .gd Z Z<|.yv (.move Z) Z<|.gd Z Z<|.yv (.neq Z Z) Z<|.yv (.pickF Z Z) Z<|.nt<|.cd Z (fun h44 => ?_) (fun h44 => ?_)
  ·try simp only [dt] at h44
   have hor : (pre digB (c :: r) = 1 ∨ c ≠ 48) = True := eq_true (.inr fun e => h44 (by rw [e];rfl))
   refine .sr<|.m Z Z<|.a Z Z<|.a Z Z<|.nt<|.rt<|.bR<|.tR<|?_
   first
    | exact Sx.retN (.inl rfl) rfl (.cons (.tmp rfl) (.cons (.tmp rfl) .nil)) rfl fun W s => ⟨by simp only [readK,List.headD_cons,h21,h29,if_true];rfl,s.ext⟩
    | exact Sx.retN (.inl rfl) rfl (.cons (.tmp rfl) (.cons (.tmp rfl) .nil)) rfl fun W s => ⟨by simp only [readK,List.headD_cons,h21,h29,if_true,Bool.false_eq_true,if_false,show pre insB (c :: r) ≤ 12 by omega];rfl,s.ext⟩
    | exact Sx.retN (.inl rfl) rfl (.cons (.tmp rfl) (.cons (.tmp rfl) .nil)) rfl fun W s => ⟨by simp only [readK,List.headD_cons,h21,h29,if_true,Bool.false_eq_true,if_false,show ¬ pre insB (c :: r) ≤ 12 by omega];rfl,s.ext⟩
    | exact Sx.retN (.inl rfl) rfl (.cons (.tmp rfl) (.cons (.tmp rfl) .nil)) rfl fun W s => ⟨by simp only [readK,List.headD_cons,h21,h34,if_true,Bool.false_eq_true,if_false,hor];rfl,s.ext⟩
    | exact Sx.retN (.inl rfl) rfl (.cons (.tmp rfl) (.cons (.tmp rfl) .nil)) rfl fun W s => ⟨by simp only [readK,List.headD_cons,h21,h34,Bool.false_eq_true,if_false,hfind];rfl,s.ext⟩
  try simp only [df] at h44
  have hor : (pre digB (c :: r) = 1 ∨ c ≠ 48) = False := eq_false fun h => by
   rcases h with h | h
   ·omega
   ·exact h (UInt8.toNat_inj.1 (by show c.toNat = 48;simp at h44;omega))
  refine .sk<|.bN<|.tN<|.sr<|.m Z Z<|.yv (.lenS Fx.str9 Z) Z<|.a Z Z<|.a Z Z<|.nt<|.rt<|?_
  first
   | exact Sx.retN (.inl rfl) rfl (.cons (.tmp rfl) (.cons (.tmp rfl) .nil)) rfl fun W s => ⟨by simp only [readK,List.headD_cons,h21,h29,if_true];rfl,s.ext⟩
   | exact Sx.retN (.inl rfl) rfl (.cons (.tmp rfl) (.cons (.tmp rfl) .nil)) rfl fun W s => ⟨by simp only [readK,List.headD_cons,h21,h29,if_true,Bool.false_eq_true,if_false,show pre insB (c :: r) ≤ 12 by omega];rfl,s.ext⟩
   | exact Sx.retN (.inl rfl) rfl (.cons (.tmp rfl) (.cons (.tmp rfl) .nil)) rfl fun W s => ⟨by simp only [readK,List.headD_cons,h21,h29,if_true,Bool.false_eq_true,if_false,show ¬ pre insB (c :: r) ≤ 12 by omega];rfl,s.ext⟩
   | exact Sx.retN (.inl rfl) rfl (.cons (.tmp rfl) (.cons (.tmp rfl) .nil)) rfl fun W s => ⟨by simp only [readK,List.headD_cons,h21,h34,if_true,Bool.false_eq_true,if_false,hor];rfl,s.ext⟩
   | exact Sx.retN (.inl rfl) rfl (.cons (.tmp rfl) (.cons (.tmp rfl) .nil)) rfl fun W s => ⟨by simp only [readK,List.headD_cons,h21,h34,Bool.false_eq_true,if_false,hfind];rfl,s.ext⟩
 skip
 refine .sr<|.yv (.loadMW Z Fx.agg220 G.symbols Z) Z<|.m Z Z<|.nt<|.bk<|.lp (X := Nat) [(0,_),(11,_)] ⟨rfl,rfl,trivial⟩ [] (fun k => [(12,.int .i64 (k : Nat))]) (fun k => H) (fun k => []) (fun k => k ≤ 25 ∧ ∀ j,j < k → hasP (c :: r) (symbols.getD j []) = false) (fun k => 25 - k) 0 (fun _ s => s) ⟨rfl,trivial⟩ ⟨by omega,fun j hj => by omega⟩ fun k hC => ?_
 obtain ⟨hk,hne⟩ := hC
 refine .sr<|.yv (.lss Z Z) Z<|.nt<|.sq<|.cd Z (fun h13 => ?_) (fun h13 => ?_)
 ·try simp only [dt] at h13
  refine .sk<|.tN<|.sq<|.bk<|.sr<|.yv (.idxA Fx.arr220 Fx.are220 Z Z Z (by omega) (list_at (by show k < 25;omega) [])) Z<|.a Z Z<|.ns<|.m Z Z<|.m Z Z<|.yv (.call Fx.call112 Z (fun W s => hasPrefix_any (c :: r) _ W)) Z<|.nt<|.cd Z (fun h17 => ?_) (fun h17 => ?_)
  ·have hfind := sym_find (by omega) hne h17
   refine .sr<|.m Z Z<|.yv (.lenS Fx.str9 Z) Z<|.a Z Z<|.a Z Z<|.nt<|.rt<|.bR<|.tR<|.tR<|.bR<|.bR<|.tR<|?_
   first
    | exact Sx.retN (.inl rfl) rfl (.cons (.tmp rfl) (.cons (.tmp rfl) .nil)) rfl fun W s => ⟨by simp only [readK,List.headD_cons,h21,h29,if_true];rfl,s.ext⟩
    | exact Sx.retN (.inl rfl) rfl (.cons (.tmp rfl) (.cons (.tmp rfl) .nil)) rfl fun W s => ⟨by simp only [readK,List.headD_cons,h21,h29,if_true,Bool.false_eq_true,if_false,show pre insB (c :: r) ≤ 12 by omega];rfl,s.ext⟩
    | exact Sx.retN (.inl rfl) rfl (.cons (.tmp rfl) (.cons (.tmp rfl) .nil)) rfl fun W s => ⟨by simp only [readK,List.headD_cons,h21,h29,if_true,Bool.false_eq_true,if_false,show ¬ pre insB (c :: r) ≤ 12 by omega];rfl,s.ext⟩
    | exact Sx.retN (.inl rfl) rfl (.cons (.tmp rfl) (.cons (.tmp rfl) .nil)) rfl fun W s => ⟨by simp only [readK,List.headD_cons,h21,h34,if_true,Bool.false_eq_true,if_false,hor];rfl,s.ext⟩
    | exact Sx.retN (.inl rfl) rfl (.cons (.tmp rfl) (.cons (.tmp rfl) .nil)) rfl fun W s => ⟨by simp only [readK,List.headD_cons,h21,h34,Bool.false_eq_true,if_false,hfind];rfl,s.ext⟩
  skip
  exact .sk<|.bN<|.tN<|.rg<|.yv (.add Z Z (w6 (by omega))) Z<|.m Z Z<|.nt<|.ag (k + 1) ⟨rfl,trivial⟩ ⟨rfl,rfl,trivial⟩ (fun _ s => s) ⟨by omega,fun j hj => by
   by_cases e : j = k
   ·subst e;exact h17
   ·exact hne j (by omega)⟩ (by omega)
 try simp only [df] at h13
 have hfind := sym_none (l := c :: r) (fun j hj => hne j (by omega))
 refine .ex<|.tE<|.tE<|.bE<|.bN<|.tN<|.sr<|.m Z Z<|.yv (.lenS Fx.str9 Z) Z<|.a Z Z<|.a Z Z<|.nt<|.rt<|?_
 first
  | exact Sx.retN (.inl rfl) rfl (.cons (.tmp rfl) (.cons (.tmp rfl) .nil)) rfl fun W s => ⟨by simp only [readK,List.headD_cons,h21,h29,if_true];rfl,s.ext⟩
  | exact Sx.retN (.inl rfl) rfl (.cons (.tmp rfl) (.cons (.tmp rfl) .nil)) rfl fun W s => ⟨by simp only [readK,List.headD_cons,h21,h29,if_true,Bool.false_eq_true,if_false,show pre insB (c :: r) ≤ 12 by omega];rfl,s.ext⟩
  | exact Sx.retN (.inl rfl) rfl (.cons (.tmp rfl) (.cons (.tmp rfl) .nil)) rfl fun W s => ⟨by simp only [readK,List.headD_cons,h21,h29,if_true,Bool.false_eq_true,if_false,show ¬ pre insB (c :: r) ≤ 12 by omega];rfl,s.ext⟩
  | exact Sx.retN (.inl rfl) rfl (.cons (.tmp rfl) (.cons (.tmp rfl) .nil)) rfl fun W s => ⟨by simp only [readK,List.headD_cons,h21,h34,if_true,Bool.false_eq_true,if_false,hor];rfl,s.ext⟩
  | exact Sx.retN (.inl rfl) rfl (.cons (.tmp rfl) (.cons (.tmp rfl) .nil)) rfl fun W s => ⟨by simp only [readK,List.headD_cons,h21,h34,Bool.false_eq_true,if_false,hfind];rfl,s.ext⟩
set_option maxRecDepth 100000 in
theorem isName_any (H : Hp) (G : Gl H) (l : Str) (hl : l.length ≤ 9223372036854775807) (w : World) (hA : Agr H w) :
 Calls Tryz.prog 58 #[strV l] w fun r w' => r = .returned (.bool (nameB l)) ∧ Ext w w' := by
 refine Sx.enter (H := H) Tryz.func58 rfl Tryz.ntmps58 rfl hA ?_
 refine .sr<|.a Z Z<|.nt<|.sq<|.sr<|.m Z Z<|.yv (.eqS Z Z) Z<|.nt<|.cd Z (fun h6 => ?_) (fun h6 => ?_)
 ·try simp only [dt] at h6
  subst h6
  refine .sr<|.a Z Z<|.nt<|.rt<|.tR<|?_
  refine Sx.ret1 (.inl rfl) rfl (.tmp rfl) fun W s => ⟨retB ?_,s.ext⟩
  first
   | (rw [nameB,show (readK l).1 = 1 from h1];simp [h6];omega)
   | (rw [show nameB l = false by simp [nameB,h1]])
   | (rfl)
 try simp only [df] at h6
 skip
 refine .sk<|.tN<|.sr<|.m Z Z<|.yv (.call Fx.call70 Z (fun W s => read_any H G l hl h6 W s.agr)) Z<|.m Z Z<|.yv (.extract Z Z) Z<|.yv (.extract Z Z) Z<|.a Z Z<|.a Z Z<|.ns<|.m Z Z<|.yv (.eql Z Z) Z<|.m Z Z<|.b2 (fun h14 => ?_) (fun h14 => ?_)
 ·try simp only [dt] at h14
  have h1 : (readK l).1 = 1 := UInt8.toNat_inj.1 (by show _ = 1;omega)
  refine .gd Z Z<|.yv (.move Z) Z<|.gd Z Z<|.yv (.move Z) Z<|.gd Z Z<|.yv (.lenS Fx.str9 Z) Z<|.gd Z Z<|.yv (.eql Z Z) Z<|.yv (.pickT Z Z) Z<|.a Z Z<|.nt<|.rt<|?_
  refine Sx.ret1 (.inl rfl) rfl (.tmp rfl) fun W s => ⟨retB ?_,s.ext⟩
  first
   | (rw [nameB,show (readK l).1 = 1 from h1];simp [h6];omega)
   | (rw [show nameB l = false by simp [nameB,h1]])
   | (rfl)
 try simp only [df] at h14
 have h1 : ¬ (readK l).1 = 1 := fun e => h14 (by rw [e];rfl)
 refine .gF Z Z Z Z<|.gF Z Z Z Z<|.gF Z Z Z Z<|.gF Z Z Z Z<|.yv (.pickF Z Z) Z<|.a Z Z<|.nt<|.rt<|?_
 refine Sx.ret1 (.inl rfl) rfl (.tmp rfl) fun W s => ⟨retB ?_,s.ext⟩
 first
  | (rw [nameB,show (readK l).1 = 1 from h1];simp [h6];omega)
  | (rw [show nameB l = false by simp [nameB,h1]])
  | (rfl)
theorem Fx.agg2 : aggN Tryz.prog 2 = Option.some Option.none := by kernel_rfl
theorem Fx.agg3 : aggN Tryz.prog 3 = Option.some Option.none := by kernel_rfl
theorem Fx.agg4 : aggN Tryz.prog 4 = Option.some Option.none := by kernel_rfl
theorem Fx.agg9 : aggN Tryz.prog 9 = Option.some Option.none := by kernel_rfl
theorem Fx.agg24 : aggN Tryz.prog 24 = Option.some Option.none := by kernel_rfl
theorem Fx.agg137 : aggN Tryz.prog 137 = Option.some (Option.some 4) := by kernel_rfl
theorem Fx.agg236 : aggN Tryz.prog 236 = Option.some (Option.some 6) := by kernel_rfl
theorem Fx.arr201 : arrN Tryz.prog 201 = Option.some (24,4) := by kernel_rfl
theorem Fx.arr257 : arrN Tryz.prog 257 = Option.some (11,6) := by kernel_rfl
theorem Fx.call30 : callN Tryz.prog 30 = Bool.true := by kernel_rfl
theorem Fx.call31 : callN Tryz.prog 31 = Bool.true := by kernel_rfl
theorem Fx.call32 : callN Tryz.prog 32 = Bool.true := by kernel_rfl
theorem Fx.call57 : callN Tryz.prog 57 = Bool.true := by kernel_rfl
theorem Fx.call58 : callN Tryz.prog 58 = Bool.true := by kernel_rfl
theorem Fx.field27_0 : fieldN Tryz.prog 27 0 = Option.some 0 := by kernel_rfl
theorem Fx.field27_1 : fieldN Tryz.prog 27 1 = Option.some 1 := by kernel_rfl
theorem Fx.field27_2 : fieldN Tryz.prog 27 2 = Option.some 2 := by kernel_rfl
theorem Fx.field137_0 : fieldN Tryz.prog 137 0 = Option.some 0 := by kernel_rfl
theorem Fx.field137_1 : fieldN Tryz.prog 137 1 = Option.some 1 := by kernel_rfl
theorem Fx.size137 : sizeN Tryz.prog 137 = Option.some 4 := by kernel_rfl
theorem Fx.size236 : sizeN Tryz.prog 236 = Option.some 6 := by kernel_rfl
theorem Fx.zero137 : zeroN Tryz.prog 137 = Option.some
 [Go.Value.int Go.IntKind.i64 (Int.ofNat 0),Go.Value.bool Bool.false,Go.Value.int Go.IntKind.i64 (Int.ofNat 0),
  Go.Value.string { data := { toList := [] } }] := by kernel_rfl
theorem Fx.zero236 : zeroN Tryz.prog 236 = Option.some
 [Go.Value.bool Bool.false,Go.Value.bool Bool.false,Go.Value.int Go.IntKind.i64 (Int.ofNat 0),
  Go.Value.int Go.IntKind.i64 (Int.ofNat 0),Go.Value.bool Bool.false,Go.Value.bool Bool.false] := by kernel_rfl
theorem Fx.bld137  : buildN Tryz.prog 137 [] = some [.int .i64 0,.bool false,.int .i64 0,.string ⟨#[]⟩] := by kernel_rfl
theorem Fx.bld236  : buildN Tryz.prog 236 [] = some [.bool false,.bool false,.int .i64 0,.int .i64 0,.bool false,.bool false] := by kernel_rfl
set_option maxRecDepth 100000 in
theorem shape_any (H : Hp) (G : Gl H) (op : UInt8) (w : World) (hA : Agr H w) :
 Calls Tryz.prog 57 #[.int .u8 op.toNat] w fun r w' => r = .returned (.tuple #[.agg (shapeC (shapeOf op)).toArray,.bool (okOp op)]) ∧ Ext w w' := by
 refine Sx.enter (H := H) Tryz.func57 rfl Tryz.ntmps57 rfl hA ?_
 refine .sr<|.al Fx.zero137 Z fun b2 => .a Z Z<|.nt<|.sq<|.sr<|.m Z Z<|.yv (.lss Z Z) Z<|.m Z Z<|.b2 (fun h6 => ?_) (fun h6 => ?_)
 ·try simp only [dt] at h6
  have hno : okOp op = false := by simp [okOp];omega
  refine .gF Z Z Z Z<|.gF Z Z Z Z<|.yv (.pickT Z Z) Z<|.nt<|.cT Z<|.sr<|.yv (.build Z Fx.bld137) Z<|.sW .head Z Z Fx.size137 (by simp [Value.oneCell',strV]) Z<|.a Z Z<|.nt<|.rt<|.tR<|?_
  refine Sx.retN (.inl rfl) rfl (.cons (.cell rfl Fx.agg137 (.head _) rfl) (.cons (.tmp rfl) .nil)) rfl fun W s => ⟨?_,s.ext⟩
  first
   | (rw [shapeOf,hno];rfl)
   | (rw [shapeOf,hok];rfl)
 try simp only [df] at h6
 refine .gd Z Z<|.yv (.move Z) Z<|.gd Z Z<|.yv (.gtr Z Z) Z<|.yv (.pickF Z Z) Z<|.nt<|.cd Z (fun h9 => ?_) (fun h9 => ?_)
 ·try simp only [dt] at h9
  have hno : okOp op = false := by simp [okOp];omega
  refine .sr<|.yv (.build Z Fx.bld137) Z<|.sW .head Z Z Fx.size137 (by simp [Value.oneCell',strV]) Z<|.a Z Z<|.nt<|.rt<|.tR<|?_
  refine Sx.retN (.inl rfl) rfl (.cons (.cell rfl Fx.agg137 (.head _) rfl) (.cons (.tmp rfl) .nil)) rfl fun W s => ⟨?_,s.ext⟩
  first
   | (rw [shapeOf,hno];rfl)
   | (rw [shapeOf,hok];rfl)
 try simp only [df] at h9
 have hok : okOp op = true := by simp [okOp];omega
 refine .sk<|.tN<|.sr<|.m Z Z<|.yv (.indexArr Fx.arr201 Z Z Z (by omega) (q := op.toNat * 4) (by omega)) Z<|.yv (.loadMS (k := op.toNat * 4) (vs := shapeC (shapes.getD op.toNat ⟨0,false,0,[]⟩)) Z Fx.agg137 G.shapes (by omega) Z (flat_at (f := shapeC) (z := 4) (l := shapes) (i := op.toNat) (fun _ => rfl) _ (by show op.toNat < 24;omega))) Z<|.sV .head Z Z Fx.size137 Z (by simp [shapeC,Value.oneCell',strV]) Z<|.a Z Z<|.nt<|.rt<|?_
 refine Sx.retN (.inl rfl) rfl (.cons (.cell rfl Fx.agg137 (.head _) rfl) (.cons (.tmp rfl) .nil)) rfl fun W s => ⟨?_,s.ext⟩
 first
  | (rw [shapeOf,hno];rfl)
  | (rw [shapeOf,hok];rfl)
set_option maxRecDepth 100000 in
theorem form_any (H : Hp) (G : Gl H) (op : UInt8) (w : World) (hA : Agr H w) :
 Calls Tryz.prog 141 #[.int .u8 op.toNat] w fun r w' => r = .returned (.tuple #[.agg (formC (formOf op)).toArray,.bool (okKd op)]) ∧ Ext w w' := by
 refine Sx.enter (H := H) Tryz.func141 rfl Tryz.ntmps141 rfl hA ?_
 refine .sr<|.al Fx.zero236 Z fun b2 => .a Z Z<|.nt<|.sq<|.sr<|.m Z Z<|.yv (.lss Z Z) Z<|.m Z Z<|.b2 (fun h6 => ?_) (fun h6 => ?_)
 ·try simp only [dt] at h6
  have hno : okKd op = false := by simp [okKd];omega
  refine .gF Z Z Z Z<|.gF Z Z Z Z<|.yv (.pickT Z Z) Z<|.nt<|.cT Z<|.sr<|.yv (.build Z Fx.bld236) Z<|.sW .head Z Z Fx.size236 (by simp [Value.oneCell',strV]) Z<|.a Z Z<|.nt<|.rt<|.tR<|?_
  refine Sx.retN (.inl rfl) rfl (.cons (.cell rfl Fx.agg236 (.head _) rfl) (.cons (.tmp rfl) .nil)) rfl fun W s => ⟨?_,s.ext⟩
  first
   | (rw [formOf,hno];rfl)
   | (rw [formOf,hok];rfl)
 try simp only [df] at h6
 refine .gd Z Z<|.yv (.move Z) Z<|.gd Z Z<|.yv (.gtr Z Z) Z<|.yv (.pickF Z Z) Z<|.nt<|.cd Z (fun h9 => ?_) (fun h9 => ?_)
 ·try simp only [dt] at h9
  have hno : okKd op = false := by simp [okKd];omega
  refine .sr<|.yv (.build Z Fx.bld236) Z<|.sW .head Z Z Fx.size236 (by simp [Value.oneCell',strV]) Z<|.a Z Z<|.nt<|.rt<|.tR<|?_
  refine Sx.retN (.inl rfl) rfl (.cons (.cell rfl Fx.agg236 (.head _) rfl) (.cons (.tmp rfl) .nil)) rfl fun W s => ⟨?_,s.ext⟩
  first
   | (rw [formOf,hno];rfl)
   | (rw [formOf,hok];rfl)
 try simp only [df] at h9
 have hok : okKd op = true := by simp [okKd];omega
 refine .sk<|.tN<|.sr<|.m Z Z<|.yv (.indexArr Fx.arr257 Z Z Z (by omega) (q := op.toNat * 6) (by omega)) Z<|.yv (.loadMS (k := op.toNat * 6) (vs := formC (forms.getD op.toNat ⟨false,false,0,0,false,false⟩)) Z Fx.agg236 G.forms (by omega) Z (flat_at (f := formC) (z := 6) (l := forms) (i := op.toNat) (fun _ => rfl) _ (by show op.toNat < 11;omega))) Z<|.sV .head Z Z Fx.size236 Z (by simp [formC,Value.oneCell',strV]) Z<|.a Z Z<|.nt<|.rt<|?_
 refine Sx.retN (.inl rfl) rfl (.cons (.cell rfl Fx.agg236 (.head _) rfl) (.cons (.tmp rfl) .nil)) rfl fun W s => ⟨?_,s.ext⟩
 first
  | (rw [formOf,hno];rfl)
  | (rw [formOf,hok];rfl)
def ExFn (gf : FuncId) (q : Ex → Bool) : Prop := callN Tryz.prog gf = true ∧ ∀ (H : Hp),Gl H → ∀ (e : Ex) (cs : List Value) (b o : Nat) (w : World),Rep H (dEx .u8 e) cs → MemAt H b o cs → Agr H w →
 Calls Tryz.prog gf #[.pointer (some ⟨b,o,none⟩)] w fun r w' => r = .returned (.bool (q e)) ∧ Ext w w'
set_option maxRecDepth 100000 in
theorem everyExpr_any (gf : FuncId) (q : Ex → Bool) (hg : ExFn gf q) (H : Hp) (G : Gl H) (e : Ex) : ∀ (cs : List Value) (b o : Nat) (w : World),Rep H (dEx .u8 e) cs → MemAt H b o cs → Agr H w →
 Calls Tryz.prog 30 #[.pointer (some ⟨b,o,none⟩),.func (.func gf) #[] #[]] w fun r w' => r = .returned (.bool (e.all q)) ∧ Ext w w' := by
 induction e using Ex.ind with | _ op nm nn args ih
 intro cs b o w h hm hA
 obtain ⟨p,c,rfl,hs,hnm⟩ := ex_open h
 have hcap := hs.cap
 refine Sx.enter (H := H) Tryz.func30 rfl Tryz.ntmps30 rfl hA ?_
 refine .sr<|.a Z Z<|.nt<|.sq<|.sr<|.m Z Z<|.m Z Z<|.yv (.callV (fi := []) (ca := []) Z hg.1 Z (fun W s => hg.2 H G _ _ b o W h hm s.agr)) Z<|.yv (.not Z) Z<|.nt<|.cd Z (fun h9 => ?_) (fun h9 => ?_)
 ·skip
  refine .sr<|.a Z Z<|.nt<|.rt<|.tR<|?_
  refine Sx.ret1 (.inl rfl) rfl (.tmp rfl) fun W s => ⟨retB ?_,s.ext⟩
  first
   | (rw [all_mk,show q (.mk op nm nn args) = false by simpa using h9];rfl)
   | (rw [all_mk,alls_bad hk (by simpa using h26)];simp)
   | (rw [all_mk,hal,show q (.mk op nm nn args) = true by simpa using h9];rfl)
 skip
 refine .sk<|.tN<|.sq<|.sr<|.m Z Z<|.yv (.nilCheck Z) Z<|.yv (.fieldAddr Z Fx.field27_3) Z<|.yv (.loadM Z Fx.agg25 hm (k := 3) Z Z) Z<|.yv (.lenSl Fx.sl25 Z) Z<|.m Z Z<|.nt<|.bk<|.lp (X := Nat) [(0,_),(1,_),(14,_)] ⟨rfl,rfl,rfl,trivial⟩ [] (fun k => [(15,.int .i64 (k : Nat))]) (fun k => H) (fun k => []) (fun k => k ≤ args.length ∧ Ex.alls q (args.take k) = true) (fun k => args.length - k) 0 (fun _ s => s) ⟨rfl,trivial⟩ ⟨by omega,rfl⟩ fun k hC => ?_
 obtain ⟨hk0,hal⟩ := hC
 refine .sr<|.yv (.lss Z Z) Z<|.nt<|.sq<|.cd Z (fun h16 => ?_) (fun h16 => ?_)
 ·try simp only [dt] at h16
  have hk : k < args.length := by omega
  obtain ⟨b5,o5,c5,hp5,r5,l5,m5⟩ := hs.elem (map_at hk)
  cases hp5
  refine .sk<|.tN<|.sq<|.bk<|.sr<|.m Z Z<|.a Z Z<|.ns<|.m Z Z<|.yv (.nilCheck Z) Z<|.yv (.fieldAddr Z Fx.field27_3) Z<|.yv (.loadM Z Fx.agg25 hm (k := 3) Z Z) Z<|.m Z Z<|.yv (.indexSl Fx.sl25 Z Z Z (by omega) (q := o5 + k * 4) Z) Z<|.m Z Z<|.yv (.call Fx.call30 Z (fun W s => ih _ (List.getElem_mem hk) c5 b5 (o5 + k * 4) W r5 m5 s.agr)) Z<|.yv (.not Z) Z<|.nt<|.cd Z (fun h26 => ?_) (fun h26 => ?_)
  ·skip
   refine .sr<|.a Z Z<|.nt<|.rt<|.bR<|.tR<|.tR<|.bR<|.tR<|?_
   refine Sx.ret1 (.inl rfl) rfl (.tmp rfl) fun W s => ⟨retB ?_,s.ext⟩
   first
    | (rw [all_mk,show q (.mk op nm nn args) = false by simpa using h9];rfl)
    | (rw [all_mk,alls_bad hk (by simpa using h26)];simp)
    | (rw [all_mk,hal,show q (.mk op nm nn args) = true by simpa using h9];rfl)
  skip
  exact .sk<|.bN<|.tN<|.rg<|.yv (.add Z Z (w6 (by omega))) Z<|.m Z Z<|.nt<|.ag (k + 1) ⟨rfl,trivial⟩ ⟨rfl,rfl,rfl,trivial⟩ (fun _ s => s) ⟨by omega,by rw [alls_succ hk,hal];simpa using h26⟩ (by omega)
 try simp only [df] at h16
 obtain rfl : k = args.length := by omega
 rw [List.take_length] at hal
 refine .ex<|.tE<|.tE<|.bE<|.tN<|.sr<|.a Z Z<|.nt<|.rt<|?_
 refine Sx.ret1 (.inl rfl) rfl (.tmp rfl) fun W s => ⟨retB ?_,s.ext⟩
 first
  | (rw [all_mk,show q (.mk op nm nn args) = false by simpa using h9];rfl)
  | (rw [all_mk,alls_bad hk (by simpa using h26)];simp)
  | (rw [all_mk,hal,show q (.mk op nm nn args) = true by simpa using h9];rfl)
set_option maxRecDepth 100000 in
theorem namedExpr_any : ExFn 31 namE := by
 refine ⟨Fx.call31,fun H G e cs b o w h hm hA => ?_⟩
 obtain ⟨op,nm,nn,args⟩ := e
 obtain ⟨p,c,rfl,hs,hnm⟩ := ex_open h
 have hcap := hs.cap
 refine Sx.enter (H := H) Tryz.func31 rfl Tryz.ntmps31 rfl hA ?_
 refine .sr<|.a Z Z<|.ns<|.m Z Z<|.yv (.nilCheck Z) Z<|.yv (.fieldAddr Z Fx.field27_0) Z<|.yv (.loadM Z Fx.agg24 hm (k := 0) Z Z) Z<|.yv (.call Fx.call57 Z (fun W s => shape_any H G op W s.agr)) Z<|.m Z Z<|.yv (.extract Z Z) Z<|.yv (.extract Z Z) Z<|.al Fx.zero137 Z fun b3 => .sV .head Z Z Fx.size137 Z (by simp [shapeC,Value.oneCell',strV]) Z<|.a Z Z<|.ns<|.yv (.fieldAddr Z Fx.field137_1) Z<|.yv (.load Z Fx.agg4 (.head _) Z) Z<|.yv (.not Z) Z<|.m Z Z<|.b2 (fun h16 => ?_) (fun h16 => ?_)
 ·skip
  refine .gF Z Z Z Z<|.gF Z Z Z Z<|.gF Z Z Z Z<|.gF Z Z Z Z<|.gF Z Z Z Z<|.yv (.pickT Z Z) Z<|.a Z Z<|.nt<|.rt<|?_
  refine Sx.ret1 (.inl rfl) rfl (.tmp rfl) fun W s => ⟨retB ?_,s.ext⟩
  first
   | (simp only [namE];simp_all)
 skip
 refine .gd Z Z<|.yv (.move Z) Z<|.gd Z Z<|.yv (.nilCheck Z) Z<|.gd Z Z<|.yv (.fieldAddr Z Fx.field27_1) Z<|.gd Z Z<|.yv (.loadM Z Fx.agg9 hm (k := 1) Z Z) Z<|.gd Z Z<|.yv (.call Fx.call58 Z (fun W s => isName_any H G nm (by omega) W s.agr)) Z<|.yv (.pickF Z Z) Z<|.a Z Z<|.nt<|.rt<|?_
 refine Sx.ret1 (.inl rfl) rfl (.tmp rfl) fun W s => ⟨retB ?_,s.ext⟩
 first
  | (simp only [namE];simp_all)
set_option maxRecDepth 100000 in
theorem formedExpr_any : ExFn 32 frmE := by
 refine ⟨Fx.call32,fun H G e cs b o w h hm hA => ?_⟩
 obtain ⟨op,nm,nn,args⟩ := e
 obtain ⟨p,c,rfl,hs,hnm⟩ := ex_open h
 have hcap := hs.cap
 refine Sx.enter (H := H) Tryz.func32 rfl Tryz.ntmps32 rfl hA ?_
 refine .sr<|.a Z Z<|.ns<|.m Z Z<|.yv (.nilCheck Z) Z<|.yv (.fieldAddr Z Fx.field27_0) Z<|.yv (.loadM Z Fx.agg24 hm (k := 0) Z Z) Z<|.yv (.call Fx.call57 Z (fun W s => shape_any H G op W s.agr)) Z<|.m Z Z<|.yv (.extract Z Z) Z<|.yv (.extract Z Z) Z<|.al Fx.zero137 Z fun b3 => .sV .head Z Z Fx.size137 Z (by simp [shapeC,Value.oneCell',strV]) Z<|.a Z Z<|.nt<|.sq<|.bk<|.sq<|.sr<|.m Z Z<|.yv (.not Z) Z<|.a Z Z<|.nt<|.cd Z (fun h13 => ?_) (fun h13 => ?_)
 ·skip
  refine .sk<|.tN<|.cd Z (fun h13 => ?_) (fun h13 => ?_)
  ·skip
   refine .sr<|.a Z Z<|.nt<|.rt<|.bR<|.tR<|?_
   refine Sx.ret1 (.inl rfl) rfl (.tmp rfl) fun W s => ⟨retB ?_,s.ext⟩
   first
    | (simp only [frmE];cases ho : okOp op <;> cases hs2 : (shapeOf op).nm <;> simp_all [Int.natCast_inj])
  skip
  refine .sr<|.m Z Z<|.yv (.nilCheck Z) Z<|.yv (.fieldAddr Z Fx.field27_0) Z<|.yv (.loadM Z Fx.agg24 hm (k := 0) Z Z) Z<|.yv (.eql Z Z) Z<|.a Z Z<|.nt<|.cd Z (fun h34 => ?_) (fun h34 => ?_)
  ·try simp only [dt] at h34
   have h34 : op = 1 := UInt8.toNat_inj.1 (by show op.toNat = 1;omega)
   refine .sr<|.m Z Z<|.yv (.nilCheck Z) Z<|.yv (.fieldAddr Z Fx.field27_2) Z<|.yv (.loadM Z Fx.agg2 hm (k := 2) Z Z) Z<|.yv (.geq Z Z) Z<|.a Z Z<|.nt<|.rt<|.bR<|.tR<|?_
   refine Sx.ret1 (.inl rfl) rfl (.tmp rfl) fun W s => ⟨retB ?_,s.ext⟩
   first
    | (simp only [frmE];cases ho : okOp op <;> cases hs2 : (shapeOf op).nm <;> simp_all [Int.natCast_inj])
  try simp only [df] at h34
  have h34 : ¬ op = 1 := fun e => h34 (by rw [e];rfl)
  refine .sk<|.bN<|.tN<|.sr<|.m Z Z<|.yv (.nilCheck Z) Z<|.yv (.fieldAddr Z Fx.field27_2) Z<|.yv (.loadM Z Fx.agg2 hm (k := 2) Z Z) Z<|.yv (.eql Z Z) Z<|.a Z Z<|.nt<|.rt<|?_
  refine Sx.ret1 (.inl rfl) rfl (.tmp rfl) fun W s => ⟨retB ?_,s.ext⟩
  first
   | (simp only [frmE];cases ho : okOp op <;> cases hs2 : (shapeOf op).nm <;> simp_all [Int.natCast_inj])
 skip
 refine .sq<|.fl (trip := [(_,_,_),(_,_,_),(_,_,_),(_,_,_),(_,_,_),(_,_,_),(_,_,_),(_,_,_)]) 8 [(0,0),(1,0),(2,0),(3,0),(4,0),(5,0),(6,0),(7,0)] (by kernel_rfl) (by kernel_rfl) Z<|.m Z Z<|.yv (.nilCheck Z) Z<|.yv (.fieldAddr Z Fx.field27_3) Z<|.yv (.loadM Z Fx.agg25 hm (k := 3) Z Z) Z<|.yv (.lenSl Fx.sl25 Z) Z<|.yv (.fieldAddr Z Fx.field137_0) Z<|.yv (.load Z Fx.agg3 (.head _) Z) Z<|.yv (.neq Z Z) Z<|.fn (tl := [_]) Z<|.a Z Z<|.nt<|.cd Z (fun h13 => ?_) (fun h13 => ?_)
 ·skip
  refine .sk<|.tN<|.cd Z (fun h13 => ?_) (fun h13 => ?_)
  ·skip
   refine .sr<|.a Z Z<|.nt<|.rt<|.bR<|.tR<|?_
   refine Sx.ret1 (.inl rfl) rfl (.tmp rfl) fun W s => ⟨retB ?_,s.ext⟩
   first
    | (simp only [frmE];cases ho : okOp op <;> cases hs2 : (shapeOf op).nm <;> simp_all [Int.natCast_inj])
  skip
  refine .sr<|.m Z Z<|.yv (.nilCheck Z) Z<|.yv (.fieldAddr Z Fx.field27_0) Z<|.yv (.loadM Z Fx.agg24 hm (k := 0) Z Z) Z<|.yv (.eql Z Z) Z<|.a Z Z<|.nt<|.cd Z (fun h34 => ?_) (fun h34 => ?_)
  ·try simp only [dt] at h34
   have h34 : op = 1 := UInt8.toNat_inj.1 (by show op.toNat = 1;omega)
   refine .sr<|.m Z Z<|.yv (.nilCheck Z) Z<|.yv (.fieldAddr Z Fx.field27_2) Z<|.yv (.loadM Z Fx.agg2 hm (k := 2) Z Z) Z<|.yv (.geq Z Z) Z<|.a Z Z<|.nt<|.rt<|.bR<|.tR<|?_
   refine Sx.ret1 (.inl rfl) rfl (.tmp rfl) fun W s => ⟨retB ?_,s.ext⟩
   first
    | (simp only [frmE];cases ho : okOp op <;> cases hs2 : (shapeOf op).nm <;> simp_all [Int.natCast_inj])
  try simp only [df] at h34
  have h34 : ¬ op = 1 := fun e => h34 (by rw [e];rfl)
  refine .sk<|.bN<|.tN<|.sr<|.m Z Z<|.yv (.nilCheck Z) Z<|.yv (.fieldAddr Z Fx.field27_2) Z<|.yv (.loadM Z Fx.agg2 hm (k := 2) Z Z) Z<|.yv (.eql Z Z) Z<|.a Z Z<|.nt<|.rt<|?_
  refine Sx.ret1 (.inl rfl) rfl (.tmp rfl) fun W s => ⟨retB ?_,s.ext⟩
  first
   | (simp only [frmE];cases ho : okOp op <;> cases hs2 : (shapeOf op).nm <;> simp_all [Int.natCast_inj])
 skip
 refine .rg<|.yv (.fieldAddr Z Fx.field137_1) Z<|.yv (.load Z Fx.agg4 (.head _) Z) Z<|.yv (.not Z) Z<|.m Z Z<|.b2 (fun h27 => ?_) (fun h27 => ?_)
 ·skip
  refine .gd Z Z<|.yv (.move Z) Z<|.gd Z Z<|.yv (.nilCheck Z) Z<|.gd Z Z<|.yv (.fieldAddr Z Fx.field27_1) Z<|.gd Z Z<|.yv (.loadM Z Fx.agg9 hm (k := 1) Z Z) Z<|.gd Z Z<|.yv (.neS Z Z) Z<|.yv (.pickT Z Z) Z<|.a Z Z<|.nt<|.cd Z (fun h13 => ?_) (fun h13 => ?_)
  ·skip
   refine .sr<|.a Z Z<|.nt<|.rt<|.bR<|.tR<|?_
   refine Sx.ret1 (.inl rfl) rfl (.tmp rfl) fun W s => ⟨retB ?_,s.ext⟩
   first
    | (simp only [frmE];cases ho : okOp op <;> cases hs2 : (shapeOf op).nm <;> simp_all [Int.natCast_inj])
  skip
  refine .sr<|.m Z Z<|.yv (.nilCheck Z) Z<|.yv (.fieldAddr Z Fx.field27_0) Z<|.yv (.loadM Z Fx.agg24 hm (k := 0) Z Z) Z<|.yv (.eql Z Z) Z<|.a Z Z<|.nt<|.cd Z (fun h34 => ?_) (fun h34 => ?_)
  ·try simp only [dt] at h34
   have h34 : op = 1 := UInt8.toNat_inj.1 (by show op.toNat = 1;omega)
   refine .sr<|.m Z Z<|.yv (.nilCheck Z) Z<|.yv (.fieldAddr Z Fx.field27_2) Z<|.yv (.loadM Z Fx.agg2 hm (k := 2) Z Z) Z<|.yv (.geq Z Z) Z<|.a Z Z<|.nt<|.rt<|.bR<|.tR<|?_
   refine Sx.ret1 (.inl rfl) rfl (.tmp rfl) fun W s => ⟨retB ?_,s.ext⟩
   first
    | (simp only [frmE];cases ho : okOp op <;> cases hs2 : (shapeOf op).nm <;> simp_all [Int.natCast_inj])
  try simp only [df] at h34
  have h34 : ¬ op = 1 := fun e => h34 (by rw [e];rfl)
  refine .sk<|.bN<|.tN<|.sr<|.m Z Z<|.yv (.nilCheck Z) Z<|.yv (.fieldAddr Z Fx.field27_2) Z<|.yv (.loadM Z Fx.agg2 hm (k := 2) Z Z) Z<|.yv (.eql Z Z) Z<|.a Z Z<|.nt<|.rt<|?_
  refine Sx.ret1 (.inl rfl) rfl (.tmp rfl) fun W s => ⟨retB ?_,s.ext⟩
  first
   | (simp only [frmE];cases ho : okOp op <;> cases hs2 : (shapeOf op).nm <;> simp_all [Int.natCast_inj])
 skip
 refine .gF Z Z Z Z<|.gF Z Z Z Z<|.gF Z Z Z Z<|.gF Z Z Z Z<|.gF Z Z Z Z<|.yv (.pickF Z Z) Z<|.a Z Z<|.nt<|.cF Z<|.sr<|.m Z Z<|.yv (.nilCheck Z) Z<|.yv (.fieldAddr Z Fx.field27_0) Z<|.yv (.loadM Z Fx.agg24 hm (k := 0) Z Z) Z<|.yv (.eql Z Z) Z<|.a Z Z<|.nt<|.cd Z (fun h34 => ?_) (fun h34 => ?_)
 ·try simp only [dt] at h34
  have h34 : op = 1 := UInt8.toNat_inj.1 (by show op.toNat = 1;omega)
  refine .sr<|.m Z Z<|.yv (.nilCheck Z) Z<|.yv (.fieldAddr Z Fx.field27_2) Z<|.yv (.loadM Z Fx.agg2 hm (k := 2) Z Z) Z<|.yv (.geq Z Z) Z<|.a Z Z<|.nt<|.rt<|.bR<|.tR<|?_
  refine Sx.ret1 (.inl rfl) rfl (.tmp rfl) fun W s => ⟨retB ?_,s.ext⟩
  first
   | (simp only [frmE];cases ho : okOp op <;> cases hs2 : (shapeOf op).nm <;> simp_all [Int.natCast_inj])
 try simp only [df] at h34
 have h34 : ¬ op = 1 := fun e => h34 (by rw [e];rfl)
 refine .sk<|.bN<|.tN<|.sr<|.m Z Z<|.yv (.nilCheck Z) Z<|.yv (.fieldAddr Z Fx.field27_2) Z<|.yv (.loadM Z Fx.agg2 hm (k := 2) Z Z) Z<|.yv (.eql Z Z) Z<|.a Z Z<|.nt<|.rt<|?_
 refine Sx.ret1 (.inl rfl) rfl (.tmp rfl) fun W s => ⟨retB ?_,s.ext⟩
 first
  | (simp only [frmE];cases ho : okOp op <;> cases hs2 : (shapeOf op).nm <;> simp_all [Int.natCast_inj])
theorem Fx.agg159 : aggN Tryz.prog 159 = Option.some Option.none := by kernel_rfl
theorem Fx.agg206 : aggN Tryz.prog 206 = Option.some Option.none := by kernel_rfl
theorem Fx.call105 : callN Tryz.prog 105 = Bool.true := by kernel_rfl
theorem Fx.call108 : callN Tryz.prog 108 = Bool.true := by kernel_rfl
theorem Fx.call141 : callN Tryz.prog 141 = Bool.true := by kernel_rfl
theorem Fx.call142 : callN Tryz.prog 142 = Bool.true := by kernel_rfl
theorem Fx.field208_0 : fieldN Tryz.prog 208 0 = Option.some 0 := by kernel_rfl
theorem Fx.field208_1 : fieldN Tryz.prog 208 1 = Option.some 1 := by kernel_rfl
theorem Fx.field208_2 : fieldN Tryz.prog 208 2 = Option.some 2 := by kernel_rfl
theorem Fx.field208_3 : fieldN Tryz.prog 208 3 = Option.some 3 := by kernel_rfl
theorem Fx.field208_4 : fieldN Tryz.prog 208 4 = Option.some 4 := by kernel_rfl
theorem Fx.field208_5 : fieldN Tryz.prog 208 5 = Option.some 5 := by kernel_rfl
theorem Fx.field236_0 : fieldN Tryz.prog 236 0 = Option.some 0 := by kernel_rfl
theorem Fx.field236_1 : fieldN Tryz.prog 236 1 = Option.some 1 := by kernel_rfl
theorem Fx.field236_2 : fieldN Tryz.prog 236 2 = Option.some 2 := by kernel_rfl
theorem Fx.field236_3 : fieldN Tryz.prog 236 3 = Option.some 3 := by kernel_rfl
theorem Fx.field236_4 : fieldN Tryz.prog 236 4 = Option.some 4 := by kernel_rfl
theorem Fx.field236_5 : fieldN Tryz.prog 236 5 = Option.some 5 := by kernel_rfl
theorem Fx.sl159 : slN Tryz.prog 159 = Option.some 6 := by kernel_rfl
end Go.Proofs.YthhoebdlfjffkaaGreatDoor
