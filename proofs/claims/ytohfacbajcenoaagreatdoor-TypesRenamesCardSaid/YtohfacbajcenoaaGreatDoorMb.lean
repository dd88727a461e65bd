/- Texts of the proof, one behind the other. -/
import Derived.Test.YtohfacbajcenoaaGreatDoorMa
import Derived.Lib.ItoaNum
import Derived.Lib.Join
import Derived.Lib.ItoaLen
import Derived.Test.YtohfacbajcenoaaGreatDoorProg
set_option linter.all false
set_option maxRecDepth 100000
namespace Go.Proofs.YtohfacbajcenoaaGreatDoor
open Go.RowKit Go.Par Go.Sx
abbrev Str := List UInt8
def strV (l : Str) : Value := .string ⟨l.toArray⟩
inductive Ex where
 | mk (op : UInt8) (nm : Str) (n : Int64) (args : List Ex)
inductive Sm where
 | mk (kind : UInt8) (nm hd : Str) (ex : List Ex) (th el : List Sm)
def Ex.op : Ex → UInt8 | .mk op _ _ _ => op
def Ex.nm : Ex → Str | .mk _ nm _ _ => nm
def Ex.n : Ex → Int64 | .mk _ _ n _ => n
def Ex.args : Ex → List Ex | .mk _ _ _ args => args
mutual
def dEx (k : IntKind) : Ex → D
 | .mk op nm n args => .str [.val (.int k op.toNat),.val (strV nm),.val (.int .i64 n.toInt),.seq 4 (dExs k args)]
def dExs (k : IntKind) : List Ex → List D
 | [] => []
 | e :: r => dEx k e :: dExs k r
end
theorem dExs_map (k : IntKind) : ∀ l,dExs k l = l.map (dEx k)
 | [] => rfl
 | e :: r => by rw [dExs,dExs_map k r];rfl
theorem dEx_mk (k : IntKind) (op : UInt8) (nm : Str) (n : Int64) (args : List Ex) : dEx k (.mk op nm n args) = .str [.val (.int k op.toNat),.val (strV nm),.val (.int .i64 n.toInt),.seq 4 (args.map (dEx k))] := by rw [dEx,dExs_map]
mutual
def dSm (k : IntKind) : Sm → D
 | .mk kd nm hd ex th el => .str [.val (.int k kd.toNat),.val (strV nm),.val (strV hd),.seq 4 (ex.map (dEx k)),.seq 6 (dSms k th),.seq 6 (dSms k el)]
def dSms (k : IntKind) : List Sm → List D
 | [] => []
 | e :: r => dSm k e :: dSms k r
end
theorem dSms_map (k : IntKind) : ∀ l,dSms k l = l.map (dSm k)
 | [] => rfl
 | e :: r => by rw [dSms,dSms_map k r];rfl
theorem dSm_mk (k : IntKind) (kd : UInt8) (nm hd : Str) (ex : List Ex) (th el : List Sm) : dSm k (.mk kd nm hd ex th el) = .str [.val (.int k kd.toNat),.val (strV nm),.val (strV hd),.seq 4 (ex.map (dEx k)),.seq 6 (th.map (dSm k)),.seq 6 (el.map (dSm k))] := by rw [dSm,dSms_map,dSms_map]
theorem Ex.ind {C : Ex → Prop} (h : ∀ op nm n args,(∀ a ∈ args,C a) → C (.mk op nm n args)) : ∀ e,C e
 | .mk op nm n args => h op nm n args fun a ha => Ex.ind h a
termination_by e => SizeOf.sizeOf e
decreasing_by
 have := List.sizeOf_lt_of_mem ha;simp;omega
theorem Sm.ind {C : Sm → Prop} (h : ∀ kd nm hd ex th el,(∀ a ∈ th,C a) → (∀ a ∈ el,C a) → C (.mk kd nm hd ex th el)) : ∀ e,C e
 | .mk kd nm hd ex th el => h kd nm hd ex th el (fun a ha => Sm.ind h a) (fun a ha => Sm.ind h a)
termination_by e => SizeOf.sizeOf e
decreasing_by
 all_goals
  have := List.sizeOf_lt_of_mem ha;simp;omega
structure Hd where
 nm : Str
 ps : List Str
 body : List Sm
structure Vr where
 nm : Str
 ty : UInt8
 init : Int64
structure Cp where
 nm : Str
 vars : List Vr
 vers : List (List Hd)
structure Fg where
 nm : Str
 init : Bool
structure Lk where
 fr : Str
 to : Str
 lat : Int64
structure Ft where
 nm : Str
 flags : List Fg
 links : List Lk
 comps : List Cp
def dStr (s : Str) : D := .val (strV s)
def dStrL (s : Str) : D := .any (strV s)
def dPs (k : IntKind) (l : List Str) : D := if k = .i64 then .ps (l.map strV) else .seq 1 (l.map dStr)
def dHd (k : IntKind) (h : Hd) : D := .str [.val (strV h.nm),dPs k h.ps,.seq 6 (h.body.map (dSm k))]
def dVr (k : IntKind) (v : Vr) : D := .str [.val (strV v.nm),.val (.int k v.ty.toNat),.val (.int .i64 v.init.toInt)]
def dVs (k : IntKind) (v : List Hd) : D := .seq 3 (v.map (dHd k))
def dCp (k : IntKind) (c : Cp) : D := .str [.val (strV c.nm),.seq 3 (c.vars.map (dVr k)),.seq 1 (c.vers.map (dVs k))]
def dFg (f : Fg) : D := .str [.val (strV f.nm),.val (.bool f.init)]
def dLk (l : Lk) : D := .str [.val (strV l.fr),.val (strV l.to),.val (.int .i64 l.lat.toInt)]
def dFt (k : IntKind) (f : Ft) : D := .str [.val (strV f.nm),.seq 2 (f.flags.map dFg),.seq 3 (f.links.map dLk),.seq 3 (f.comps.map (dCp k))]
/-! ### Structs opened and shut -/
section
variable {H : Hp}
theorem repV {v : Value} (h : v.oneCell' = true) (k : okV v) : Rep H (.val v) [v] := by unfold Rep;exact ⟨rfl,h,k⟩
theorem okS {l : Str} : okV (strV l) ↔ l.length ≤ 1000000 := by simp [okV,strV,ByteArray.size]
theorem repL_cons {d : D} {ds : List D} {l : List Value} : RepL H (d :: ds) l ↔ ∃ x y,l = x ++ y ∧ Rep H d x ∧ RepL H ds y := by
 constructor
 ·intro h;unfold RepL at h;exact h
 ·intro h;unfold RepL;exact h
theorem repL_nil {l : List Value} : RepL H [] l ↔ l = [] := by
 constructor
 ·intro h;unfold RepL at h;exact h
 ·intro h;unfold RepL;exact h
theorem repS {ds : List D} {l : List Value} : Rep H (.str ds) l ↔ RepL H ds l := by
 constructor
 ·intro h;unfold Rep at h;exact h
 ·intro h;unfold Rep;exact h
theorem repL_val {v : Value} {ds : List D} {l : List Value} : RepL H (.val v :: ds) l ↔ ∃ y,l = v :: y ∧ v.oneCell' = true ∧ okV v ∧ RepL H ds y := by
 rw [repL_cons]
 constructor
 ·rintro ⟨x,y,rfl,hx,hy⟩;unfold Rep at hx;obtain ⟨rfl,h,k⟩ := hx;exact ⟨y,rfl,h,k,hy⟩
 ·rintro ⟨y,rfl,h,k,hy⟩;exact ⟨[v],y,rfl,repV h k,hy⟩
theorem repL_seq {z : Nat} {es ds : List D} {l : List Value} : RepL H (.seq z es :: ds) l ↔ ∃ p c y,l = .slice p es.length c :: y ∧ Rep H (.seq z es) [.slice p es.length c] ∧ RepL H ds y := by
 rw [repL_cons]
 constructor
 ·rintro ⟨x,y,rfl,hx,hy⟩;obtain ⟨p,c,rfl,_⟩ := hx.sl;exact ⟨p,c,y,rfl,hx,hy⟩
 ·rintro ⟨p,c,y,rfl,hx,hy⟩;exact ⟨_,y,rfl,hx,hy⟩
theorem map_at {α β : Type} {f : α → β} {l : List α} {k : Nat} (h : k < l.length) : (l.map f)[k]? = some (f l[k]) := by simp [h]
theorem ex_open {k : IntKind} {op : UInt8} {nm : Str} {n : Int64} {args : List Ex} {cs : List Value} (h : Rep H (dEx k (.mk op nm n args)) cs) :
 ∃ p c,cs = [.int k op.toNat,strV nm,.int .i64 n.toInt,.slice p args.length c] ∧ Rep H (.seq 4 (args.map (dEx k))) [.slice p args.length c] ∧ nm.length ≤ 1000000 := by
 rw [dEx_mk,repS] at h;obtain ⟨_,rfl,_,_,h⟩ := repL_val.1 h;obtain ⟨_,rfl,_,hn,h⟩ := repL_val.1 h;obtain ⟨_,rfl,_,_,h⟩ := repL_val.1 h;obtain ⟨p,c,_,rfl,hs,h⟩ := repL_seq.1 h;rw [repL_nil] at h;subst h;rw [List.length_map] at hs ⊢;exact ⟨p,c,rfl,hs,okS.1 hn⟩
theorem ex_shut {k : IntKind} {op : UInt8} {nm : Str} {n : Int64} {args : List Ex} {s : Value} (hn : nm.length ≤ 1000000) (h : Rep H (.seq 4 (args.map (dEx k))) [s]) :
 Rep H (dEx k (.mk op nm n args)) [.int k op.toNat,strV nm,.int .i64 n.toInt,s] := by
 rw [dEx_mk,repS];exact repL_val.2 ⟨_,rfl,rfl,trivial,repL_val.2 ⟨_,rfl,rfl,okS.2 hn,repL_val.2 ⟨_,rfl,rfl,trivial,repL_cons.2 ⟨[s],[],rfl,h,repL_nil.2 rfl⟩⟩⟩⟩
theorem sm_open {k : IntKind} {kd : UInt8} {nm hd : Str} {ex : List Ex} {th el : List Sm} {cs : List Value} (h : Rep H (dSm k (.mk kd nm hd ex th el)) cs) :
 ∃ p c p1 c1 p2 c2,cs = [.int k kd.toNat,strV nm,strV hd,.slice p ex.length c,.slice p1 th.length c1,.slice p2 el.length c2] ∧ Rep H (.seq 4 (ex.map (dEx k))) [.slice p ex.length c] ∧ Rep H (.seq 6 (th.map (dSm k))) [.slice p1 th.length c1] ∧ Rep H (.seq 6 (el.map (dSm k))) [.slice p2 el.length c2] ∧ nm.length ≤ 1000000 ∧ hd.length ≤ 1000000 := by
 rw [dSm_mk,repS] at h;obtain ⟨_,rfl,_,_,h⟩ := repL_val.1 h;obtain ⟨_,rfl,_,hn,h⟩ := repL_val.1 h;obtain ⟨_,rfl,_,hm,h⟩ := repL_val.1 h;obtain ⟨p,c,_,rfl,hs,h⟩ := repL_seq.1 h;obtain ⟨p1,c1,_,rfl,hs1,h⟩ := repL_seq.1 h;obtain ⟨p2,c2,_,rfl,hs2,h⟩ := repL_seq.1 h;rw [repL_nil] at h;subst h;rw [List.length_map] at hs hs1 hs2;exact ⟨p,c,p1,c1,p2,c2,by rw [List.length_map,List.length_map,List.length_map],hs,hs1,hs2,okS.1 hn,okS.1 hm⟩
theorem sm_shut {k : IntKind} {kd : UInt8} {nm hd : Str} {ex : List Ex} {th el : List Sm} {s s1 s2 : Value} (hn : nm.length ≤ 1000000) (hm : hd.length ≤ 1000000) (h : Rep H (.seq 4 (ex.map (dEx k))) [s]) (h1 : Rep H (.seq 6 (th.map (dSm k))) [s1]) (h2 : Rep H (.seq 6 (el.map (dSm k))) [s2]) :
 Rep H (dSm k (.mk kd nm hd ex th el)) [.int k kd.toNat,strV nm,strV hd,s,s1,s2] := by
 rw [dSm_mk,repS];exact repL_val.2 ⟨_,rfl,rfl,trivial,repL_val.2 ⟨_,rfl,rfl,okS.2 hn,repL_val.2 ⟨_,rfl,rfl,okS.2 hm,repL_cons.2 ⟨[s],_,rfl,h,repL_cons.2 ⟨[s1],_,rfl,h1,repL_cons.2 ⟨[s2],[],rfl,h2,repL_nil.2 rfl⟩⟩⟩⟩⟩⟩
theorem dPs_seq {k : IntKind} {l : List Str} {cs : List Value} (h : Rep H (dPs k l) cs) : Rep H (.seq 1 (l.map dStr)) cs := by
 unfold dPs at h
 split at h
 ·have := h.ps_seq;rw [List.map_map] at this;exact this
 ·exact h
theorem repL_ps {k : IntKind} {es : List Str} {ds : List D} {l : List Value} : RepL H (dPs k es :: ds) l ↔ ∃ p c y,l = .slice p es.length c :: y ∧ Rep H (dPs k es) [.slice p es.length c] ∧ RepL H ds y := by
 rw [repL_cons]
 constructor
 ·rintro ⟨x,y,rfl,hx,hy⟩;obtain ⟨p,c,rfl,_⟩ := (dPs_seq hx).sl;rw [List.length_map] at hx ⊢;exact ⟨p,c,y,rfl,hx,hy⟩
 ·rintro ⟨p,c,y,rfl,hx,hy⟩;exact ⟨_,y,rfl,hx,hy⟩
theorem hd_openP {k : IntKind} {x : Hd} {cs : List Value} (h : Rep H (dHd k x) cs) :
 ∃ p1 c1 p2 c2,cs = [strV x.nm,.slice p1 x.ps.length c1,.slice p2 x.body.length c2] ∧ x.nm.length ≤ 1000000 ∧ Rep H (dPs k x.ps) [.slice p1 x.ps.length c1] ∧ Rep H (.seq 6 (x.body.map (dSm k))) [.slice p2 x.body.length c2] := by
 rw [dHd,repS] at h;obtain ⟨_,rfl,_,k0,h⟩ := repL_val.1 h;obtain ⟨p1,c1,_,rfl,k1,h⟩ := repL_ps.1 h;obtain ⟨p2,c2,_,rfl,k2,h⟩ := repL_seq.1 h;rw [repL_nil] at h;subst h;exact ⟨p1,c1,p2,c2,by simp,okS.1 k0,k1,(by simpa using k2)⟩
theorem hd_open {k : IntKind} {x : Hd} {cs : List Value} (h : Rep H (dHd k x) cs) :
 ∃ p1 c1 p2 c2,cs = [strV x.nm,.slice p1 x.ps.length c1,.slice p2 x.body.length c2] ∧ x.nm.length ≤ 1000000 ∧ Rep H (.seq 1 (x.ps.map dStr)) [.slice p1 x.ps.length c1] ∧ Rep H (.seq 6 (x.body.map (dSm k))) [.slice p2 x.body.length c2] := by
 obtain ⟨p1,c1,p2,c2,e,h1,h2,h3⟩ := hd_openP h;exact ⟨p1,c1,p2,c2,e,h1,dPs_seq h2,h3⟩
theorem hd_shut {k : IntKind} {x : Hd} (k0 : x.nm.length ≤ 1000000) {s1 : Value} (k1 : Rep H (dPs k x.ps) [s1]) {s2 : Value} (k2 : Rep H (.seq 6 (x.body.map (dSm k))) [s2]) : Rep H (dHd k x) [strV x.nm,s1,s2] := by
 rw [dHd,repS];exact repL_val.2 ⟨_,rfl,rfl,okS.2 k0,repL_cons.2 ⟨[s1],_,rfl,k1,repL_cons.2 ⟨[s2],_,rfl,k2,repL_nil.2 rfl⟩⟩⟩
theorem vr_open {k : IntKind} {x : Vr} {cs : List Value} (h : Rep H (dVr k x) cs) :
 cs = [strV x.nm,.int k x.ty.toNat,.int .i64 x.init.toInt] ∧ x.nm.length ≤ 1000000 := by
 rw [dVr,repS] at h;obtain ⟨_,rfl,_,k0,h⟩ := repL_val.1 h;obtain ⟨_,rfl,_,_,h⟩ := repL_val.1 h;obtain ⟨_,rfl,_,_,h⟩ := repL_val.1 h;rw [repL_nil] at h;subst h;exact ⟨by simp,okS.1 k0⟩
theorem vr_shut {k : IntKind} {x : Vr} (k0 : x.nm.length ≤ 1000000) : Rep H (dVr k x) [strV x.nm,.int k x.ty.toNat,.int .i64 x.init.toInt] := by
 rw [dVr,repS];exact repL_val.2 ⟨_,rfl,rfl,okS.2 k0,repL_val.2 ⟨_,rfl,rfl,trivial,repL_val.2 ⟨_,rfl,rfl,trivial,repL_nil.2 rfl⟩⟩⟩
theorem cp_open {k : IntKind} {x : Cp} {cs : List Value} (h : Rep H (dCp k x) cs) :
 ∃ p1 c1 p2 c2,cs = [strV x.nm,.slice p1 x.vars.length c1,.slice p2 x.vers.length c2] ∧ x.nm.length ≤ 1000000 ∧ Rep H (.seq 3 (x.vars.map (dVr k))) [.slice p1 x.vars.length c1] ∧ Rep H (.seq 1 (x.vers.map (dVs k))) [.slice p2 x.vers.length c2] := by
 rw [dCp,repS] at h;obtain ⟨_,rfl,_,k0,h⟩ := repL_val.1 h;obtain ⟨p1,c1,_,rfl,k1,h⟩ := repL_seq.1 h;obtain ⟨p2,c2,_,rfl,k2,h⟩ := repL_seq.1 h;rw [repL_nil] at h;subst h;exact ⟨p1,c1,p2,c2,by simp,okS.1 k0,(by simpa using k1),(by simpa using k2)⟩
theorem cp_shut {k : IntKind} {x : Cp} (k0 : x.nm.length ≤ 1000000) {s1 : Value} (k1 : Rep H (.seq 3 (x.vars.map (dVr k))) [s1]) {s2 : Value} (k2 : Rep H (.seq 1 (x.vers.map (dVs k))) [s2]) : Rep H (dCp k x) [strV x.nm,s1,s2] := by
 rw [dCp,repS];exact repL_val.2 ⟨_,rfl,rfl,okS.2 k0,repL_cons.2 ⟨[s1],_,rfl,k1,repL_cons.2 ⟨[s2],_,rfl,k2,repL_nil.2 rfl⟩⟩⟩
theorem fg_open {x : Fg} {cs : List Value} (h : Rep H (dFg x) cs) :
 cs = [strV x.nm,.bool x.init] ∧ x.nm.length ≤ 1000000 := by
 rw [dFg,repS] at h;obtain ⟨_,rfl,_,k0,h⟩ := repL_val.1 h;obtain ⟨_,rfl,_,_,h⟩ := repL_val.1 h;rw [repL_nil] at h;subst h;exact ⟨by simp,okS.1 k0⟩
theorem fg_shut {x : Fg} (k0 : x.nm.length ≤ 1000000) : Rep H (dFg x) [strV x.nm,.bool x.init] := by
 rw [dFg,repS];exact repL_val.2 ⟨_,rfl,rfl,okS.2 k0,repL_val.2 ⟨_,rfl,rfl,trivial,repL_nil.2 rfl⟩⟩
theorem lk_open {x : Lk} {cs : List Value} (h : Rep H (dLk x) cs) :
 cs = [strV x.fr,strV x.to,.int .i64 x.lat.toInt] ∧ x.fr.length ≤ 1000000 ∧ x.to.length ≤ 1000000 := by
 rw [dLk,repS] at h;obtain ⟨_,rfl,_,k0,h⟩ := repL_val.1 h;obtain ⟨_,rfl,_,k1,h⟩ := repL_val.1 h;obtain ⟨_,rfl,_,_,h⟩ := repL_val.1 h;rw [repL_nil] at h;subst h;exact ⟨by simp,okS.1 k0,okS.1 k1⟩
theorem lk_shut {x : Lk} (k0 : x.fr.length ≤ 1000000) (k1 : x.to.length ≤ 1000000) : Rep H (dLk x) [strV x.fr,strV x.to,.int .i64 x.lat.toInt] := by
 rw [dLk,repS];exact repL_val.2 ⟨_,rfl,rfl,okS.2 k0,repL_val.2 ⟨_,rfl,rfl,okS.2 k1,repL_val.2 ⟨_,rfl,rfl,trivial,repL_nil.2 rfl⟩⟩⟩
theorem ft_open {k : IntKind} {x : Ft} {cs : List Value} (h : Rep H (dFt k x) cs) :
 ∃ p1 c1 p2 c2 p3 c3,cs = [strV x.nm,.slice p1 x.flags.length c1,.slice p2 x.links.length c2,.slice p3 x.comps.length c3] ∧ x.nm.length ≤ 1000000 ∧ Rep H (.seq 2 (x.flags.map dFg)) [.slice p1 x.flags.length c1] ∧ Rep H (.seq 3 (x.links.map dLk)) [.slice p2 x.links.length c2] ∧ Rep H (.seq 3 (x.comps.map (dCp k))) [.slice p3 x.comps.length c3] := by
 rw [dFt,repS] at h;obtain ⟨_,rfl,_,k0,h⟩ := repL_val.1 h;obtain ⟨p1,c1,_,rfl,k1,h⟩ := repL_seq.1 h;obtain ⟨p2,c2,_,rfl,k2,h⟩ := repL_seq.1 h;obtain ⟨p3,c3,_,rfl,k3,h⟩ := repL_seq.1 h;rw [repL_nil] at h;subst h;exact ⟨p1,c1,p2,c2,p3,c3,by simp,okS.1 k0,(by simpa using k1),(by simpa using k2),(by simpa using k3)⟩
theorem ft_shut {k : IntKind} {x : Ft} (k0 : x.nm.length ≤ 1000000) {s1 : Value} (k1 : Rep H (.seq 2 (x.flags.map dFg)) [s1]) {s2 : Value} (k2 : Rep H (.seq 3 (x.links.map dLk)) [s2]) {s3 : Value} (k3 : Rep H (.seq 3 (x.comps.map (dCp k))) [s3]) : Rep H (dFt k x) [strV x.nm,s1,s2,s3] := by
 rw [dFt,repS];exact repL_val.2 ⟨_,rfl,rfl,okS.2 k0,repL_cons.2 ⟨[s1],_,rfl,k1,repL_cons.2 ⟨[s2],_,rfl,k2,repL_cons.2 ⟨[s3],_,rfl,k3,repL_nil.2 rfl⟩⟩⟩⟩
theorem vs_open {k : IntKind} {x : List Hd} {cs : List Value} (h : Rep H (dVs k x) cs) : ∃ p c,cs = [.slice p x.length c] ∧ Rep H (.seq 3 (x.map (dHd k))) [.slice p x.length c] := by
 rw [dVs] at h;obtain ⟨p,c,rfl,_⟩ := h.sl;rw [List.length_map] at h ⊢;exact ⟨p,c,rfl,h⟩
theorem str_open {x : Str} {cs : List Value} (h : Rep H (dStr x) cs) : cs = [strV x] ∧ x.length ≤ 1000000 := by
 unfold dStr Rep at h;exact ⟨h.1,okS.1 h.2.2⟩
theorem strL_open {x : Str} {cs : List Value} (h : Rep H (dStrL x) cs) : cs = [strV x] := by
 unfold dStrL Rep at h;exact h.1
theorem strL_shut (x : Str) : Rep H (dStrL x) [strV x] := by unfold dStrL Rep;exact ⟨rfl,rfl⟩
theorem repZ_long : ∀ {l : List Str} {cs : List Value},RepZ H 1 (l.map dStr) cs → RepZ H 1 (l.map dStrL) cs
 | [],cs,h => h
 | s :: r,cs,h => by
  rw [List.map_cons] at h ⊢;unfold RepZ at h ⊢;obtain ⟨x,y,h1,h2,h3,h4⟩ := h;exact ⟨x,y,h1,h2,by rw [(str_open h3).1];exact strL_shut s,repZ_long h4⟩
theorem rep_long {l : List Str} {v : Value} (h : Rep H (.seq 1 (l.map dStr)) [v]) : Rep H (.seq 1 (l.map dStrL)) [v] := by
 unfold Rep at h ⊢;obtain ⟨p,c,h1,h2,h3,h4⟩ := h;refine ⟨p,c,by simpa using h1,by simpa using h2,h3,?_⟩;rcases h4 with h4 | ⟨b,off,cs,h5,h6,h7,h8⟩
 ·exact .inl (by simpa using h4)
 ·exact .inr ⟨b,off,cs,h5,h6,repZ_long h7,fun e => h8 (by cases l with | nil => cases e | cons x r => rfl)⟩
theorem str_shut {x : Str} (h : x.length ≤ 1000000) : Rep H (dStr x) [strV x] := repV rfl (okS.2 h)
end
end Go.Proofs.YtohfacbajcenoaaGreatDoor
namespace Go.Proofs.YtohfacbajcenoaaGreatDoor
mutual
def Ex.depth : Ex → Nat
 | .mk _ _ _ args => Ex.deeps args + 1
def Ex.deeps : List Ex → Nat
 | [] => 0
 | e :: r => max (Ex.depth e) (Ex.deeps r)
end
theorem take_snoc {α : Type} {l : List α} {k : Nat} (h : k < l.length) : l.take (k + 1) = l.take k ++ [l[k]] := by simp
theorem deeps_app (a b : List Ex) : Ex.deeps (a ++ b) = max (Ex.deeps a) (Ex.deeps b) := by
 induction a with
 | nil => simp [Ex.deeps]
 | cons e r ih => simp only [List.cons_append,Ex.deeps,ih];omega
theorem deeps_succ {l : List Ex} {k : Nat} (h : k < l.length) : Ex.deeps (l.take (k + 1)) = max (Ex.deeps (l.take k)) (Ex.depth l[k]) := by
 rw [take_snoc h,deeps_app];simp [Ex.deeps]
theorem deeps_take (l : List Ex) (k : Nat) : Ex.deeps (l.take k) ≤ Ex.deeps l := by
 have := deeps_app (l.take k) (l.drop k);rw [List.take_append_drop] at this;omega
theorem deeps_mem {l : List Ex} {e : Ex} (h : e ∈ l) : Ex.depth e ≤ Ex.deeps l := by
 induction l with
 | nil => cases h
 | cons a r ih =>
  simp only [Ex.deeps];rcases List.mem_cons.1 h with rfl | h
  ·omega
  ·have := ih h;omega
theorem deeps_at {l : List Ex} {k : Nat} (h : k < l.length) : Ex.depth l[k] ≤ Ex.deeps l := deeps_mem (List.getElem_mem h)
theorem depth_mk (op : UInt8) (nm : Str) (n : Int64) (args : List Ex) : Ex.depth (.mk op nm n args) = Ex.deeps args + 1 := by rw [Ex.depth]
def Sm.kd : Sm → UInt8 | .mk kd _ _ _ _ _ => kd
def Sm.nm : Sm → Str | .mk _ nm _ _ _ _ => nm
def Sm.th : Sm → List Sm | .mk _ _ _ _ th _ => th
def Sm.el : Sm → List Sm | .mk _ _ _ _ _ el => el
theorem Sm.lists {C : List Sm → Prop} (h : ∀ l,(∀ s ∈ l,C s.th ∧ C s.el) → C l) : ∀ l,C l := by
 have key : ∀ s : Sm,C s.th ∧ C s.el := fun s => by
  induction s using Sm.ind with
  | _ kd nm hd ex th el ih1 ih2 => exact ⟨h th fun a ha => ih1 a ha,h el fun a ha => ih2 a ha⟩
 exact fun l => h l fun s _ => key s
mutual
def Sm.depth : Sm → Nat
 | .mk _ _ _ _ th el => max (Sm.deeps th) (Sm.deeps el) + 1
def Sm.deeps : List Sm → Nat
 | [] => 0
 | e :: r => max (Sm.depth e) (Sm.deeps r)
end
mutual
def Sm.count : Sm → Nat
 | .mk _ _ _ _ th el => Sm.counts th + Sm.counts el + 1
def Sm.counts : List Sm → Nat
 | [] => 0
 | e :: r => Sm.count e + Sm.counts r
end
theorem sdeeps_app (a b : List Sm) : Sm.deeps (a ++ b) = max (Sm.deeps a) (Sm.deeps b) := by
 induction a with
 | nil => simp [Sm.deeps]
 | cons e r ih => simp only [List.cons_append,Sm.deeps,ih];omega
theorem sdeeps_succ {l : List Sm} {k : Nat} (h : k < l.length) : Sm.deeps (l.take (k + 1)) = max (Sm.deeps (l.take k)) (Sm.depth l[k]) := by
 rw [take_snoc h,sdeeps_app];simp [Sm.deeps]
theorem sdeeps_take (l : List Sm) (k : Nat) : Sm.deeps (l.take k) ≤ Sm.deeps l := by
 have := sdeeps_app (l.take k) (l.drop k);rw [List.take_append_drop] at this;omega
theorem scounts_app (a b : List Sm) : Sm.counts (a ++ b) = Sm.counts a + Sm.counts b := by
 induction a with
 | nil => simp [Sm.counts]
 | cons e r ih => simp only [List.cons_append,Sm.counts,ih];omega
theorem scounts_succ {l : List Sm} {k : Nat} (h : k < l.length) : Sm.counts (l.take (k + 1)) = Sm.counts (l.take k) + Sm.count l[k] := by
 rw [take_snoc h,scounts_app];simp [Sm.counts]
theorem scounts_take (l : List Sm) (k : Nat) : Sm.counts (l.take k) ≤ Sm.counts l := by
 have := scounts_app (l.take k) (l.drop k);rw [List.take_append_drop] at this;omega
theorem scount_mk (kd : UInt8) (nm hd : Str) (ex : List Ex) (th el : List Sm) : Sm.count (.mk kd nm hd ex th el) = Sm.counts th + Sm.counts el + 1 := by rw [Sm.count]
theorem sdepth_mk (kd : UInt8) (nm hd : Str) (ex : List Ex) (th el : List Sm) : Sm.depth (.mk kd nm hd ex th el) = max (Sm.deeps th) (Sm.deeps el) + 1 := by rw [Sm.depth]
theorem scounts_len (l : List Sm) : l.length ≤ Sm.counts l := by
 induction l with
 | nil => simp
 | cons e r ih =>
  obtain ⟨kd,nm,hd,ex,th,el⟩ := e;simp only [List.length_cons,Sm.counts,scount_mk];omega
end Go.Proofs.YtohfacbajcenoaaGreatDoor
namespace Go.Proofs.YtohfacbajcenoaaGreatDoor
open Go.RowKit Go.Par Go.Sx
def letB (c : UInt8) : Bool := (decide (97 ≤ c.toNat) && decide (c.toNat ≤ 122)) || (decide (65 ≤ c.toNat) && decide (c.toNat ≤ 90))
def digB (c : UInt8) : Bool := decide (48 ≤ c.toNat) && decide (c.toNat ≤ 57)
def insB (c : UInt8) : Bool := letB c || digB c || decide (c.toNat = 95)
def words : List Str := [[97,102,116,101,114],[97,108,119,97,121,115],[97,110,100],[97,114,114,105,118,101,115],[98,111,111,108],[99,111,109,112,111,110,101,110,116],[99,111,117,110,116],[100,101,108,101,116,101],[100,111],[101,108,115,101],[101,120,105,115,116,115],[102,97,108,115,101],[102,101,116,99,104],[102,108,97,103],[102,108,101,101,116],[102,111,114,97,108,108],[104,97,115],[105,102],[105,109,112,108,105,101,115],[105,110],[105,110,116],[108,97,116,101,110,99,121],[108,105,110,107],[110,111,116],[110,111,119],[111,110],[111,110,99,101],[111,114],[112,114,101,118,105,111,117,115],[115,101,110,100],[115,105,110,99,101],[115,105,122,101],[115,116,111,112],[115,116,111,114,101],[116,97,98,108,101],[116,114,117,101],[118,97,114],[118,101,114,115,105,111,110],[119,104,105,108,101]]
def symbols : List Str := [[46,46],[61,61],[33,61],[60,61],[62,61],[45,62],[123],[125],[40],[41],[91],[93],[44],[59],[58],[46],[61],[60],[62],[43],[45],[42],[47],[37],[95]]
def pre (q : UInt8 → Bool) (l : Str) : Nat := (l.takeWhile q).length
theorem pre_le (q : UInt8 → Bool) (l : Str) : pre q l ≤ l.length := by
 unfold pre;induction l with
 | nil => simp
 | cons a r ih => rw [List.takeWhile_cons];split <;> simp;omega
theorem pre_step {q : UInt8 → Bool} : ∀ {l : Str} {k : Nat} (h : k < l.length),k ≤ pre q l → q l[k] = true → k + 1 ≤ pre q l
 | [],k,h,_,_ => by simp at h
 | a :: r,0,h,_,hq => by
  unfold pre;rw [List.takeWhile_cons];simp at hq;simp [hq]
 | a :: r,k + 1,h,hk,hq => by
  unfold pre at hk ⊢;rw [List.takeWhile_cons] at hk ⊢;cases ha : q a with
  | false => rw [ha] at hk;simp at hk
  | true =>
   rw [ha] at hk;simp at hk hq;have := pre_step (l := r) (k := k) (by simpa using h) hk hq;unfold pre at this;simp;omega
theorem pre_stop {q : UInt8 → Bool} : ∀ {l : Str} {k : Nat} (h : k < l.length),k ≤ pre q l → q l[k] = false → k = pre q l
 | [],k,h,_,_ => by simp at h
 | a :: r,0,h,_,hq => by
  unfold pre;rw [List.takeWhile_cons];simp at hq;simp [hq]
 | a :: r,k + 1,h,hk,hq => by
  unfold pre at hk ⊢;rw [List.takeWhile_cons] at hk ⊢;cases ha : q a with
  | false => rw [ha] at hk;simp at hk
  | true =>
   rw [ha] at hk;simp at hk hq;have := pre_stop (l := r) (k := k) (by simpa using h) hk hq;unfold pre at this;simp;omega
def readK (l : Str) : UInt8 × Nat :=
 let c := l.headD 0
 if letB c then
  if words.contains (l.take (pre insB l)) then (2,pre insB l) else if pre insB l ≤ 12 then (1,pre insB l) else (5,l.length)
 else if digB c then
  if pre digB l = 1 ∨ c ≠ 48 then (3,pre digB l) else (5,l.length)
 else match symbols.find? (fun x => x.isPrefixOf l) with
  | some x => (4,x.length)
  | none => (5,l.length)
def nameB (l : Str) : Bool := decide (l ≠ []) && (readK l).1 == 1 && decide ((readK l).2 = l.length)
def hasP (l m : Str) : Bool := decide (m.length ≤ l.length) && decide (l.take m.length = m)
theorem hasP_pre (l m : Str) : hasP l m = m.isPrefixOf l := by
 rw [Bool.eq_iff_iff];simp only [hasP,Bool.and_eq_true,decide_eq_true_eq,List.isPrefixOf_iff_prefix]
 constructor
 ·rintro ⟨_,h⟩;have := List.take_append_drop m.length l;rw [h] at this;exact ⟨_,this⟩
 ·rintro ⟨t,rfl⟩;simp
theorem getD_at {α : Type} {l : List α} {k : Nat} (h : k < l.length) (d : α) : l.getD k d = l[k] := by simp [h]
theorem list_at {α β : Type} {f : α → β} {l : List α} {k : Nat} (h : k < l.length) (d : α) : (l.map f)[k]? = some (f (l.getD k d)) := by simp [h]
structure Shp where
 n : Nat
 nm : Bool
 lv : Nat
 tx : Str
structure Frm where
 nm : Bool
 hd : Bool
 lo : Nat
 hi : Nat
 th : Bool
 el : Bool
def shapes : List Shp := [⟨0,false,0,[]⟩,⟨0,false,7,[]⟩,⟨0,false,7,[116,114,117,101]⟩,⟨0,false,7,[102,97,108,115,101]⟩,⟨0,false,7,[110,111,119]⟩,⟨0,true,7,[]⟩,⟨1,true,7,[]⟩,⟨1,true,7,[104,97,115,32]⟩,⟨0,true,7,[115,105,122,101,32]⟩,⟨1,false,6,[45]⟩,⟨1,false,6,[110,111,116,32]⟩,⟨2,false,5,[32,42,32]⟩,⟨2,false,5,[32,47,32]⟩,⟨2,false,5,[32,37,32]⟩,⟨2,false,4,[32,43,32]⟩,⟨2,false,4,[32,45,32]⟩,⟨2,false,3,[32,61,61,32]⟩,⟨2,false,3,[32,33,61,32]⟩,⟨2,false,3,[32,60,32]⟩,⟨2,false,3,[32,60,61,32]⟩,⟨2,false,3,[32,62,32]⟩,⟨2,false,3,[32,62,61,32]⟩,⟨2,false,2,[32,97,110,100,32]⟩,⟨2,false,1,[32,111,114,32]⟩]
def forms : List Frm := [⟨false,false,0,0,false,false⟩,⟨true,false,1,1,false,false⟩,⟨true,false,2,2,false,false⟩,⟨true,false,1,1,false,false⟩,⟨false,false,1,1,true,true⟩,⟨false,false,1,1,true,false⟩,⟨true,true,0,4,false,false⟩,⟨false,true,1,5,false,false⟩,⟨false,false,2,2,false,true⟩,⟨true,false,1,1,false,true⟩,⟨false,false,0,0,false,false⟩]
def shapeC (s : Shp) : List Value := [.int .i64 (s.n : Nat),.bool s.nm,.int .i64 (s.lv : Nat),strV s.tx]
def formC (s : Frm) : List Value := [.bool s.nm,.bool s.hd,.int .i64 (s.lo : Nat),.int .i64 (s.hi : Nat),.bool s.th,.bool s.el]
def okOp (op : UInt8) : Bool := decide (1 ≤ op.toNat) && decide (op.toNat ≤ 23)
def okKd (op : UInt8) : Bool := decide (1 ≤ op.toNat) && decide (op.toNat ≤ 10)
def shapeOf (op : UInt8) : Shp := if okOp op then shapes.getD op.toNat ⟨0,false,0,[]⟩ else ⟨0,false,0,[]⟩
def formOf (op : UInt8) : Frm := if okKd op then forms.getD op.toNat ⟨false,false,0,0,false,false⟩ else ⟨false,false,0,0,false,false⟩
theorem flat_at {α : Type} {f : α → List Value} {z : Nat} (hz : ∀ a,(f a).length = z) : ∀ {l : List α} {i : Nat} (d : α),i < l.length → ∀ (j : Nat) u,(f (l.getD i d))[j]? = some u → (l.flatMap f)[i * z + j]? = some u
 | [],i,d,h,j,u,e => by simp at h
 | a :: r,0,d,h,j,u,e => by
  simp only [List.flatMap_cons,Nat.zero_mul,Nat.zero_add];simp at e;rw [List.getElem?_append_left (List.getElem?_eq_some_iff.1 e).1];exact e
 | a :: r,i + 1,d,h,j,u,e => by
  simp only [List.flatMap_cons];rw [List.getElem?_append_right (by rw [hz,Nat.succ_mul];omega),hz,show (i + 1) * z + j - z = i * z + j by rw [Nat.succ_mul];omega];exact flat_at hz d (by simpa using h) j u (by simpa using e)
structure Gl (H : Hp) : Prop where
 shapes : MemAt H 0 0 (shapes.flatMap shapeC)
 forms : MemAt H 2 0 (forms.flatMap formC)
 words : MemAt H 3 0 (words.map strV)
 symbols : MemAt H 1 0 (symbols.map strV)
theorem Gl.up {H H' : Hp} (g : Gl H) (u : Up H H') : Gl H' := ⟨g.shapes.up u,g.forms.up u,g.words.up u,g.symbols.up u⟩
mutual
def Ex.all (q : Ex → Bool) : Ex → Bool
 | .mk op nm n args => q (.mk op nm n args) && Ex.alls q args
def Ex.alls (q : Ex → Bool) : List Ex → Bool
 | [] => true
 | e :: r => Ex.all q e && Ex.alls q r
end
theorem alls_app (q : Ex → Bool) (a b : List Ex) : Ex.alls q (a ++ b) = (Ex.alls q a && Ex.alls q b) := by
 induction a with
 | nil => simp [Ex.alls]
 | cons e r ih => simp only [List.cons_append,Ex.alls,ih,Bool.and_assoc]
theorem alls_succ {q : Ex → Bool} {l : List Ex} {k : Nat} (h : k < l.length) : Ex.alls q (l.take (k + 1)) = (Ex.alls q (l.take k) && Ex.all q l[k]) := by
 rw [take_snoc h,alls_app];simp [Ex.alls]
theorem alls_bad {q : Ex → Bool} {l : List Ex} {k : Nat} (h : k < l.length) (hb : Ex.all q l[k] = false) : Ex.alls q l = false := by
 have h1 := alls_app q (l.take (k + 1)) (l.drop (k + 1));rw [List.take_append_drop,alls_succ h,hb] at h1;simpa using h1
theorem all_mk (q : Ex → Bool) (op : UInt8) (nm : Str) (n : Int64) (args : List Ex) : Ex.all q (.mk op nm n args) = (q (.mk op nm n args) && Ex.alls q args) := by rw [Ex.all]
mutual
def Sm.all (q : Sm → Bool) : Sm → Bool
 | .mk kd nm hd ex th el => q (.mk kd nm hd ex th el) && Sm.alls q th && Sm.alls q el
def Sm.alls (q : Sm → Bool) : List Sm → Bool
 | [] => true
 | e :: r => Sm.all q e && Sm.alls q r
end
theorem salls_app (q : Sm → Bool) (a b : List Sm) : Sm.alls q (a ++ b) = (Sm.alls q a && Sm.alls q b) := by
 induction a with
 | nil => simp [Sm.alls]
 | cons e r ih => simp only [List.cons_append,Sm.alls,ih,Bool.and_assoc]
theorem salls_succ {q : Sm → Bool} {l : List Sm} {k : Nat} (h : k < l.length) : Sm.alls q (l.take (k + 1)) = (Sm.alls q (l.take k) && Sm.all q l[k]) := by
 rw [take_snoc h,salls_app];simp [Sm.alls]
theorem salls_bad {q : Sm → Bool} {l : List Sm} {k : Nat} (h : k < l.length) (hb : Sm.all q l[k] = false) : Sm.alls q l = false := by
 have h1 := salls_app q (l.take (k + 1)) (l.drop (k + 1));rw [List.take_append_drop,salls_succ h,hb] at h1;simpa using h1
theorem sall_mk (q : Sm → Bool) (kd : UInt8) (nm hd : Str) (ex : List Ex) (th el : List Sm) : Sm.all q (.mk kd nm hd ex th el) = (q (.mk kd nm hd ex th el) && Sm.alls q th && Sm.alls q el) := by rw [Sm.all]
theorem salls_at {q : Sm → Bool} {l : List Sm} {k : Nat} (h : k < l.length) (ha : Sm.alls q l = true) : Sm.all q l[k] = true := by
 cases hb : Sm.all q l[k] with
 | true => rfl
 | false => rw [salls_bad h hb] at ha;cases ha
def okS1 : Sm → Bool
 | .mk _ _ _ ex _ _ => ex.all fun x => decide (x.depth ≤ 1000000)
def namE : Ex → Bool
 | .mk op nm _ _ => !(shapeOf op).nm || nameB nm
def frmE : Ex → Bool
 | .mk op nm n args => okOp op && decide (args.length = (shapeOf op).n) && ((shapeOf op).nm || decide (nm = [])) && (if op = 1 then decide (0 ≤ n.toInt) else decide (n.toInt = 0))
def namS : Sm → Bool
 | .mk kd nm hd ex _ _ => (!(formOf kd).nm || nameB nm) && (!(formOf kd).hd || nameB hd) && Ex.alls namE ex
def frmS : Sm → Bool
 | .mk kd nm hd ex th el => okKd kd && decide ((formOf kd).lo ≤ ex.length) && decide (ex.length ≤ (formOf kd).hi) && ((formOf kd).nm || decide (nm = [])) && ((formOf kd).hd || decide (hd = [])) &&
  ((formOf kd).th || decide (th.length = 0)) && ((formOf kd).el || decide (el.length = 0)) && Ex.alls frmE ex
theorem frmS_eq (kd : UInt8) (nm hd : Str) (ex : List Ex) (th el : List Sm) : frmS (.mk kd nm hd ex th el) =
 (!(!okKd kd || decide ((ex.length : Int) < ((formOf kd).lo : Nat)) || decide (((formOf kd).hi : Nat) < (ex.length : Int))) && !((!(formOf kd).nm && decide (¬ nm = [])) || (!(formOf kd).hd && decide (¬ hd = []))) &&
  !((!(formOf kd).th && decide ((0 : Int) < th.length)) || (!(formOf kd).el && decide ((0 : Int) < el.length))) && Ex.alls frmE ex) := by
 have h1 : decide ((ex.length : Int) < ((formOf kd).lo : Nat)) = !decide ((formOf kd).lo ≤ ex.length) := by rw [Bool.eq_iff_iff];simp
 have h2 : decide (((formOf kd).hi : Nat) < (ex.length : Int)) = !decide (ex.length ≤ (formOf kd).hi) := by rw [Bool.eq_iff_iff];simp
 have h3 : decide ((0 : Int) < th.length) = !decide (th.length = 0) := by rw [Bool.eq_iff_iff];simp only [decide_eq_true_eq,Bool.not_eq_true',decide_eq_false_iff_not];omega
 have h4 : decide ((0 : Int) < el.length) = !decide (el.length = 0) := by rw [Bool.eq_iff_iff];simp only [decide_eq_true_eq,Bool.not_eq_true',decide_eq_false_iff_not];omega
 have h5 : decide (¬ nm = []) = !decide (nm = []) := by simp
 have h6 : decide (¬ hd = []) = !decide (hd = []) := by simp
 rw [frmS,h1,h2,h3,h4,h5,h6];generalize decide ((formOf kd).lo ≤ ex.length) = a1;generalize decide (ex.length ≤ (formOf kd).hi) = a2;generalize decide (th.length = 0) = a3;generalize decide (el.length = 0) = a4;generalize decide (nm = []) = a5;generalize decide (hd = []) = a6;cases okKd kd <;> cases a1 <;> cases a2 <;> cases (formOf kd).nm <;> cases a5 <;> cases (formOf kd).hd <;> cases a6 <;> cases (formOf kd).th <;> cases a3 <;> cases (formOf kd).el <;> cases a4 <;> simp
def smaS : Sm → Bool
 | .mk _ _ _ ex _ _ => ex.all fun x => decide (x.depth ≤ 8)
def smaH (h : Hd) : Bool := !(decide (4 < h.ps.length) || decide (40 < Sm.counts h.body) || decide (8 < Sm.deeps h.body)) && Sm.alls smaS h.body
def namH (h : Hd) : Bool := nameB h.nm && h.ps.all nameB && Sm.alls namS h.body
def frmH (h : Hd) : Bool := Sm.alls frmS h.body
def okH (h : Hd) : Bool := decide (Sm.counts h.body ≤ 1000000) && decide (Sm.deeps h.body ≤ 1000000) && Sm.alls okS1 h.body
def evH (q : Hd → Bool) (f : Ft) : Bool := f.comps.all fun c => c.vers.all fun v => v.all q
def frmV (v : Vr) : Bool := if v.ty = 1 then decide (v.init.toInt ≠ -9223372036854775808) else if v.ty = 2 then decide (v.init.toInt = 0 ∨ v.init.toInt = 1) else if v.ty = 3 then decide (v.init.toInt = 0) else false
theorem lall_succ {α : Type} {q : α → Bool} {l : List α} {k : Nat} (h : k < l.length) : (l.take (k + 1)).all q = ((l.take k).all q && q l[k]) := by
 rw [take_snoc h,List.all_append];simp
theorem lall_bad {α : Type} {q : α → Bool} {l : List α} {k : Nat} (h : k < l.length) (hb : q l[k] = false) : l.all q = false := by
 rw [List.all_eq_false];exact ⟨l[k],List.getElem_mem h,by simp [hb]⟩
theorem lall_at {α : Type} {q : α → Bool} {l : List α} {k : Nat} (h : k < l.length) (ha : l.all q = true) : q l[k] = true := List.all_eq_true.1 ha _ (List.getElem_mem h)
def cpAll (q : Hd → Bool) (c : Cp) : Bool := c.vers.all fun v => v.all q
theorem evH_eq (q : Hd → Bool) (f : Ft) : evH q f = f.comps.all (cpAll q) := rfl
def namF (f : Ft) : Bool := nameB f.nm && f.flags.all (fun x => nameB x.nm) && f.links.all (fun x => nameB x.fr && nameB x.to) && f.comps.all (fun c => nameB c.nm && c.vars.all fun v => nameB v.nm) && evH namH f
def lkB (x : Lk) : Bool := decide (1 ≤ x.lat.toInt) && decide (x.lat.toInt ≤ 50)
def frmF (f : Ft) : Bool := f.links.all lkB && f.comps.all (fun c => c.vars.all frmV) && evH frmH f
def stepH (ks : List Str) (h : Hd) : List Str := addK ks h.nm
def stepV (ks : List Str) (v : List Hd) : List Str := v.foldl stepH ks
def namesOf (c : Cp) : List Str := c.vers.foldl stepV []
theorem fold_succ {α β : Type} {f : β → α → β} {a : β} {l : List α} {k : Nat} (h : k < l.length) : (l.take (k + 1)).foldl f a = f ((l.take k).foldl f a) l[k] := by
 rw [take_snoc h,List.foldl_append];rfl
def limF (f : Ft) : Bool := decide (1 ≤ f.comps.length) && decide (f.comps.length ≤ 8) && decide (f.flags.length ≤ 8) && decide (f.links.length ≤ 64)
def smlC (c : Cp) : Bool := decide (c.vars.length ≤ 8) && decide (1 ≤ c.vers.length) && decide (c.vers.length ≤ 3) && decide ((namesOf c).length ≤ 8)
def smlF (f : Ft) : Bool := limF f && (f.comps.all smlC && evH smaH f)
def checkF (f : Ft) : Nat := if smlF f = false then 3 else if namF f = false then 9 else if frmF f = false then 6 else 0
def opT (least : Nat) (x : Nat × Str) : Str := if x.1 < least then [40] ++ x.2 ++ [41] else x.2
def lftT (lv : Nat) : Nat := if lv = 3 then lv + 1 else lv
def txt (op : UInt8) (nm : Str) (n : Int64) (ls : List (Nat × Str)) : Str :=
 if op = 1 then Lib.itoa n.toInt
 else if op = 5 ∨ op = 8 then (shapeOf op).tx ++ nm
 else if op = 6 ∨ op = 7 then (shapeOf op).tx ++ nm ++ [91] ++ (ls.getD 0 (0,[])).2 ++ [93]
 else if op = 9 ∨ op = 10 then (shapeOf op).tx ++ opT (shapeOf op).lv (ls.getD 0 (0,[]))
 else if (shapeOf op).n = 0 then (shapeOf op).tx
 else opT (lftT (shapeOf op).lv) (ls.getD 0 (0,[])) ++ (shapeOf op).tx ++ opT ((shapeOf op).lv + 1) (ls.getD 1 (0,[]))
end Go.Proofs.YtohfacbajcenoaaGreatDoor
namespace Go.Proofs.YtohfacbajcenoaaGreatDoor
open Go.RowKit Go.Par Go.Sx
open Go.RowKit Go.Par Go.Sx
end Go.Proofs.YtohfacbajcenoaaGreatDoor
namespace Go.Proofs.YtohfacbajcenoaaGreatDoor
open Go.RowKit Go.Par Go.Sx
theorem name_len {l : Str} (h : nameB l = true) : l.length ≤ 12 := by
 simp only [nameB,Bool.and_eq_true,decide_eq_true_eq,beq_iff_eq] at h;obtain ⟨⟨_,h1⟩,h2⟩ := h;unfold readK at h1 h2;dsimp only at h1 h2
 split at h1
 ·split at h1
  ·simp at h1
  ·split at h1
   ·rename_i a b c;simp only [a,b,c,if_true,Bool.false_eq_true,if_false] at h2;omega
   ·simp at h1
 ·split at h1
  ·split at h1 <;> simp at h1
  ·split at h1 <;> simp at h1
structure Nd where
 op : UInt8
 nm : UInt8
 ct : UInt8
 odd : Bool
 n : Int64
theorem rep_drop {H : Hp} {z b off n c lo : Nat} {ds : List D} (h : Rep H (.seq z ds) [.slice (some ⟨b,off,none⟩) n c]) (hl : lo ≤ n) : Rep H (.seq z (ds.drop lo)) [.slice (some (if c = lo then ⟨b,off,none⟩ else ⟨b,off + lo * z,none⟩)) (n - lo) (c - lo)] := by
 have hn := h.len
 by_cases hc : c = lo
 ·rw [if_pos hc];rw [show ds.drop lo = [] from List.drop_of_length_le (by omega),show n - lo = 0 by omega];exact .empty (by omega)
 ·rw [if_neg hc];unfold Rep at h;obtain ⟨p',c',h1,h2,h3,h4⟩ := h;injection h1 with h1 _
  injection h1 with h5 h6 h7
  subst h5 h7;rcases h4 with h4 | ⟨b',off',cs,h8,h9,h10,h11⟩
  ·subst h4;rw [List.drop_nil,show n - lo = 0 by simp only [List.length_nil] at h6;omega];exact .empty (by omega)
  ·cases h8
   exact .mkM (h9.drop (lo * z)) (h10.drop lo) (by rw [List.length_drop];omega) (by omega) (by omega) fun e => by
    obtain ⟨k1,k2⟩ := h11 (D.txtL_sub (fun x => List.mem_of_mem_drop) e);exact ⟨k1,by rw [Nat.add_mul_mod_self_right];exact k2⟩
def narrow (e : Ex) : Bool := decide (e.args.length ≤ 3)
theorem narrow_mk (op : UInt8) (nm : Str) (n : Int64) (args : List Ex) : narrow (.mk op nm n args) = decide (args.length ≤ 3) := rfl
abbrev Bs := List UInt8
def dU8 (c : UInt8) : D := .val (.int .u8 c.toNat)
def dNat (n : Nat) : D := .val (.int .i64 (n : Nat))
def dAr (l : List Nat) : D := .seq 1 (l.map dNat)
structure Mk where
 ints : Nat
 tables : Nat
 flags : Nat
 own : Nat
 ars : List (List Nat)
 params : Nat
def nextB (b : Bs) (n : Nat) : Nat × Bs := match b with | [] => (0,[]) | c :: r => (c.toNat % n,r)
theorem nextB_lt (b : Bs) {n : Nat} (h : 0 < n) : (nextB b n).1 < n := by
 cases b with
 | nil => exact h
 | cons c r => exact Nat.mod_lt _ h
def nmB (c : UInt8) (k : Nat) : Str := [c,UInt8.ofNat (48 + k)]
def namesB (c : UInt8) (n : Nat) : List Str := (List.range n).map (nmB c)
theorem namesB_succ (c : UInt8) (n : Nat) : namesB c (n + 1) = namesB c n ++ [nmB c n] := by simp [namesB,List.range_succ]
theorem namesB_len (c : UInt8) (n : Nat) : (namesB c n).length = n := by simp [namesB]
theorem namesB_at {c : UInt8} {n k : Nat} (h : k < n) : (namesB c n)[k]? = some (nmB c k) := by simp [namesB,h]
def numT (M : Mk) (d : Nat) (rec : Bs → Ex × Bs) (k : Nat) (b : Bs) : Ex × Bs :=
 if k < 2 ∨ (2 < d ∧ 5 < k) then (.mk 1 [] (Int64.ofNat (nextB b 9).1) [],(nextB b 9).2)
 else if k < 4 ∨ (k = 4 ∧ M.params = 0) then (.mk 5 (nmB 120 (nextB b M.ints).1) 0 [],(nextB b M.ints).2)
 else if k = 4 then (.mk 5 (nmB 112 (nextB b M.params).1) 0 [],(nextB b M.params).2)
 else if k = 5 then (.mk 4 [] 0 [],b)
 else if k = 6 ∧ 0 < M.tables then (.mk 6 [116,48] 0 [(rec b).1],(rec b).2)
 else if k = 7 ∧ 0 < M.tables then (.mk 8 [116,48] 0 [],b)
 else if k = 8 then (.mk 9 [] 0 [(rec b).1],(rec b).2)
 else (.mk (([14,15,11,12,13,14] : List UInt8).getD (nextB b 6).1 14) [] 0 [(rec (nextB b 6).2).1,(rec (rec (nextB b 6).2).2).1],(rec (rec (nextB b 6).2).2).2)
def numS (M : Mk) (d : Nat) (rec : Bs → Ex × Bs) (b0 : Bs) : Ex × Bs := numT M d rec (nextB b0 12).1 (nextB b0 12).2
def numE (M : Mk) : Nat → Bs → Ex × Bs
 | 0 => numS M 3 fun b => (.mk 1 [] 0 [],b)
 | f + 1 => numS M (2 - f) (numE M f)
def numL (M : Mk) : Nat → Bs → List Ex × Bs
 | 0,b => ([],b)
 | n + 1,b => ((numE M 2 b).1 :: (numL M n (numE M 2 b).2).1,(numL M n (numE M 2 b).2).2)
def truT (M : Mk) (d : Nat) (rec : Bs → Ex × Bs) (k : Nat) (b : Bs) : Ex × Bs :=
 if k = 0 then (.mk (2 + UInt8.ofNat (nextB b 2).1) [] 0 [],(nextB b 2).2)
 else if k = 1 ∨ (1 < d ∧ 4 < k) then (.mk 5 [98,48] 0 [],b)
 else if k = 2 ∧ 0 < M.flags then (.mk 5 (nmB 102 (nextB b M.flags).1) 0 [],(nextB b M.flags).2)
 else if k = 3 ∧ 0 < M.tables then (.mk 7 [116,48] 0 [(numE M 2 b).1],(numE M 2 b).2)
 else if k = 5 then (.mk 10 [] 0 [(rec b).1],(rec b).2)
 else if k = 6 ∨ k = 7 then (.mk (16 + UInt8.ofNat k) [] 0 [(rec b).1,(rec (rec b).2).1],(rec (rec b).2).2)
 else (.mk (16 + UInt8.ofNat (nextB b 6).1) [] 0 [(numE M 2 (nextB b 6).2).1,(numE M 2 (numE M 2 (nextB b 6).2).2).1],(numE M 2 (numE M 2 (nextB b 6).2).2).2)
def truS (M : Mk) (d : Nat) (rec : Bs → Ex × Bs) (b0 : Bs) : Ex × Bs := truT M d rec (nextB b0 10).1 (nextB b0 10).2
def truE (M : Mk) : Nat → Bs → Ex × Bs
 | 0 => truS M 2 fun b => (.mk 1 [] 0 [],b)
 | f + 1 => truS M (1 - f) (truE M f)
def arN (M : Mk) (c h : Nat) : Nat := (M.ars.getD c []).getD h 0
def arL (M : Mk) (c : Nat) : Nat := (M.ars.getD c []).length
def senT (M : Mk) (lf c h : Nat) (b : Bs) : Sm × (Bs × Nat) := (.mk 6 [UInt8.ofNat (97 + c)] (nmB 104 h) (numL M (arN M c h) b).1 [] [],((numL M (arN M c h) b).2,lf))
def aftT (M : Mk) (lf h : Nat) (e : Ex × Bs) : Sm × (Bs × Nat) := (.mk 7 [] (nmB 104 h) (e.1 :: (numL M (arN M M.own h) e.2).1) [] [],((numL M (arN M M.own h) e.2).2,lf))
def fetT (bd : Bs × Nat → List Sm × (Bs × Nat)) (lf x : Nat) (e : Ex × Bs) : Sm × (Bs × Nat) := (.mk 9 (nmB 120 x) [] [e.1] [] (bd (e.2,lf)).1,(bd (e.2,lf)).2)
def asgT (M : Mk) (lf : Nat) (b : Bs) : Sm × (Bs × Nat) := (.mk 1 (nmB 120 (nextB b M.ints).1) [] [(numE M 3 (nextB b M.ints).2).1] [] [],((numE M 3 (nextB b M.ints).2).2,lf))
def stmT (M : Mk) (k d : Nat) (bd : Bs × Nat → List Sm × (Bs × Nat)) (b : Bs) (lf : Nat) : Sm × (Bs × Nat) :=
 if k = 2 then (.mk 1 [98,48] [] [(truE M 2 b).1] [] [],((truE M 2 b).2,lf))
 else if k = 3 ∧ 0 < M.tables then (.mk 2 [116,48] [] [(numE M 3 b).1,(numE M 3 (numE M 3 b).2).1] [] [],((numE M 3 (numE M 3 b).2).2,lf))
 else if k = 4 ∧ 0 < M.tables then (.mk 3 [116,48] [] [(numE M 3 b).1] [] [],((numE M 3 b).2,lf))
 else if (k = 5 ∨ k = 6) ∧ d < 3 then
  (.mk 4 [] [] [(truE M 2 b).1] (bd ((truE M 2 b).2,lf)).1 (bd (bd ((truE M 2 b).2,lf)).2).1,(bd (bd ((truE M 2 b).2,lf)).2).2)
 else if k = 7 ∧ d < 2 then (.mk 5 [] [] [(truE M 2 b).1] (bd ((truE M 2 b).2,lf)).1 [],(bd ((truE M 2 b).2,lf)).2)
 else if k = 8 ∨ k = 9 then senT M lf (nextB b M.ars.length).1 (nextB (nextB b M.ars.length).2 (arL M (nextB b M.ars.length).1)).1 (nextB (nextB b M.ars.length).2 (arL M (nextB b M.ars.length).1)).2
 else if k = 10 then aftT M lf (nextB b (arL M M.own)).1 (numE M 2 (nextB b (arL M M.own)).2)
 else if k = 11 ∧ d < 3 then
  if (nextB b 2).1 = 0 then (.mk 8 [] [] (numL M 2 (nextB b 2).2).1 [] (bd ((numL M 2 (nextB b 2).2).2,lf)).1,(bd ((numL M 2 (nextB b 2).2).2,lf)).2)
  else fetT bd lf (nextB (nextB b 2).2 M.ints).1 (numE M 3 (nextB (nextB b 2).2 M.ints).2)
 else if k = 12 ∧ (nextB b 3).1 = 0 then (.mk 10 [] [] [] [] [],((nextB b 3).2,lf))
 else asgT M lf (if k = 12 then (nextB b 3).2 else b)
def bodL (st : Nat → Bs → Nat → Sm × (Bs × Nat)) : Nat → Bs × Nat → List Sm × (Bs × Nat)
 | 0,x => ([],x)
 | f + 1,(b,lf) =>
  if b = [] ∨ lf = 0 then ([],(b,lf))
  else if (nextB b 14).1 = 13 then ([],((nextB b 14).2,lf))
  else ((st (nextB b 14).1 (nextB b 14).2 (lf - 1)).1 :: (bodL st f (st (nextB b 14).1 (nextB b 14).2 (lf - 1)).2).1,(bodL st f (st (nextB b 14).1 (nextB b 14).2 (lf - 1)).2).2)
def bodE (M : Mk) : Nat → Bs × Nat → List Sm × (Bs × Nat)
 | 0 => bodL (fun k => stmT M k 3 fun x => ([],x)) 13
 | f + 1 => bodL (fun k => stmT M k (2 - f) (bodE M f)) 13
structure Cd where
 ps : UInt8
 bytes : Bs
def dCd (c : Cd) : D := .str [.val (.int .u8 c.ps.toNat),.seq 1 (c.bytes.map dU8)]
theorem cd_open {H : Hp} {x : Cd} {cs : List Value} (h : Rep H (dCd x) cs) : ∃ p c,cs = [.int .u8 x.ps.toNat,.slice p x.bytes.length c] ∧ Rep H (.seq 1 (x.bytes.map dU8)) [.slice p x.bytes.length c] := by
 rw [dCd,repS] at h;obtain ⟨_,rfl,_,_,h⟩ := repL_val.1 h;obtain ⟨p,c,_,rfl,hs,h⟩ := repL_seq.1 h;rw [repL_nil] at h;subst h;rw [List.length_map] at hs ⊢;exact ⟨p,c,rfl,hs⟩
def Mk.at (M : Mk) (k : Nat) : Mk := { M with params := arN M M.own k }
def hdS (M : Mk) (k : Nat) (c : Cd) : Hd := ⟨nmB 104 k,namesB 112 (arN M M.own k),(bodE (M.at k) 3 (c.bytes.take 40,12)).1⟩
def hdsP (M : Mk) : Nat → List Cd → List Hd
 | _,[] => []
 | k,c :: r => hdS M k c :: hdsP M (k + 1) r
theorem hdsP_app (M : Mk) : ∀ (a : List Cd) (k : Nat) (b : List Cd),hdsP M k (a ++ b) = hdsP M k a ++ hdsP M (k + a.length) b
 | [],k,b => by simp [hdsP]
 | c :: r,k,b => by
  simp only [List.cons_append,hdsP,hdsP_app M r (k + 1) b,List.length_cons];rw [show k + 1 + r.length = k + (r.length + 1) by omega]
theorem hdsP_succ {M : Mk} {l : List Cd} {k : Nat} (h : k < l.length) : hdsP M 0 (l.take (k + 1)) = hdsP M 0 (l.take k) ++ [hdS M k l[k]] := by
 rw [take_snoc h,hdsP_app,List.length_take,Nat.min_eq_left (by omega)];simp [hdsP]
theorem hdsP_len (M : Mk) : ∀ (l : List Cd) (k : Nat),(hdsP M k l).length = l.length
 | [],_ => rfl
 | c :: r,k => by simp [hdsP,hdsP_len M r (k + 1)]
structure Prt where
 ints : UInt8
 tables : UInt8
 hs : List Cd
 sec : List Cd
structure Pln where
 flags : UInt8
 links : Bs
 comps : List Prt
def dPrt (x : Prt) : D := .str [.val (.int .u8 x.ints.toNat),.val (.int .u8 x.tables.toNat),.seq 2 (x.hs.map dCd),.seq 2 (x.sec.map dCd)]
def dPln (x : Pln) : D := .str [.val (.int .u8 x.flags.toNat),.seq 1 (x.links.map dU8),.seq 4 (x.comps.map dPrt)]
section
variable {H : Hp}
theorem prt_open {x : Prt} {cs : List Value} (h : Rep H (dPrt x) cs) : ∃ p1 c1 p2 c2,cs = [.int .u8 x.ints.toNat,.int .u8 x.tables.toNat,.slice p1 x.hs.length c1,.slice p2 x.sec.length c2] ∧ Rep H (.seq 2 (x.hs.map dCd)) [.slice p1 x.hs.length c1] ∧ Rep H (.seq 2 (x.sec.map dCd)) [.slice p2 x.sec.length c2] := by
 rw [dPrt,repS] at h;obtain ⟨_,rfl,_,_,h⟩ := repL_val.1 h;obtain ⟨_,rfl,_,_,h⟩ := repL_val.1 h;obtain ⟨p1,c1,_,rfl,k1,h⟩ := repL_seq.1 h;obtain ⟨p2,c2,_,rfl,k2,h⟩ := repL_seq.1 h;rw [repL_nil] at h;subst h;exact ⟨p1,c1,p2,c2,by simp,(by simpa using k1),(by simpa using k2)⟩
theorem prt_shut {x : Prt} {s1 s2 : Value} (k1 : Rep H (.seq 2 (x.hs.map dCd)) [s1]) (k2 : Rep H (.seq 2 (x.sec.map dCd)) [s2]) : Rep H (dPrt x) [.int .u8 x.ints.toNat,.int .u8 x.tables.toNat,s1,s2] := by
 rw [dPrt,repS];exact repL_val.2 ⟨_,rfl,rfl,trivial,repL_val.2 ⟨_,rfl,rfl,trivial,repL_cons.2 ⟨[s1],_,rfl,k1,repL_cons.2 ⟨[s2],_,rfl,k2,repL_nil.2 rfl⟩⟩⟩⟩
theorem cd_shut {x : Cd} {s : Value} (k : Rep H (.seq 1 (x.bytes.map dU8)) [s]) : Rep H (dCd x) [.int .u8 x.ps.toNat,s] := by
 rw [dCd,repS];exact repL_val.2 ⟨_,rfl,rfl,trivial,repL_cons.2 ⟨[s],_,rfl,k,repL_nil.2 rfl⟩⟩
theorem pln_open {x : Pln} {cs : List Value} (h : Rep H (dPln x) cs) : ∃ p1 c1 p2 c2,cs = [.int .u8 x.flags.toNat,.slice p1 x.links.length c1,.slice p2 x.comps.length c2] ∧ Rep H (.seq 1 (x.links.map dU8)) [.slice p1 x.links.length c1] ∧ Rep H (.seq 4 (x.comps.map dPrt)) [.slice p2 x.comps.length c2] := by
 rw [dPln,repS] at h;obtain ⟨_,rfl,_,_,h⟩ := repL_val.1 h;obtain ⟨p1,c1,_,rfl,k1,h⟩ := repL_seq.1 h;obtain ⟨p2,c2,_,rfl,k2,h⟩ := repL_seq.1 h;rw [repL_nil] at h;subst h;exact ⟨p1,c1,p2,c2,by simp,(by simpa using k1),(by simpa using k2)⟩
end
def arK (x : Prt) (k : Nat) : List Nat :=
 if h : k < x.hs.length then [x.hs[k].ps.toNat % 3] else if k = 0 then [1] else if h : k < x.sec.length then [x.sec[k].ps.toNat % 3] else []
def arUp (x : Prt) (m : Nat) : List Nat := (List.range m).flatMap (arK x)
def arP (x : Prt) : List Nat := arUp x 3
theorem arUp_succ (x : Prt) (m : Nat) : arUp x (m + 1) = arUp x m ++ arK x m := by simp [arUp,List.range_succ]
theorem arK_le (x : Prt) (k : Nat) : (arK x k).length ≤ 1 := by
 unfold arK;split
 ·simp
 ·split
  ·simp
  ·split <;> simp
theorem arUp_len (x : Prt) : ∀ m,(arUp x m).length ≤ m
 | 0 => by simp [arUp]
 | m + 1 => by
  rw [arUp_succ,List.length_append];have := arUp_len x m;have := arK_le x m;omega
theorem arK_mem {x : Prt} {k n : Nat} (h : n ∈ arK x k) : n ≤ 2 := by
 unfold arK at h
 split at h
 ·simp at h;omega
 ·split at h
  ·simp at h;omega
  ·split at h
   ·simp at h;omega
   ·simp at h
theorem arP_mem {x : Prt} {n : Nat} (h : n ∈ arP x) : n ≤ 2 := by
 obtain ⟨k,_,hk⟩ := List.mem_flatMap.1 h;exact arK_mem hk
theorem arP_len (x : Prt) : (arP x).length = max 1 (max (min x.hs.length 3) (min x.sec.length 3)) := by
 have e : arP x = arK x 0 ++ (arK x 1 ++ arK x 2) := by simp [arP,arUp,List.range_succ]
 have key : ∀ k,(arK x k).length = if k < x.hs.length ∨ k = 0 ∨ k < x.sec.length then 1 else 0 := by
  intro k;unfold arK
  by_cases h1 : k < x.hs.length
  ·rw [dif_pos h1,if_pos (.inl h1)];rfl
  ·rw [dif_neg h1]
   by_cases h2 : k = 0
   ·rw [if_pos h2,if_pos (.inr (.inl h2))];rfl
   ·rw [if_neg h2]
    by_cases h3 : k < x.sec.length
    ·rw [dif_pos h3,if_pos (.inr (.inr h3))];rfl
    ·rw [dif_neg h3,if_neg (by omega)];rfl
 rw [e,List.length_append,List.length_append,key,key,key];rw [if_pos (.inr (.inl rfl))]
 split <;> split <;> omega
def prtsP (p : Pln) : List Prt := if p.comps.length = 0 then [⟨0,0,[],[]⟩] else p.comps.take 3
theorem prtsP_len (p : Pln) : 0 < (prtsP p).length ∧ (prtsP p).length ≤ 3 := by
 unfold prtsP
 split
 ·simp
 ·simp only [List.length_take];omega
def abcS (k : Nat) : Str := [UInt8.ofNat (97 + k)]
def flgP (c : UInt8) (k : Nat) : Fg := ⟨nmB 102 k,decide (((c.toNat / 2 ^ (4 + k) % 2 : Nat) : Int) = 1)⟩
def flgsP (c : UInt8) (n : Nat) : List Fg := (List.range n).map (flgP c)
theorem flgsP_succ (c : UInt8) (n : Nat) : flgsP c (n + 1) = flgsP c n ++ [flgP c n] := by simp [flgsP,List.range_succ]
theorem flgsP_len (c : UInt8) (n : Nat) : (flgsP c n).length = n := by simp [flgsP]
def lnkP (n : Nat) (l : Bs) (k : Nat) : List Lk := if 0 < (l.getD k 0).toNat % 4 then [⟨abcS (k / n),abcS (k % n),Int64.ofNat ((l.getD k 0).toNat % 4)⟩] else []
def lnksP (n : Nat) (l : Bs) (m : Nat) : List Lk := (List.range m).flatMap (lnkP n l)
theorem lnksP_succ (n : Nat) (l : Bs) (m : Nat) : lnksP n l (m + 1) = lnksP n l m ++ lnkP n l m := by simp [lnksP,List.range_succ]
theorem lnksP_len (n : Nat) (l : Bs) : ∀ m,(lnksP n l m).length ≤ m
 | 0 => by simp [lnksP]
 | m + 1 => by
  rw [lnksP_succ,List.length_append];have := lnksP_len n l m;have : (lnkP n l m).length ≤ 1 := by unfold lnkP;split <;> simp
  omega
def intsP (x : Prt) : Nat := 1 + x.ints.toNat % 3
def tabsP (x : Prt) : Nat := x.tables.toNat % 2
def vrI (k : Nat) : Vr := ⟨nmB 120 k,1,Int64.ofNat k⟩
def vrT0 (k : Nat) : Vr := ⟨nmB 116 k,3,0⟩
def vrsI (n : Nat) : List Vr := (List.range n).map vrI
def vrsT (n : Nat) : List Vr := (List.range n).map vrT0
theorem vrsI_succ (n : Nat) : vrsI (n + 1) = vrsI n ++ [vrI n] := by simp [vrsI,List.range_succ]
theorem vrsT_succ (n : Nat) : vrsT (n + 1) = vrsT n ++ [vrT0 n] := by simp [vrsT,List.range_succ]
def vrB : Vr := ⟨[98,48],2,0⟩
def varsP (x : Prt) : List Vr := vrsI (intsP x) ++ [vrB] ++ vrsT (tabsP x)
theorem vrsI_len (n : Nat) : (vrsI n).length = n := by simp [vrsI]
theorem vrsT_len (n : Nat) : (vrsT n).length = n := by simp [vrsT]
def mkP (ars : List (List Nat)) (nf i : Nat) (x : Prt) : Mk := { ints := intsP x,tables := tabsP x,flags := nf,own := i,ars := ars,params := 0 }
def fstP (x : Prt) : List Cd := if x.hs.length = 0 then [⟨1,[]⟩] else x.hs.take 3
def vssP (M : Mk) (x : Prt) : List (List Hd) := hdsP M 0 (fstP x) :: (if 0 < x.sec.length then [hdsP M 0 (x.sec.take 3)] else [])
def cmpP (ars : List (List Nat)) (nf i : Nat) (x : Prt) : Cp := ⟨abcS i,varsP x,vssP (mkP ars nf i x) x⟩
def cmpsP (ars : List (List Nat)) (nf : Nat) (l : List Prt) : List Cp := l.mapIdx (fun i x => cmpP ars nf i x)
theorem cmpsP_succ {ars : List (List Nat)} {nf : Nat} {l : List Prt} {k : Nat} (h : k < l.length) : cmpsP ars nf (l.take (k + 1)) = cmpsP ars nf (l.take k) ++ [cmpP ars nf k l[k]] := by
 unfold cmpsP;rw [take_snoc h,List.mapIdx_append];simp [Nat.min_eq_left (Nat.le_of_lt h)]
theorem cmpsP_len (ars : List (List Nat)) (nf : Nat) (l : List Prt) : (cmpsP ars nf l).length = l.length := by simp [cmpsP]
def fleetN : Str := [102,108,101,101,116,49]
def arsP (p : Pln) : List (List Nat) := (prtsP p).map arP
def buildF (p : Pln) : Ft :=
 ⟨fleetN,flgsP p.flags (p.flags.toNat % 3),lnksP (prtsP p).length p.links (min p.links.length ((prtsP p).length * (prtsP p).length)),cmpsP (arsP p) (p.flags.toNat % 3) (prtsP p)⟩
end Go.Proofs.YtohfacbajcenoaaGreatDoor
namespace Go.Proofs.YtohfacbajcenoaaGreatDoor
structure Tr where
 ty : UInt8
 nm : Str
 er : Nat
structure Sc where
 flags : List Fg
 vars : List Vr
 ps : List Str
def flagB (l : List Fg) (n : Str) : Bool := l.any fun x => decide (x.nm = n)
def varF (l : List Vr) (n : Str) : Option Vr := l.find? fun x => decide (x.nm = n)
def hasB (l : List Str) (n : Str) : Bool := l.any fun x => decide (x = n)
def hdF (l : List (List Hd)) (n : Str) : Option Hd := l.flatten.find? fun x => decide (x.nm = n)
def cpF (l : List Cp) (n : Str) : Option Cp := l.find? fun x => decide (x.nm = n)
def nameT (s : Sc) (n : Str) : UInt8 × Nat :=
 if hasB s.ps n then (1,0)
 else match varF s.vars n with
  | some v => if v.ty = 3 then (0,10) else (v.ty,0)
  | none => if flagB s.flags n then (2,0) else (0,9)
def varS (s : Sc) (n : Str) : Option Vr := if hasB s.ps n then none else varF s.vars n
def tableT (s : Sc) (n : Str) : Nat := match varS s n with | none => 9 | some v => if v.ty = 3 then 0 else 10
def wrongT (t : UInt8) (nm : Str) (er : Nat) : Tr := if er = 0 then ⟨t,[],0⟩ else ⟨0,nm,er⟩
def fstE (l : List Tr) : Option Tr := l.find? fun r => decide (¬ r.er = 0)
def fstT (l : List Tr) : UInt8 := (l.map (·.ty)).headD 0
def alikeT (l : List Tr) : Tr :=
 match fstE l with
 | some r => ⟨0,r.nm,r.er⟩
 | none => if (l.all fun r => decide (r.ty = fstT l)) then ⟨fstT l,[],0⟩ else ⟨0,[],10⟩
def needT_ (op t : UInt8) : UInt8 := if op = 16 ∨ op = 17 then t else if op = 10 ∨ op = 22 ∨ op = 23 then 2 else 1
def resT (op : UInt8) : UInt8 := if op = 16 ∨ op = 17 ∨ op = 10 ∨ op = 22 ∨ op = 23 ∨ op = 7 ∨ op = 18 ∨ op = 19 ∨ op = 20 ∨ op = 21 then 2 else 1
def tyOp (s : Sc) (op : UInt8) (nm : Str) (a : Tr) : Tr :=
 if ¬ a.er = 0 then ⟨0,a.nm,a.er⟩
 else if op = 1 ∨ op = 4 then ⟨1,[],0⟩
 else if op = 2 ∨ op = 3 then ⟨2,[],0⟩
 else if op = 5 then wrongT (nameT s nm).1 nm (nameT s nm).2
 else if op = 8 then wrongT 1 nm (tableT s nm)
 else if ¬ a.ty = needT_ op a.ty then ⟨0,[],10⟩
 else if op = 6 ∨ op = 7 then wrongT (resT op) nm (tableT s nm)
 else ⟨resT op,[],0⟩
mutual
def tyE (s : Sc) : Ex → Tr
 | .mk op nm _ args => tyOp s op nm (alikeT (tyEs s args))
def tyEs (s : Sc) : List Ex → List Tr
 | [] => []
 | e :: r => tyE s e :: tyEs s r
end
theorem tyEs_map (s : Sc) : ∀ l,tyEs s l = l.map (tyE s)
 | [] => rfl
 | e :: r => by rw [tyEs,tyEs_map s r];rfl
theorem tyE_mk (s : Sc) (op : UInt8) (nm : Str) (n : Int64) (args : List Ex) : tyE s (.mk op nm n args) = tyOp s op nm (alikeT (args.map (tyE s))) := by rw [tyE,tyEs_map]
/-! ### The specification's -/
abbrev Rp := Str × Nat
def rpE (r : Tr) (t : UInt8) : List Rp := (if r.er = 0 then [] else [(r.nm,r.er)]) ++ (if r.ty = t then [] else [([],10)])
def allT (s : Sc) (t : UInt8) (es : List Ex) : List Rp := es.flatMap fun e => rpE (tyE s e) t
def chgT (s : Sc) (n : Str) : UInt8 := match varS s n with | some v => v.ty | none => 0
def chgR (s : Sc) (n : Str) : List Rp := match varS s n with | some _ => [] | none => [(n,if hasB s.ps n || flagB s.flags n then 10 else 9)]
def callR (s : Sc) (vs : List (List Hd)) (n : Str) (es : List Ex) (k : Nat) : List Rp :=
 (if (hdF vs n).isSome then [] else [(n,9)]) ++ ((if (es.length : Int) - (k : Nat) = (((hdF vs n).map (·.ps.length)).getD 0 : Nat) then [] else [(n,10)]) ++ allT s 1 es)
def stR (cs : List Cp) (own : List (List Hd)) (s : Sc) : Sm → List Rp
 | .mk kd nm hd ex _ _ =>
  if kd = 1 then chgR s nm ++ (if chgT s nm = 1 ∨ chgT s nm = 2 then allT s (chgT s nm) ex else [(nm,10)])
  else if kd = 2 ∨ kd = 3 then chgR s nm ++ ((if chgT s nm = 3 then [] else [(nm,10)]) ++ allT s 1 ex)
  else if kd = 9 then chgR s nm ++ ((if chgT s nm = 1 then [] else [(nm,10)]) ++ allT s 1 ex)
  else if kd = 4 ∨ kd = 5 then allT s 2 ex
  else if kd = 6 then (if (cpF cs nm).isSome then [] else [(nm,9)]) ++ callR s (((cpF cs nm).map (·.vers)).getD []) hd ex 0
  else if kd = 7 then callR s own hd ex 1
  else if kd = 8 then allT s 1 ex
  else []
structure Pb where
 wh : Str
 nm : Str
 er : Nat
def atW (w : Str) (l : List Rp) : List Pb := l.map fun x => ⟨w,x.1,x.2⟩
def itoaN (n : Nat) : Str := Lib.itoa ((n : Nat) : Int)
mutual
def stL (cs : List Cp) (own : List (List Hd)) (s : Sc) (pl : Str) : Nat → Sm → List Pb
 | k,.mk kd nm hd ex th el => atW (pl ++ itoaN k) (stR cs own s (.mk kd nm hd ex th el)) ++ (stLs cs own s pl (k + 1) th ++ stLs cs own s pl (k + 1 + Sm.counts th) el)
def stLs (cs : List Cp) (own : List (List Hd)) (s : Sc) (pl : Str) : Nat → List Sm → List Pb
 | _,[] => []
 | k,x :: r => stL cs own s pl k x ++ stLs cs own s pl (k + Sm.count x) r
end
theorem stL_mk (cs : List Cp) (own : List (List Hd)) (s : Sc) (pl : Str) (k : Nat) (kd : UInt8) (nm hd : Str) (ex : List Ex) (th el : List Sm) : stL cs own s pl k (.mk kd nm hd ex th el) = atW (pl ++ itoaN k) (stR cs own s (.mk kd nm hd ex th el)) ++ (stLs cs own s pl (k + 1) th ++ stLs cs own s pl (k + 1 + Sm.counts th) el) := by rw [stL]
theorem stLs_app (cs : List Cp) (own : List (List Hd)) (s : Sc) (pl : Str) : ∀ (a : List Sm) (k : Nat) (b : List Sm),stLs cs own s pl k (a ++ b) = stLs cs own s pl k a ++ stLs cs own s pl (k + Sm.counts a) b
 | [],k,b => by simp [stLs,Sm.counts]
 | x :: a,k,b => by
  simp only [List.cons_append,stLs,stLs_app cs own s pl a _ b,List.append_assoc,Sm.counts,Nat.add_assoc]
def rpIf (b : Bool) (w n : Str) (e : Nat) : List Pb := if b then [⟨w,n,e⟩] else []
def flg1 (f : Ft) (i : Nat) : List Pb := match f.flags[i]? with | none => [] | some x => rpIf (flagB (f.flags.take i) x.nm) ([102,108,97,103,32] ++ x.nm) x.nm 5
def sameL (l : List Lk) (x : Lk) : Bool := l.any fun y => decide (y.fr = x.fr ∧ y.to = x.to)
def lnkW (x : Lk) : Str := [108,105,110,107,32] ++ x.fr ++ [32] ++ x.to
def lnk1 (f : Ft) (i : Nat) : List Pb := match f.links[i]? with | none => [] | some x => rpIf (!(cpF f.comps x.fr).isSome) (lnkW x) x.fr 9 ++ (rpIf (!(cpF f.comps x.to).isSome) (lnkW x) x.to 9 ++ rpIf (sameL (f.links.take i) x) (lnkW x) x.fr 5)
def var1 (f : Ft) (c : Cp) (i : Nat) : List Pb := match c.vars[i]? with | none => [] | some v => rpIf ((varF (c.vars.take i) v.nm).isSome || flagB f.flags v.nm) ([118,97,114,105,97,98,108,101,32] ++ c.nm ++ [46] ++ v.nm) v.nm 5
def hdlW (c : Cp) (n : Nat) (h : Hd) : Str := [104,97,110,100,108,101,114,32] ++ c.nm ++ [46] ++ h.nm ++ [32] ++ itoaN (n + 1)
def stmW (c : Cp) (n : Nat) (h : Hd) : Str := [115,116,97,116,101,109,101,110,116,32] ++ c.nm ++ [46] ++ h.nm ++ ([32] ++ itoaN (n + 1)) ++ [32]
def par1 (f : Ft) (c : Cp) (n : Nat) (h : Hd) (i : Nat) : List Pb := match h.ps[i]? with | none => [] | some p => rpIf ((varF c.vars p).isSome || flagB f.flags p || hasB (h.ps.take i) p) (hdlW c n h) p 5
def befB (c : Cp) (n : Nat) (h : Hd) : Bool := match hdF (c.vers.take n) h.nm with | none => false | some b => !decide (b.ps.length = h.ps.length)
def hdl1 (f : Ft) (c : Cp) (n : Nat) (v : List Hd) (i : Nat) : List Pb :=
 match v[i]? with
 | none => []
 | some h => rpIf (hdF [v.take i] h.nm).isSome (hdlW c n h) h.nm 5 ++ (rpIf (befB c n h) (hdlW c n h) h.nm 10 ++ ((List.range h.ps.length).flatMap (par1 f c n h) ++ stLs f.comps c.vers ⟨f.flags,c.vars,h.ps⟩ (stmW c n h) 0 h.body))
def ver1 (f : Ft) (c : Cp) (n : Nat) : List Pb := match c.vers[n]? with | none => [] | some v => (List.range v.length).flatMap (hdl1 f c n v)
def cmp1 (f : Ft) (i : Nat) : List Pb :=
 match f.comps[i]? with
 | none => []
 | some c => rpIf ((cpF (f.comps.take i) c.nm).isSome || flagB f.flags c.nm) ([99,111,109,112,111,110,101,110,116,32] ++ c.nm) c.nm 5 ++ ((List.range c.vars.length).flatMap (var1 f c) ++ (List.range c.vers.length).flatMap (ver1 f c))
def probs (f : Ft) (code : Nat) : List Pb :=
 (if code = 0 then [] else [⟨[102,108,101,101,116],f.nm,code⟩]) ++ ((List.range f.flags.length).flatMap (flg1 f) ++ ((List.range f.links.length).flatMap (lnk1 f) ++ (List.range f.comps.length).flatMap (cmp1 f)))
end Go.Proofs.YtohfacbajcenoaaGreatDoor
namespace Go.Proofs.YtohfacbajcenoaaGreatDoor
open Go.RowKit Go.Par Go.Sx
theorem Fx.agg66 : aggN Tryz.prog 66 = Option.some Option.none := by kernel_rfl
theorem Fx.agg68 : aggN Tryz.prog 68 = Option.some (Option.some 4) := by kernel_rfl
theorem Fx.call45 : callN Tryz.prog 45 = Bool.true := by kernel_rfl
theorem Fx.field68_3 : fieldN Tryz.prog 68 3 = Option.some 3 := by kernel_rfl
theorem Fx.sl66 : slN Tryz.prog 66 = Option.some 4 := by kernel_rfl
set_option maxRecDepth 100000 in
theorem exprDepth_any (e : Ex) : ∀ (H : Hp) (cs : List Value) (w : World),Rep H (dEx .u8 e) cs → e.depth ≤ 1000000 → Agr H w →
 Calls Tryz.prog 45 #[.agg cs.toArray] w fun r w' => r = .returned (.int .i64 (e.depth : Nat)) ∧ Ext w w' := by
 induction e using Ex.ind with | _ op nm nn args ih
 intro H cs w h he hA;rw [depth_mk] at he;obtain ⟨p,c,rfl,hs,hnm⟩ := ex_open h;have hcap := hs.cap;refine Sx.enter (H := H) Tryz.func45 rfl Tryz.ntmps45 rfl hA ?_;refine .sr<|.bx Z Z Z fun b1 => .a Z Z<|.ns<|.a Z Z<|.nt<|.sq<|.sr<|.yv (.fieldAddr Z Fx.field68_3) Z<|.yv (.load Z Fx.agg66 (.head _) Z) Z<|.yv (.lenSl Fx.sl66 Z) Z<|.m Z Z<|.nt<|.bk<|.lp (X := Nat) [(1,_),(7,_)] ⟨rfl,rfl,trivial⟩ [_] (fun k => [(3,.int .i64 (Ex.deeps (args.take k) : Nat)),(8,.int .i64 (k : Nat))]) (fun k => H) (fun k => []) (fun k => k ≤ args.length) (fun k => args.length - k) 0 (fun _ s => s) ⟨rfl,rfl,trivial⟩ (by omega) fun k hC => ?_
 refine .sr<|.yv (.lss Z Z) Z<|.nt<|.sq<|.cd Z (fun h9 => ?_) (fun h9 => ?_)
 ·try simp only [dt] at h9
  have hk : k < args.length := by omega
  obtain ⟨b5,o5,c5,hp5,r5,l5,m5⟩ := hs.elem (map_at hk);cases hp5;have h1 := deeps_take args k;have h2 := deeps_at hk;have h3 := deeps_succ hk;exact .sk<|.tN<|.sq<|.bk<|.sr<|.m Z Z<|.a Z Z<|.nt<|.rg<|.m Z Z<|.yv (.fieldAddr Z Fx.field68_3) Z<|.yv (.load Z Fx.agg66 (.head _) Z) Z<|.m Z Z<|.yv (.indexSl Fx.sl66 Z Z Z (by omega) (q := o5 + k * 4) Z) Z<|.yv (.loadMW Z Fx.agg68 m5 l5) Z<|.yv (.call Fx.call45 Z (fun W s => ih _ (List.getElem_mem hk) H c5 W r5 (by omega) s.agr)) Z<|.yv (.max2 Z Z (c := ((Ex.deeps (args.take (k + 1)) : Nat) : Int)) (by omega)) Z<|.a Z Z<|.nl<|.bN<|.tN<|.rg<|.yv (.add Z Z (w6 (by omega))) Z<|.m Z Z<|.nt<|.ag (k + 1) ⟨rfl,rfl,trivial⟩ ⟨rfl,rfl,trivial⟩ (fun _ s => s) (by omega) (by omega)
 try simp only [df] at h9
 obtain rfl : k = args.length := by omega
 rw [List.take_length];refine .ex<|.tE<|.tE<|.bE<|.tN<|.sr<|.m Z Z<|.yv (.add Z Z (w6 (by omega))) Z<|.a Z Z<|.nt<|.rt<|?_
 exact Sx.ret1 (.inl rfl) rfl (.tmp rfl) fun W s => ⟨by rw [depth_mk];rfl,s.ext⟩
theorem Fx.agg231 : aggN Tryz.prog 231 = Option.some (Option.some 39) := by kernel_rfl
theorem Fx.are231 : arrE Tryz.prog 231 = Bool.true := by kernel_rfl
theorem Fx.arr231 : arrN Tryz.prog 231 = Option.some (39,1) := by kernel_rfl
theorem Fx.call106 : callN Tryz.prog 106 = Bool.true := by kernel_rfl
theorem Fx.call110 : callN Tryz.prog 110 = Bool.true := by kernel_rfl
theorem Fx.call123 : callN Tryz.prog 123 = Bool.true := by kernel_rfl
theorem Fx.str9 : isStr Tryz.prog 9 = Bool.true := by kernel_rfl
set_option maxRecDepth 100000 in
theorem letter_any (c : UInt8) (w : World) : Calls Tryz.prog 106 #[byteV c] w fun r w' => r = .returned (.bool (letB c)) ∧ Ext w w' := by
 refine Sx.enter (H := (⟨fun _ => none,0⟩ : Hp)) Tryz.func106 rfl Tryz.ntmps106 rfl ⟨fun _ _ e => (by cases e),Nat.zero_le _⟩ ?_;refine .sr<|.a Z Z<|.ns<|.m Z Z<|.yv (.geq Z Z) Z<|.m Z Z<|.b2 (fun h5 => ?_) (fun h5 => ?_)
 ·try simp only [dt] at h5
  refine .gd Z Z<|.yv (.move Z) Z<|.gd Z Z<|.yv (.leq Z Z) Z<|.yv (.pickT Z Z) Z<|.m Z Z<|.b2 (fun h9 => ?_) (fun h9 => ?_)
  ·try simp only [dt] at h9
   refine .gF Z Z Z Z<|.gF Z Z Z Z<|.gF Z Z Z Z<|.gU Z Z Z<|.gU Z Z Z<|.gF Z Z Z Z<|.yv (.pickT Z Z) Z<|.a Z Z<|.nt<|.rt<|?_
   exact Sx.ret1 (.inl rfl) rfl (.tmp rfl) fun W s => ⟨retB (by simp only [letB,Bool.or_eq_true,Bool.and_eq_true,decide_eq_true_eq,reduceCtorEq,true_iff,false_iff,iff_true,iff_false,beq_iff_eq,Bool.true_eq_false,Bool.false_eq_true];try omega),s.ext⟩
  try simp only [df] at h9
  refine .gd Z Z<|.yv (.move Z) Z<|.gd Z Z<|.yv (.geq Z Z) Z<|.gd Z Z<|.yv (.move Z) Z<|.b2 (fun h12 => ?_) (fun h12 => ?_)
  ·try simp only [dt] at h12
   refine .gd Z Z<|.yv (.move Z) Z<|.gd Z Z<|.yv (.leq Z Z) Z<|.gd Z Z<|.yv (.pickT Z Z) Z<|.yv (.pickF Z Z) Z<|.a Z Z<|.nt<|.rt<|?_
   exact Sx.ret1 (.inl rfl) rfl (.tmp rfl) fun W s => ⟨retB (by simp only [letB,Bool.or_eq_true,Bool.and_eq_true,decide_eq_true_eq,reduceCtorEq,true_iff,false_iff,iff_true,iff_false,beq_iff_eq,Bool.true_eq_false,Bool.false_eq_true];try omega),s.ext⟩
  try simp only [df] at h12
  refine .gF Z Z Z Z<|.gF Z Z Z Z<|.gd Z Z<|.yv (.pickF Z Z) Z<|.yv (.pickF Z Z) Z<|.a Z Z<|.nt<|.rt<|?_
  exact Sx.ret1 (.inl rfl) rfl (.tmp rfl) fun W s => ⟨retB (by simp only [letB,Bool.or_eq_true,Bool.and_eq_true,decide_eq_true_eq,reduceCtorEq,true_iff,false_iff,iff_true,iff_false,beq_iff_eq,Bool.true_eq_false,Bool.false_eq_true];try omega),s.ext⟩
 try simp only [df] at h5
 refine .gF Z Z Z Z<|.gF Z Z Z Z<|.yv (.pickF Z Z) Z<|.m Z Z<|.gd Z Z<|.yv (.move Z) Z<|.gd Z Z<|.yv (.geq Z Z) Z<|.gd Z Z<|.yv (.move Z) Z<|.b2 (fun h12 => ?_) (fun h12 => ?_)
 ·try simp only [dt] at h12
  refine .gd Z Z<|.yv (.move Z) Z<|.gd Z Z<|.yv (.leq Z Z) Z<|.gd Z Z<|.yv (.pickT Z Z) Z<|.yv (.pickF Z Z) Z<|.a Z Z<|.nt<|.rt<|?_
  exact Sx.ret1 (.inl rfl) rfl (.tmp rfl) fun W s => ⟨retB (by simp only [letB,Bool.or_eq_true,Bool.and_eq_true,decide_eq_true_eq,reduceCtorEq,true_iff,false_iff,iff_true,iff_false,beq_iff_eq,Bool.true_eq_false,Bool.false_eq_true];try omega),s.ext⟩
 try simp only [df] at h12
 refine .gF Z Z Z Z<|.gF Z Z Z Z<|.gd Z Z<|.yv (.pickF Z Z) Z<|.yv (.pickF Z Z) Z<|.a Z Z<|.nt<|.rt<|?_
 exact Sx.ret1 (.inl rfl) rfl (.tmp rfl) fun W s => ⟨retB (by simp only [letB,Bool.or_eq_true,Bool.and_eq_true,decide_eq_true_eq,reduceCtorEq,true_iff,false_iff,iff_true,iff_false,beq_iff_eq,Bool.true_eq_false,Bool.false_eq_true];try omega),s.ext⟩
set_option maxRecDepth 100000 in
theorem digit_any (c : UInt8) (w : World) : Calls Tryz.prog 110 #[byteV c] w fun r w' => r = .returned (.bool (digB c)) ∧ Ext w w' := by
 refine Sx.enter (H := (⟨fun _ => none,0⟩ : Hp)) Tryz.func110 rfl Tryz.ntmps110 rfl ⟨fun _ _ e => (by cases e),Nat.zero_le _⟩ ?_;refine .sr<|.a Z Z<|.ns<|.m Z Z<|.yv (.geq Z Z) Z<|.m Z Z<|.b2 (fun h5 => ?_) (fun h5 => ?_)
 ·try simp only [dt] at h5
  refine .gd Z Z<|.yv (.move Z) Z<|.gd Z Z<|.yv (.leq Z Z) Z<|.yv (.pickT Z Z) Z<|.a Z Z<|.nt<|.rt<|?_
  exact Sx.ret1 (.inl rfl) rfl (.tmp rfl) fun W s => ⟨retB (by simp only [digB,Bool.or_eq_true,Bool.and_eq_true,decide_eq_true_eq,reduceCtorEq,true_iff,false_iff,iff_true,iff_false,beq_iff_eq,Bool.true_eq_false,Bool.false_eq_true];try omega),s.ext⟩
 try simp only [df] at h5
 refine .gF Z Z Z Z<|.gF Z Z Z Z<|.yv (.pickF Z Z) Z<|.a Z Z<|.nt<|.rt<|?_
 exact Sx.ret1 (.inl rfl) rfl (.tmp rfl) fun W s => ⟨retB (by simp only [digB,Bool.or_eq_true,Bool.and_eq_true,decide_eq_true_eq,reduceCtorEq,true_iff,false_iff,iff_true,iff_false,beq_iff_eq,Bool.true_eq_false,Bool.false_eq_true];try omega),s.ext⟩
set_option maxRecDepth 100000 in
theorem inside_any (c : UInt8) (w : World) : Calls Tryz.prog 108 #[byteV c] w fun r w' => r = .returned (.bool (insB c)) ∧ Ext w w' := by
 refine Sx.enter (H := (⟨fun _ => none,0⟩ : Hp)) Tryz.func108 rfl Tryz.ntmps108 rfl ⟨fun _ _ e => (by cases e),Nat.zero_le _⟩ ?_;refine .sr<|.a Z Z<|.ns<|.m Z Z<|.yv (.call Fx.call106 Z (fun W s => letter_any c W)) Z<|.m Z Z<|.b2 (fun h5 => ?_) (fun h5 => ?_)
 ·skip
  refine .gF Z Z Z Z<|.gF Z Z Z Z<|.yv (.pickT Z Z) Z<|.m Z Z<|.gF Z Z Z Z<|.gF Z Z Z Z<|.yv (.pickT Z Z) Z<|.a Z Z<|.nt<|.rt<|?_
  exact Sx.ret1 (.inl rfl) rfl (.tmp rfl) fun W s => ⟨retB (by simp_all [insB];try omega),s.ext⟩
 skip
 refine .gd Z Z<|.yv (.move Z) Z<|.gd Z Z<|.yv (.call Fx.call110 Z (fun W s => digit_any c W)) Z<|.yv (.pickF Z Z) Z<|.m Z Z<|.b2 (fun h9 => ?_) (fun h9 => ?_)
 ·skip
  refine .gF Z Z Z Z<|.gF Z Z Z Z<|.yv (.pickT Z Z) Z<|.a Z Z<|.nt<|.rt<|?_
  exact Sx.ret1 (.inl rfl) rfl (.tmp rfl) fun W s => ⟨retB (by simp_all [insB];try omega),s.ext⟩
 skip
 refine .gd Z Z<|.yv (.move Z) Z<|.gd Z Z<|.yv (.eql Z Z) Z<|.yv (.pickF Z Z) Z<|.a Z Z<|.nt<|.rt<|?_
 exact Sx.ret1 (.inl rfl) rfl (.tmp rfl) fun W s => ⟨retB (by simp_all [insB];try omega),s.ext⟩
set_option maxRecDepth 100000 in
theorem prefix_any (gf : FuncId) (q : UInt8 → Bool) (hf : callN Tryz.prog gf = true) (hg : ∀ b w,Calls Tryz.prog gf #[byteV b] w fun r w' => r = .returned (.bool (q b)) ∧ Ext w w') (l : Str) (hl : l.length ≤ 9223372036854775807) (w : World) :
 Calls Tryz.prog 107 #[strV l,.func (.func gf) #[] #[]] w fun r w' => r = .returned (.int .i64 (pre q l : Nat)) ∧ Ext w w' := by
 refine Sx.enter (H := (⟨fun _ => none,0⟩ : Hp)) Tryz.func107 rfl Tryz.ntmps107 rfl ⟨fun _ _ e => (by cases e),Nat.zero_le _⟩ ?_;refine .sr<|.a Z Z<|.ns<|.a Z Z<|.nt<|.sq<|.bk<|.lp (X := Nat) [(0,_),(1,_)] ⟨rfl,rfl,trivial⟩ [] (fun k => [(5,.int .i64 (k : Nat))]) (fun k => (⟨fun _ => none,0⟩ : Hp)) (fun k => []) (fun k => k ≤ pre q l) (fun k => l.length - k) 0 (fun _ s => s) ⟨rfl,trivial⟩ (by omega) fun k hC => ?_
 have hp := pre_le q l;refine .sq<|.sr<|.m Z Z<|.m Z Z<|.yv (.lenS Fx.str9 Z) Z<|.yv (.lss Z Z) Z<|.m Z Z<|.b2 (fun h10 => ?_) (fun h10 => ?_)
 ·try simp only [dt] at h10
  have hk : k < l.length := by omega
  refine .gd Z Z<|.yv (.move Z) Z<|.gd Z Z<|.yv (.move Z) Z<|.gd Z Z<|.yv (.move Z) Z<|.gd Z Z<|.yv (.idxS Fx.str9 Z Z Z (List.getElem?_eq_getElem hk)) Z<|.gd Z Z<|.yv (.callV (fi := []) (ca := []) Z hf Z (fun W s => hg _ W)) Z<|.yv (.pickT Z Z) Z<|.nt<|.cd Z (fun h16 => ?_) (fun h16 => ?_)
  ·skip
   exact .sk<|.tN<|.bk<|.rg<|.m Z Z<|.yv (.add Z Z (w6 (by omega))) Z<|.a Z Z<|.nl<|.bN<|.tN<|.ag (k + 1) ⟨rfl,trivial⟩ ⟨rfl,rfl,trivial⟩ (fun _ s => s) (pre_step hk hC (by simpa using h16)) (by omega)
  skip
  refine .ex<|.tE<|.tE<|.bE<|.tN<|.sr<|.m Z Z<|.a Z Z<|.nt<|.rt<|?_
  first
   | exact Sx.ret1 (.inl rfl) rfl (.tmp rfl) fun W s => ⟨by rw [show k = pre q l by omega],s.ext⟩
   | exact Sx.ret1 (.inl rfl) rfl (.tmp rfl) fun W s => ⟨by rw [pre_stop hk hC (by simpa using h16)],s.ext⟩
 try simp only [df] at h10
 refine .gF Z Z Z Z<|.gF Z Z Z Z<|.gF Z Z Z Z<|.gF Z Z Z Z<|.gF Z Z Z Z<|.yv (.pickF Z Z) Z<|.nt<|.cF Z<|.ex<|.tE<|.tE<|.bE<|.tN<|.sr<|.m Z Z<|.a Z Z<|.nt<|.rt<|?_
 first
  | exact Sx.ret1 (.inl rfl) rfl (.tmp rfl) fun W s => ⟨by rw [show k = pre q l by omega],s.ext⟩
  | exact Sx.ret1 (.inl rfl) rfl (.tmp rfl) fun W s => ⟨by rw [pre_stop hk hC (by simpa using h16)],s.ext⟩
set_option maxRecDepth 100000 in
theorem keyword_any (H : Hp) (G : Gl H) (l : Str) (w : World) (hA : Agr H w) :
 Calls Tryz.prog 109 #[strV l] w fun r w' => r = .returned (.bool (words.contains l)) ∧ Ext w w' := by
 refine Sx.enter (H := H) Tryz.func109 rfl Tryz.ntmps109 rfl hA ?_;refine .sr<|.a Z Z<|.nt<|.sq<|.sr<|.yv (.loadMW Z Fx.agg231 G.words Z) Z<|.m Z Z<|.nt<|.bk<|.lp (X := Nat) [(0,_),(5,_)] ⟨rfl,rfl,trivial⟩ [] (fun k => [(6,.int .i64 (k : Nat))]) (fun k => H) (fun k => []) (fun k => k ≤ 39 ∧ ∀ j,j < k → words.getD j [] ≠ l) (fun k => 39 - k) 0 (fun _ s => s) ⟨rfl,trivial⟩ ⟨by omega,fun j hj => by omega⟩ fun k hC => ?_
 obtain ⟨hk,hne⟩ := hC;refine .sr<|.yv (.lss Z Z) Z<|.nt<|.sq<|.cd Z (fun h7 => ?_) (fun h7 => ?_)
 ·try simp only [dt] at h7
  refine .sk<|.tN<|.sq<|.bk<|.sr<|.yv (.idxA Fx.arr231 Fx.are231 Z Z Z (by omega) (list_at (by show k < 39;omega) [])) Z<|.a Z Z<|.ns<|.m Z Z<|.m Z Z<|.yv (.eqS Z Z) Z<|.nt<|.cd Z (fun h11 => ?_) (fun h11 => ?_)
  ·try simp only [dt] at h11
   have hmem : l ∈ words := by
    rw [← h11,getD_at (show k < words.length by show k < 39;omega)];exact List.getElem_mem _
   refine .sr<|.a Z Z<|.nt<|.rt<|.bR<|.tR<|.tR<|.bR<|.tR<|?_
   exact Sx.ret1 (.inl rfl) rfl (.tmp rfl) fun W s => ⟨retB (by simp [List.contains_iff_mem, *]),s.ext⟩
  try simp only [df] at h11
  exact .sk<|.bN<|.tN<|.rg<|.yv (.add Z Z (w6 (by omega))) Z<|.m Z Z<|.nt<|.ag (k + 1) ⟨rfl,trivial⟩ ⟨rfl,rfl,trivial⟩ (fun _ s => s) ⟨by omega,fun j hj => by
   by_cases e : j = k
   ·subst e;exact h11
   ·exact hne j (by omega)⟩ (by omega)
 try simp only [df] at h7
 have hno : l ∉ words := fun hm => by
  obtain ⟨j,hj,e⟩ := List.mem_iff_getElem.1 hm;have hj2 : j < 39 := hj;exact hne j (by omega) (by rw [getD_at hj];exact e)
 refine .ex<|.tE<|.tE<|.bE<|.tN<|.sr<|.a Z Z<|.nt<|.rt<|?_
 exact Sx.ret1 (.inl rfl) rfl (.tmp rfl) fun W s => ⟨retB (by simp [List.contains_iff_mem, *]),s.ext⟩
set_option maxRecDepth 100000 in
theorem hasPrefixL_any (l m : Str) (w : World) : Calls Tryz.prog 123 #[strV l,strV m] w fun r w' => r = .returned (.bool (hasP l m)) ∧ Ext w w' := by
 refine Sx.enter (H := (⟨fun _ => none,0⟩ : Hp)) Tryz.func123 rfl Tryz.ntmps123 rfl ⟨fun _ _ e => (by cases e),Nat.zero_le _⟩ ?_;refine .sr<|.a Z Z<|.ns<|.m Z Z<|.yv (.lenS Fx.str9 Z) Z<|.m Z Z<|.yv (.lenS Fx.str9 Z) Z<|.yv (.geq Z Z) Z<|.m Z Z<|.b2 (fun h10 => ?_) (fun h10 => ?_)
 ·try simp only [dt] at h10
  refine .gd Z Z<|.yv (.move Z) Z<|.gd Z Z<|.yv (.move Z) Z<|.gd Z Z<|.yv (.lenS Fx.str9 Z) Z<|.gd Z Z<|.yv (.takeS Fx.str9 Z Z Z (by omega)) Z<|.gd Z Z<|.yv (.move Z) Z<|.gd Z Z<|.yv (.eqS Z Z) Z<|.yv (.pickT Z Z) Z<|.a Z Z<|.nt<|.rt<|?_
  exact Sx.ret1 (.inl rfl) rfl (.tmp rfl) fun W s => ⟨retB (by first | (simp only [hasP,Bool.or_eq_true,Bool.and_eq_true,decide_eq_true_eq,reduceCtorEq,true_iff,false_iff,iff_true,iff_false,beq_iff_eq,Bool.true_eq_false,Bool.false_eq_true];omega) | exact ⟨fun e => by simp only [hasP,Bool.or_eq_true,Bool.and_eq_true,decide_eq_true_eq,reduceCtorEq,true_iff,false_iff,iff_true,iff_false,beq_iff_eq,Bool.true_eq_false,Bool.false_eq_true] at e ⊢;exact ⟨by omega,e⟩,fun e => by simp only [hasP,Bool.or_eq_true,Bool.and_eq_true,decide_eq_true_eq,reduceCtorEq,true_iff,false_iff,iff_true,iff_false,beq_iff_eq,Bool.true_eq_false,Bool.false_eq_true] at e ⊢;exact e.2⟩),s.ext⟩
 try simp only [df] at h10
 refine .gF Z Z Z Z<|.gF Z Z Z Z<|.gF Z Z Z Z<|.gF Z Z Z Z<|.gF Z Z Z Z<|.gF Z Z Z Z<|.yv (.pickF Z Z) Z<|.a Z Z<|.nt<|.rt<|?_
 exact Sx.ret1 (.inl rfl) rfl (.tmp rfl) fun W s => ⟨retB (by first | (simp only [hasP,Bool.or_eq_true,Bool.and_eq_true,decide_eq_true_eq,reduceCtorEq,true_iff,false_iff,iff_true,iff_false,beq_iff_eq,Bool.true_eq_false,Bool.false_eq_true];omega) | exact ⟨fun e => by simp only [hasP,Bool.or_eq_true,Bool.and_eq_true,decide_eq_true_eq,reduceCtorEq,true_iff,false_iff,iff_true,iff_false,beq_iff_eq,Bool.true_eq_false,Bool.false_eq_true] at e ⊢;exact ⟨by omega,e⟩,fun e => by simp only [hasP,Bool.or_eq_true,Bool.and_eq_true,decide_eq_true_eq,reduceCtorEq,true_iff,false_iff,iff_true,iff_false,beq_iff_eq,Bool.true_eq_false,Bool.false_eq_true] at e ⊢;exact e.2⟩),s.ext⟩
set_option maxRecDepth 100000 in
theorem hasPrefix_any (l m : Str) (w : World) : Calls Tryz.prog 111 #[strV l,strV m] w fun r w' => r = .returned (.bool (hasP l m)) ∧ Ext w w' := by
 refine Sx.enter (H := (⟨fun _ => none,0⟩ : Hp)) Tryz.func111 rfl Tryz.ntmps111 rfl ⟨fun _ _ e => (by cases e),Nat.zero_le _⟩ ?_;refine .sr<|.a Z Z<|.ns<|.m Z Z<|.m Z Z<|.yv (.call Fx.call123 Z (fun W s => hasPrefixL_any l m W)) Z<|.a Z Z<|.nt<|.rt<|?_
 exact Sx.ret1 (.inl rfl) rfl (.tmp rfl) fun W s => ⟨rfl,s.ext⟩
theorem Fx.agg216 : aggN Tryz.prog 216 = Option.some (Option.some 25) := by kernel_rfl
theorem Fx.are216 : arrE Tryz.prog 216 = Bool.true := by kernel_rfl
theorem Fx.arr216 : arrN Tryz.prog 216 = Option.some (25,1) := by kernel_rfl
theorem Fx.call93 : callN Tryz.prog 93 = Bool.true := by kernel_rfl
theorem Fx.call107 : callN Tryz.prog 107 = Bool.true := by kernel_rfl
theorem Fx.call108 : callN Tryz.prog 108 = Bool.true := by kernel_rfl
theorem Fx.call109 : callN Tryz.prog 109 = Bool.true := by kernel_rfl
theorem Fx.call111 : callN Tryz.prog 111 = Bool.true := by kernel_rfl
theorem sym_find {l : Str} {k : Nat} (hk : k < 25) (h0 : ∀ j,j < k → hasP l (symbols.getD j []) = false) (h1 : hasP l (symbols.getD k []) = true) : symbols.find? (fun x => x.isPrefixOf l) = some (symbols.getD k []) := by
 have hk' : k < symbols.length := hk;rw [getD_at hk'] at h1 ⊢;rw [hasP_pre] at h1;refine List.find?_eq_some_iff_getElem.2 ⟨h1,k,hk',rfl,fun j hj => ?_⟩;have := h0 j hj;rw [getD_at (by omega),hasP_pre] at this;simp [this]
theorem sym_none {l : Str} (h0 : ∀ j,j < 25 → hasP l (symbols.getD j []) = false) : symbols.find? (fun x => x.isPrefixOf l) = none := by
 rw [List.find?_eq_none];intro x hx;obtain ⟨j,hj,rfl⟩ := List.mem_iff_getElem.1 hx;have := h0 j hj;rw [getD_at hj,hasP_pre] at this;simp [this]
set_option maxRecDepth 100000 in
theorem read_any (H : Hp) (G : Gl H) (l : Str) (hl : l.length ≤ 9223372036854775807) (h0 : l ≠ []) (w : World) (hA : Agr H w) :
 Calls Tryz.prog 93 #[strV l] w fun e w' => e = .returned (.tuple #[.int .u8 ((readK l).1.toNat : Nat),.int .i64 ((readK l).2 : Nat)]) ∧ Ext w w' := by
 match l,h0 with
 | c :: r,_ =>
 refine Sx.enter (H := H) Tryz.func93 rfl Tryz.ntmps93 rfl hA ?_;refine .sr<|.a Z Z<|.a Z Z<|.nt<|.sq<|.sr<|.m Z Z<|.yv (.idxS Fx.str9 Z Z Z (b := c) (j := 0) Z) Z<|.a Z Z<|.nt<|.bk<|.sr<|.m Z Z<|.yv (.call Fx.call106 Z (fun W s => letter_any c W)) Z<|.a Z Z<|.nt<|.cd Z (fun h21 => ?_) (fun h21 => ?_)
 ·skip
  refine .sr<|.m Z Z<|.yv (.call Fx.call107 Z (fun W s => prefix_any 108 insB Fx.call108 inside_any (c :: r) hl W)) Z<|.a Z Z<|.nt<|.sq<|.sr<|.m Z Z<|.m Z Z<|.yv (.takeS Fx.str9 Z Z Z (pre_le _ _)) Z<|.yv (.call Fx.call109 Z (fun W s => keyword_any H G _ W s.agr)) Z<|.nt<|.cd Z (fun h29 => ?_) (fun h29 => ?_)
  ·skip
   refine .sr<|.m Z Z<|.a Z Z<|.a Z Z<|.nt<|.rt<|.tR<|.bR<|.tR<|?_
   first
    | exact Sx.retN (.inl rfl) rfl (.cons (.tmp rfl) (.cons (.tmp rfl) .nil)) rfl fun W s => ⟨by simp only [readK,List.headD_cons,h21,h29,if_true];rfl,s.ext⟩
    | exact Sx.retN (.inl rfl) rfl (.cons (.tmp rfl) (.cons (.tmp rfl) .nil)) rfl fun W s => ⟨by simp only [readK,List.headD_cons,h21,h29,if_true,Bool.false_eq_true,if_false,show pre insB (c :: r) ≤ 12 by omega];rfl,s.ext⟩
    | exact Sx.retN (.inl rfl) rfl (.cons (.tmp rfl) (.cons (.tmp rfl) .nil)) rfl fun W s => ⟨by simp only [readK,List.headD_cons,h21,h29,if_true,Bool.false_eq_true,if_false,show ¬ pre insB (c :: r) ≤ 12 by omega];rfl,s.ext⟩
    | exact Sx.retN (.inl rfl) rfl (.cons (.tmp rfl) (.cons (.tmp rfl) .nil)) rfl fun W s => ⟨by simp only [readK,List.headD_cons,h21,h34,if_true,Bool.false_eq_true,if_false,hor];rfl,s.ext⟩
    | exact Sx.retN (.inl rfl) rfl (.cons (.tmp rfl) (.cons (.tmp rfl) .nil)) rfl fun W s => ⟨by simp only [readK,List.headD_cons,h21,h34,Bool.false_eq_true,if_false,hfind];rfl,s.ext⟩
  skip
  refine .sk<|.tN<|.sr<|.m Z Z<|.yv (.leq Z Z) Z<|.nt<|.cd Z (fun h32 => ?_) (fun h32 => ?_)
  ·try simp only [dt] at h32
   refine .sr<|.m Z Z<|.a Z Z<|.a Z Z<|.nt<|.rt<|.bR<|.tR<|?_
   first
    | exact Sx.retN (.inl rfl) rfl (.cons (.tmp rfl) (.cons (.tmp rfl) .nil)) rfl fun W s => ⟨by simp only [readK,List.headD_cons,h21,h29,if_true];rfl,s.ext⟩
    | exact Sx.retN (.inl rfl) rfl (.cons (.tmp rfl) (.cons (.tmp rfl) .nil)) rfl fun W s => ⟨by simp only [readK,List.headD_cons,h21,h29,if_true,Bool.false_eq_true,if_false,show pre insB (c :: r) ≤ 12 by omega];rfl,s.ext⟩
    | exact Sx.retN (.inl rfl) rfl (.cons (.tmp rfl) (.cons (.tmp rfl) .nil)) rfl fun W s => ⟨by simp only [readK,List.headD_cons,h21,h29,if_true,Bool.false_eq_true,if_false,show ¬ pre insB (c :: r) ≤ 12 by omega];rfl,s.ext⟩
    | exact Sx.retN (.inl rfl) rfl (.cons (.tmp rfl) (.cons (.tmp rfl) .nil)) rfl fun W s => ⟨by simp only [readK,List.headD_cons,h21,h34,if_true,Bool.false_eq_true,if_false,hor];rfl,s.ext⟩
    | exact Sx.retN (.inl rfl) rfl (.cons (.tmp rfl) (.cons (.tmp rfl) .nil)) rfl fun W s => ⟨by simp only [readK,List.headD_cons,h21,h34,Bool.false_eq_true,if_false,hfind];rfl,s.ext⟩
  try simp only [df] at h32
  refine .sk<|.bN<|.tN<|.sr<|.m Z Z<|.yv (.lenS Fx.str9 Z) Z<|.a Z Z<|.a Z Z<|.nt<|.rt<|?_
  first
   | exact Sx.retN (.inl rfl) rfl (.cons (.tmp rfl) (.cons (.tmp rfl) .nil)) rfl fun W s => ⟨by simp only [readK,List.headD_cons,h21,h29,if_true];rfl,s.ext⟩
   | exact Sx.retN (.inl rfl) rfl (.cons (.tmp rfl) (.cons (.tmp rfl) .nil)) rfl fun W s => ⟨by simp only [readK,List.headD_cons,h21,h29,if_true,Bool.false_eq_true,if_false,show pre insB (c :: r) ≤ 12 by omega];rfl,s.ext⟩
   | exact Sx.retN (.inl rfl) rfl (.cons (.tmp rfl) (.cons (.tmp rfl) .nil)) rfl fun W s => ⟨by simp only [readK,List.headD_cons,h21,h29,if_true,Bool.false_eq_true,if_false,show ¬ pre insB (c :: r) ≤ 12 by omega];rfl,s.ext⟩
   | exact Sx.retN (.inl rfl) rfl (.cons (.tmp rfl) (.cons (.tmp rfl) .nil)) rfl fun W s => ⟨by simp only [readK,List.headD_cons,h21,h34,if_true,Bool.false_eq_true,if_false,hor];rfl,s.ext⟩
   | exact Sx.retN (.inl rfl) rfl (.cons (.tmp rfl) (.cons (.tmp rfl) .nil)) rfl fun W s => ⟨by simp only [readK,List.headD_cons,h21,h34,Bool.false_eq_true,if_false,hfind];rfl,s.ext⟩
 skip
 refine .sr<|.m Z Z<|.yv (.call Fx.call110 Z (fun W s => digit_any c W)) Z<|.a Z Z<|.nt<|.cd Z (fun h34 => ?_) (fun h34 => ?_)
 ·skip
  refine .sr<|.m Z Z<|.yv (.call Fx.call107 Z (fun W s => prefix_any 110 digB Fx.call110 digit_any (c :: r) hl W)) Z<|.a Z Z<|.ns<|.m Z Z<|.yv (.eql Z Z) Z<|.m Z Z<|.b2 (fun h41 => ?_) (fun h41 => ?_)
  ·try simp only [dt] at h41
   have hor : (pre digB (c :: r) = 1 ∨ c ≠ 48) = True := eq_true (.inl (by omega));refine .gF Z Z Z Z<|.gF Z Z Z Z<|.yv (.pickT Z Z) Z<|.nt<|.cT Z<|.sr<|.m Z Z<|.a Z Z<|.a Z Z<|.nt<|.rt<|.bR<|.tR<|?_
   first
    | exact Sx.retN (.inl rfl) rfl (.cons (.tmp rfl) (.cons (.tmp rfl) .nil)) rfl fun W s => ⟨by simp only [readK,List.headD_cons,h21,h29,if_true];rfl,s.ext⟩
    | exact Sx.retN (.inl rfl) rfl (.cons (.tmp rfl) (.cons (.tmp rfl) .nil)) rfl fun W s => ⟨by simp only [readK,List.headD_cons,h21,h29,if_true,Bool.false_eq_true,if_false,show pre insB (c :: r) ≤ 12 by omega];rfl,s.ext⟩
    | exact Sx.retN (.inl rfl) rfl (.cons (.tmp rfl) (.cons (.tmp rfl) .nil)) rfl fun W s => ⟨by simp only [readK,List.headD_cons,h21,h29,if_true,Bool.false_eq_true,if_false,show ¬ pre insB (c :: r) ≤ 12 by omega];rfl,s.ext⟩
    | exact Sx.retN (.inl rfl) rfl (.cons (.tmp rfl) (.cons (.tmp rfl) .nil)) rfl fun W s => ⟨by simp only [readK,List.headD_cons,h21,h34,if_true,Bool.false_eq_true,if_false,hor];rfl,s.ext⟩
    | exact Sx.retN (.inl rfl) rfl (.cons (.tmp rfl) (.cons (.tmp rfl) .nil)) rfl fun W s => ⟨by simp only [readK,List.headD_cons,h21,h34,Bool.false_eq_true,if_false,hfind];rfl,s.ext⟩
  try simp only [df] at h41
  refine .gd Z Z<|.yv (.move Z) Z<|.gd Z Z<|.yv (.neq Z Z) Z<|.yv (.pickF Z Z) Z<|.nt<|.cd Z (fun h44 => ?_) (fun h44 => ?_)
  ·try simp only [dt] at h44
   have hor : (pre digB (c :: r) = 1 ∨ c ≠ 48) = True := eq_true (.inr fun e => h44 (by rw [e];rfl));refine .sr<|.m Z Z<|.a Z Z<|.a Z Z<|.nt<|.rt<|.bR<|.tR<|?_
   first
    | exact Sx.retN (.inl rfl) rfl (.cons (.tmp rfl) (.cons (.tmp rfl) .nil)) rfl fun W s => ⟨by simp only [readK,List.headD_cons,h21,h29,if_true];rfl,s.ext⟩
    | exact Sx.retN (.inl rfl) rfl (.cons (.tmp rfl) (.cons (.tmp rfl) .nil)) rfl fun W s => ⟨by simp only [readK,List.headD_cons,h21,h29,if_true,Bool.false_eq_true,if_false,show pre insB (c :: r) ≤ 12 by omega];rfl,s.ext⟩
    | exact Sx.retN (.inl rfl) rfl (.cons (.tmp rfl) (.cons (.tmp rfl) .nil)) rfl fun W s => ⟨by simp only [readK,List.headD_cons,h21,h29,if_true,Bool.false_eq_true,if_false,show ¬ pre insB (c :: r) ≤ 12 by omega];rfl,s.ext⟩
    | exact Sx.retN (.inl rfl) rfl (.cons (.tmp rfl) (.cons (.tmp rfl) .nil)) rfl fun W s => ⟨by simp only [readK,List.headD_cons,h21,h34,if_true,Bool.false_eq_true,if_false,hor];rfl,s.ext⟩
    | exact Sx.retN (.inl rfl) rfl (.cons (.tmp rfl) (.cons (.tmp rfl) .nil)) rfl fun W s => ⟨by simp only [readK,List.headD_cons,h21,h34,Bool.false_eq_true,if_false,hfind];rfl,s.ext⟩
  try simp only [df] at h44
  have hor : (pre digB (c :: r) = 1 ∨ c ≠ 48) = False := eq_false fun h => by
   rcases h with h | h
   ·omega
   ·exact h (UInt8.toNat_inj.1 (by show c.toNat = 48;simp at h44;omega))
  refine .sk<|.bN<|.tN<|.sr<|.m Z Z<|.yv (.lenS Fx.str9 Z) Z<|.a Z Z<|.a Z Z<|.nt<|.rt<|?_
  first
   | exact Sx.retN (.inl rfl) rfl (.cons (.tmp rfl) (.cons (.tmp rfl) .nil)) rfl fun W s => ⟨by simp only [readK,List.headD_cons,h21,h29,if_true];rfl,s.ext⟩
   | exact Sx.retN (.inl rfl) rfl (.cons (.tmp rfl) (.cons (.tmp rfl) .nil)) rfl fun W s => ⟨by simp only [readK,List.headD_cons,h21,h29,if_true,Bool.false_eq_true,if_false,show pre insB (c :: r) ≤ 12 by omega];rfl,s.ext⟩
   | exact Sx.retN (.inl rfl) rfl (.cons (.tmp rfl) (.cons (.tmp rfl) .nil)) rfl fun W s => ⟨by simp only [readK,List.headD_cons,h21,h29,if_true,Bool.false_eq_true,if_false,show ¬ pre insB (c :: r) ≤ 12 by omega];rfl,s.ext⟩
   | exact Sx.retN (.inl rfl) rfl (.cons (.tmp rfl) (.cons (.tmp rfl) .nil)) rfl fun W s => ⟨by simp only [readK,List.headD_cons,h21,h34,if_true,Bool.false_eq_true,if_false,hor];rfl,s.ext⟩
   | exact Sx.retN (.inl rfl) rfl (.cons (.tmp rfl) (.cons (.tmp rfl) .nil)) rfl fun W s => ⟨by simp only [readK,List.headD_cons,h21,h34,Bool.false_eq_true,if_false,hfind];rfl,s.ext⟩
 skip
 refine .sr<|.yv (.loadMW Z Fx.agg216 G.symbols Z) Z<|.m Z Z<|.nt<|.bk<|.lp (X := Nat) [(0,_),(11,_)] ⟨rfl,rfl,trivial⟩ [] (fun k => [(12,.int .i64 (k : Nat))]) (fun k => H) (fun k => []) (fun k => k ≤ 25 ∧ ∀ j,j < k → hasP (c :: r) (symbols.getD j []) = false) (fun k => 25 - k) 0 (fun _ s => s) ⟨rfl,trivial⟩ ⟨by omega,fun j hj => by omega⟩ fun k hC => ?_
 obtain ⟨hk,hne⟩ := hC;refine .sr<|.yv (.lss Z Z) Z<|.nt<|.sq<|.cd Z (fun h13 => ?_) (fun h13 => ?_)
 ·try simp only [dt] at h13
  refine .sk<|.tN<|.sq<|.bk<|.sr<|.yv (.idxA Fx.arr216 Fx.are216 Z Z Z (by omega) (list_at (by show k < 25;omega) [])) Z<|.a Z Z<|.ns<|.m Z Z<|.m Z Z<|.yv (.call Fx.call111 Z (fun W s => hasPrefix_any (c :: r) _ W)) Z<|.nt<|.cd Z (fun h17 => ?_) (fun h17 => ?_)
  ·have hfind := sym_find (by omega) hne h17;refine .sr<|.m Z Z<|.yv (.lenS Fx.str9 Z) Z<|.a Z Z<|.a Z Z<|.nt<|.rt<|.bR<|.tR<|.tR<|.bR<|.bR<|.tR<|?_
   first
    | exact Sx.retN (.inl rfl) rfl (.cons (.tmp rfl) (.cons (.tmp rfl) .nil)) rfl fun W s => ⟨by simp only [readK,List.headD_cons,h21,h29,if_true];rfl,s.ext⟩
    | exact Sx.retN (.inl rfl) rfl (.cons (.tmp rfl) (.cons (.tmp rfl) .nil)) rfl fun W s => ⟨by simp only [readK,List.headD_cons,h21,h29,if_true,Bool.false_eq_true,if_false,show pre insB (c :: r) ≤ 12 by omega];rfl,s.ext⟩
    | exact Sx.retN (.inl rfl) rfl (.cons (.tmp rfl) (.cons (.tmp rfl) .nil)) rfl fun W s => ⟨by simp only [readK,List.headD_cons,h21,h29,if_true,Bool.false_eq_true,if_false,show ¬ pre insB (c :: r) ≤ 12 by omega];rfl,s.ext⟩
    | exact Sx.retN (.inl rfl) rfl (.cons (.tmp rfl) (.cons (.tmp rfl) .nil)) rfl fun W s => ⟨by simp only [readK,List.headD_cons,h21,h34,if_true,Bool.false_eq_true,if_false,hor];rfl,s.ext⟩
    | exact Sx.retN (.inl rfl) rfl (.cons (.tmp rfl) (.cons (.tmp rfl) .nil)) rfl fun W s => ⟨by simp only [readK,List.headD_cons,h21,h34,Bool.false_eq_true,if_false,hfind];rfl,s.ext⟩
  skip
  exact .sk<|.bN<|.tN<|.rg<|.yv (.add Z Z (w6 (by omega))) Z<|.m Z Z<|.nt<|.ag (k + 1) ⟨rfl,trivial⟩ ⟨rfl,rfl,trivial⟩ (fun _ s => s) ⟨by omega,fun j hj => by
   by_cases e : j = k
   ·subst e;exact h17
   ·exact hne j (by omega)⟩ (by omega)
 try simp only [df] at h13
 have hfind := sym_none (l := c :: r) (fun j hj => hne j (by omega));refine .ex<|.tE<|.tE<|.bE<|.bN<|.tN<|.sr<|.m Z Z<|.yv (.lenS Fx.str9 Z) Z<|.a Z Z<|.a Z Z<|.nt<|.rt<|?_
 first
  | exact Sx.retN (.inl rfl) rfl (.cons (.tmp rfl) (.cons (.tmp rfl) .nil)) rfl fun W s => ⟨by simp only [readK,List.headD_cons,h21,h29,if_true];rfl,s.ext⟩
  | exact Sx.retN (.inl rfl) rfl (.cons (.tmp rfl) (.cons (.tmp rfl) .nil)) rfl fun W s => ⟨by simp only [readK,List.headD_cons,h21,h29,if_true,Bool.false_eq_true,if_false,show pre insB (c :: r) ≤ 12 by omega];rfl,s.ext⟩
  | exact Sx.retN (.inl rfl) rfl (.cons (.tmp rfl) (.cons (.tmp rfl) .nil)) rfl fun W s => ⟨by simp only [readK,List.headD_cons,h21,h29,if_true,Bool.false_eq_true,if_false,show ¬ pre insB (c :: r) ≤ 12 by omega];rfl,s.ext⟩
  | exact Sx.retN (.inl rfl) rfl (.cons (.tmp rfl) (.cons (.tmp rfl) .nil)) rfl fun W s => ⟨by simp only [readK,List.headD_cons,h21,h34,if_true,Bool.false_eq_true,if_false,hor];rfl,s.ext⟩
  | exact Sx.retN (.inl rfl) rfl (.cons (.tmp rfl) (.cons (.tmp rfl) .nil)) rfl fun W s => ⟨by simp only [readK,List.headD_cons,h21,h34,Bool.false_eq_true,if_false,hfind];rfl,s.ext⟩
set_option maxRecDepth 100000 in
theorem isName_any (H : Hp) (G : Gl H) (l : Str) (hl : l.length ≤ 9223372036854775807) (w : World) (hA : Agr H w) :
 Calls Tryz.prog 64 #[strV l] w fun r w' => r = .returned (.bool (nameB l)) ∧ Ext w w' := by
 refine Sx.enter (H := H) Tryz.func64 rfl Tryz.ntmps64 rfl hA ?_;refine .sr<|.a Z Z<|.nt<|.sq<|.sr<|.m Z Z<|.yv (.eqS Z Z) Z<|.nt<|.cd Z (fun h6 => ?_) (fun h6 => ?_)
 ·try simp only [dt] at h6
  subst h6;refine .sr<|.a Z Z<|.nt<|.rt<|.tR<|?_
  refine Sx.ret1 (.inl rfl) rfl (.tmp rfl) fun W s => ⟨retB ?_,s.ext⟩
  first
   | (rw [nameB,show (readK l).1 = 1 from h1];simp [h6];omega)
   | (rw [show nameB l = false by simp [nameB,h1]])
   | (rfl)
 try simp only [df] at h6
 skip
 refine .sk<|.tN<|.sr<|.m Z Z<|.yv (.call Fx.call93 Z (fun W s => read_any H G l hl h6 W s.agr)) Z<|.m Z Z<|.yv (.extract Z Z) Z<|.yv (.extract Z Z) Z<|.a Z Z<|.a Z Z<|.ns<|.m Z Z<|.yv (.eql Z Z) Z<|.m Z Z<|.b2 (fun h14 => ?_) (fun h14 => ?_)
 ·try simp only [dt] at h14
  have h1 : (readK l).1 = 1 := UInt8.toNat_inj.1 (by show _ = 1;omega);refine .gd Z Z<|.yv (.move Z) Z<|.gd Z Z<|.yv (.move Z) Z<|.gd Z Z<|.yv (.lenS Fx.str9 Z) Z<|.gd Z Z<|.yv (.eql Z Z) Z<|.yv (.pickT Z Z) Z<|.a Z Z<|.nt<|.rt<|?_
  refine Sx.ret1 (.inl rfl) rfl (.tmp rfl) fun W s => ⟨retB ?_,s.ext⟩
  first
   | (rw [nameB,show (readK l).1 = 1 from h1];simp [h6];omega)
   | (rw [show nameB l = false by simp [nameB,h1]])
   | (rfl)
 try simp only [df] at h14
 have h1 : ¬ (readK l).1 = 1 := fun e => h14 (by rw [e];rfl);refine .gF Z Z Z Z<|.gF Z Z Z Z<|.gF Z Z Z Z<|.gF Z Z Z Z<|.yv (.pickF Z Z) Z<|.a Z Z<|.nt<|.rt<|?_
 refine Sx.ret1 (.inl rfl) rfl (.tmp rfl) fun W s => ⟨retB ?_,s.ext⟩
 first
  | (rw [nameB,show (readK l).1 = 1 from h1];simp [h6];omega)
  | (rw [show nameB l = false by simp [nameB,h1]])
  | (rfl)
theorem Fx.agg2 : aggN Tryz.prog 2 = Option.some Option.none := by kernel_rfl
theorem Fx.agg3 : aggN Tryz.prog 3 = Option.some Option.none := by kernel_rfl
theorem Fx.agg4 : aggN Tryz.prog 4 = Option.some Option.none := by kernel_rfl
theorem Fx.agg9 : aggN Tryz.prog 9 = Option.some Option.none := by kernel_rfl
theorem Fx.agg65 : aggN Tryz.prog 65 = Option.some Option.none := by kernel_rfl
theorem Fx.agg180 : aggN Tryz.prog 180 = Option.some (Option.some 4) := by kernel_rfl
theorem Fx.agg199 : aggN Tryz.prog 199 = Option.some (Option.some 6) := by kernel_rfl
theorem Fx.arr209 : arrN Tryz.prog 209 = Option.some (24,4) := by kernel_rfl
theorem Fx.arr218 : arrN Tryz.prog 218 = Option.some (11,6) := by kernel_rfl
theorem Fx.call46 : callN Tryz.prog 46 = Bool.true := by kernel_rfl
theorem Fx.call47 : callN Tryz.prog 47 = Bool.true := by kernel_rfl
theorem Fx.call48 : callN Tryz.prog 48 = Bool.true := by kernel_rfl
theorem Fx.call64 : callN Tryz.prog 64 = Bool.true := by kernel_rfl
theorem Fx.call81 : callN Tryz.prog 81 = Bool.true := by kernel_rfl
theorem Fx.field68_0 : fieldN Tryz.prog 68 0 = Option.some 0 := by kernel_rfl
theorem Fx.field68_1 : fieldN Tryz.prog 68 1 = Option.some 1 := by kernel_rfl
theorem Fx.field68_2 : fieldN Tryz.prog 68 2 = Option.some 2 := by kernel_rfl
theorem Fx.field180_0 : fieldN Tryz.prog 180 0 = Option.some 0 := by kernel_rfl
theorem Fx.field180_1 : fieldN Tryz.prog 180 1 = Option.some 1 := by kernel_rfl
theorem Fx.size180 : sizeN Tryz.prog 180 = Option.some 4 := by kernel_rfl
theorem Fx.size199 : sizeN Tryz.prog 199 = Option.some 6 := by kernel_rfl
theorem Fx.zero180 : zeroN Tryz.prog 180 = Option.some
 [Go.Value.int Go.IntKind.i64 (Int.ofNat 0),Go.Value.bool Bool.false,Go.Value.int Go.IntKind.i64 (Int.ofNat 0),
  Go.Value.string { data := { toList := [] } }] := by kernel_rfl
theorem Fx.zero199 : zeroN Tryz.prog 199 = Option.some
 [Go.Value.bool Bool.false,Go.Value.bool Bool.false,Go.Value.int Go.IntKind.i64 (Int.ofNat 0),
  Go.Value.int Go.IntKind.i64 (Int.ofNat 0),Go.Value.bool Bool.false,Go.Value.bool Bool.false] := by kernel_rfl
theorem Fx.bld180  : buildN Tryz.prog 180 [] = some [.int .i64 0,.bool false,.int .i64 0,.string ⟨#[]⟩] := by kernel_rfl
theorem Fx.bld199  : buildN Tryz.prog 199 [] = some [.bool false,.bool false,.int .i64 0,.int .i64 0,.bool false,.bool false] := by kernel_rfl
set_option maxRecDepth 100000 in
theorem shape_any (H : Hp) (G : Gl H) (op : UInt8) (w : World) (hA : Agr H w) :
 Calls Tryz.prog 81 #[.int .u8 op.toNat] w fun r w' => r = .returned (.tuple #[.agg (shapeC (shapeOf op)).toArray,.bool (okOp op)]) ∧ Ext w w' := by
 refine Sx.enter (H := H) Tryz.func81 rfl Tryz.ntmps81 rfl hA ?_;refine .sr<|.al Fx.zero180 Z fun b2 => .a Z Z<|.nt<|.sq<|.sr<|.m Z Z<|.yv (.lss Z Z) Z<|.m Z Z<|.b2 (fun h6 => ?_) (fun h6 => ?_)
 ·try simp only [dt] at h6
  have hno : okOp op = false := by simp [okOp];omega
  refine .gF Z Z Z Z<|.gF Z Z Z Z<|.yv (.pickT Z Z) Z<|.nt<|.cT Z<|.sr<|.yv (.build Z Fx.bld180) Z<|.sW .head Z Z Fx.size180 (by simp [Value.oneCell',strV]) Z<|.a Z Z<|.nt<|.rt<|.tR<|?_
  refine Sx.retN (.inl rfl) rfl (.cons (.cell rfl Fx.agg180 (.head _) rfl) (.cons (.tmp rfl) .nil)) rfl fun W s => ⟨?_,s.ext⟩
  first
   | (rw [shapeOf,hno];rfl)
   | (rw [shapeOf,hok];rfl)
 try simp only [df] at h6
 refine .gd Z Z<|.yv (.move Z) Z<|.gd Z Z<|.yv (.gtr Z Z) Z<|.yv (.pickF Z Z) Z<|.nt<|.cd Z (fun h9 => ?_) (fun h9 => ?_)
 ·try simp only [dt] at h9
  have hno : okOp op = false := by simp [okOp];omega
  refine .sr<|.yv (.build Z Fx.bld180) Z<|.sW .head Z Z Fx.size180 (by simp [Value.oneCell',strV]) Z<|.a Z Z<|.nt<|.rt<|.tR<|?_
  refine Sx.retN (.inl rfl) rfl (.cons (.cell rfl Fx.agg180 (.head _) rfl) (.cons (.tmp rfl) .nil)) rfl fun W s => ⟨?_,s.ext⟩
  first
   | (rw [shapeOf,hno];rfl)
   | (rw [shapeOf,hok];rfl)
 try simp only [df] at h9
 have hok : okOp op = true := by simp [okOp];omega
 refine .sk<|.tN<|.sr<|.m Z Z<|.yv (.indexArr Fx.arr209 Z Z Z (by omega) (q := op.toNat * 4) (by omega)) Z<|.yv (.loadMS (k := op.toNat * 4) (vs := shapeC (shapes.getD op.toNat ⟨0,false,0,[]⟩)) Z Fx.agg180 G.shapes (by omega) Z (flat_at (f := shapeC) (z := 4) (l := shapes) (i := op.toNat) (fun _ => rfl) _ (by show op.toNat < 24;omega))) Z<|.sV .head Z Z Fx.size180 Z (by simp [shapeC,Value.oneCell',strV]) Z<|.a Z Z<|.nt<|.rt<|?_
 refine Sx.retN (.inl rfl) rfl (.cons (.cell rfl Fx.agg180 (.head _) rfl) (.cons (.tmp rfl) .nil)) rfl fun W s => ⟨?_,s.ext⟩
 first
  | (rw [shapeOf,hno];rfl)
  | (rw [shapeOf,hok];rfl)
set_option maxRecDepth 100000 in
theorem form_any (H : Hp) (G : Gl H) (op : UInt8) (w : World) (hA : Agr H w) :
 Calls Tryz.prog 94 #[.int .u8 op.toNat] w fun r w' => r = .returned (.tuple #[.agg (formC (formOf op)).toArray,.bool (okKd op)]) ∧ Ext w w' := by
 refine Sx.enter (H := H) Tryz.func94 rfl Tryz.ntmps94 rfl hA ?_;refine .sr<|.al Fx.zero199 Z fun b2 => .a Z Z<|.nt<|.sq<|.sr<|.m Z Z<|.yv (.lss Z Z) Z<|.m Z Z<|.b2 (fun h6 => ?_) (fun h6 => ?_)
 ·try simp only [dt] at h6
  have hno : okKd op = false := by simp [okKd];omega
  refine .gF Z Z Z Z<|.gF Z Z Z Z<|.yv (.pickT Z Z) Z<|.nt<|.cT Z<|.sr<|.yv (.build Z Fx.bld199) Z<|.sW .head Z Z Fx.size199 (by simp [Value.oneCell',strV]) Z<|.a Z Z<|.nt<|.rt<|.tR<|?_
  refine Sx.retN (.inl rfl) rfl (.cons (.cell rfl Fx.agg199 (.head _) rfl) (.cons (.tmp rfl) .nil)) rfl fun W s => ⟨?_,s.ext⟩
  first
   | (rw [formOf,hno];rfl)
   | (rw [formOf,hok];rfl)
 try simp only [df] at h6
 refine .gd Z Z<|.yv (.move Z) Z<|.gd Z Z<|.yv (.gtr Z Z) Z<|.yv (.pickF Z Z) Z<|.nt<|.cd Z (fun h9 => ?_) (fun h9 => ?_)
 ·try simp only [dt] at h9
  have hno : okKd op = false := by simp [okKd];omega
  refine .sr<|.yv (.build Z Fx.bld199) Z<|.sW .head Z Z Fx.size199 (by simp [Value.oneCell',strV]) Z<|.a Z Z<|.nt<|.rt<|.tR<|?_
  refine Sx.retN (.inl rfl) rfl (.cons (.cell rfl Fx.agg199 (.head _) rfl) (.cons (.tmp rfl) .nil)) rfl fun W s => ⟨?_,s.ext⟩
  first
   | (rw [formOf,hno];rfl)
   | (rw [formOf,hok];rfl)
 try simp only [df] at h9
 have hok : okKd op = true := by simp [okKd];omega
 refine .sk<|.tN<|.sr<|.m Z Z<|.yv (.indexArr Fx.arr218 Z Z Z (by omega) (q := op.toNat * 6) (by omega)) Z<|.yv (.loadMS (k := op.toNat * 6) (vs := formC (forms.getD op.toNat ⟨false,false,0,0,false,false⟩)) Z Fx.agg199 G.forms (by omega) Z (flat_at (f := formC) (z := 6) (l := forms) (i := op.toNat) (fun _ => rfl) _ (by show op.toNat < 11;omega))) Z<|.sV .head Z Z Fx.size199 Z (by simp [formC,Value.oneCell',strV]) Z<|.a Z Z<|.nt<|.rt<|?_
 refine Sx.retN (.inl rfl) rfl (.cons (.cell rfl Fx.agg199 (.head _) rfl) (.cons (.tmp rfl) .nil)) rfl fun W s => ⟨?_,s.ext⟩
 first
  | (rw [formOf,hno];rfl)
  | (rw [formOf,hok];rfl)
def ExFn (gf : FuncId) (q : Ex → Bool) : Prop := callN Tryz.prog gf = true ∧ ∀ (H : Hp),Gl H → ∀ (e : Ex) (cs : List Value) (b o : Nat) (w : World),Rep H (dEx .u8 e) cs → MemAt H b o cs → Agr H w →
 Calls Tryz.prog gf #[.pointer (some ⟨b,o,none⟩)] w fun r w' => r = .returned (.bool (q e)) ∧ Ext w w'
set_option maxRecDepth 100000 in
theorem everyExpr_any (gf : FuncId) (q : Ex → Bool) (hg : ExFn gf q) (H : Hp) (G : Gl H) (e : Ex) : ∀ (cs : List Value) (b o : Nat) (w : World),Rep H (dEx .u8 e) cs → MemAt H b o cs → Agr H w →
 Calls Tryz.prog 46 #[.pointer (some ⟨b,o,none⟩),.func (.func gf) #[] #[]] w fun r w' => r = .returned (.bool (e.all q)) ∧ Ext w w' := by
 induction e using Ex.ind with | _ op nm nn args ih
 intro cs b o w h hm hA;obtain ⟨p,c,rfl,hs,hnm⟩ := ex_open h;have hcap := hs.cap;refine Sx.enter (H := H) Tryz.func46 rfl Tryz.ntmps46 rfl hA ?_;refine .sr<|.a Z Z<|.nt<|.sq<|.sr<|.m Z Z<|.m Z Z<|.yv (.callV (fi := []) (ca := []) Z hg.1 Z (fun W s => hg.2 H G _ _ b o W h hm s.agr)) Z<|.yv (.not Z) Z<|.nt<|.cd Z (fun h9 => ?_) (fun h9 => ?_)
 ·skip
  refine .sr<|.a Z Z<|.nt<|.rt<|.tR<|?_
  refine Sx.ret1 (.inl rfl) rfl (.tmp rfl) fun W s => ⟨retB ?_,s.ext⟩
  first
   | (rw [all_mk,show q (.mk op nm nn args) = false by simpa using h9];rfl)
   | (rw [all_mk,alls_bad hk (by simpa using h26)];simp)
   | (rw [all_mk,hal,show q (.mk op nm nn args) = true by simpa using h9];rfl)
 skip
 refine .sk<|.tN<|.sq<|.sr<|.m Z Z<|.yv (.nilCheck Z) Z<|.yv (.fieldAddr Z Fx.field68_3) Z<|.yv (.loadM Z Fx.agg66 hm (k := 3) Z Z) Z<|.yv (.lenSl Fx.sl66 Z) Z<|.m Z Z<|.nt<|.bk<|.lp (X := Nat) [(0,_),(1,_),(14,_)] ⟨rfl,rfl,rfl,trivial⟩ [] (fun k => [(15,.int .i64 (k : Nat))]) (fun k => H) (fun k => []) (fun k => k ≤ args.length ∧ Ex.alls q (args.take k) = true) (fun k => args.length - k) 0 (fun _ s => s) ⟨rfl,trivial⟩ ⟨by omega,rfl⟩ fun k hC => ?_
 obtain ⟨hk0,hal⟩ := hC;refine .sr<|.yv (.lss Z Z) Z<|.nt<|.sq<|.cd Z (fun h16 => ?_) (fun h16 => ?_)
 ·try simp only [dt] at h16
  have hk : k < args.length := by omega
  obtain ⟨b5,o5,c5,hp5,r5,l5,m5⟩ := hs.elem (map_at hk);cases hp5;refine .sk<|.tN<|.sq<|.bk<|.sr<|.m Z Z<|.a Z Z<|.ns<|.m Z Z<|.yv (.nilCheck Z) Z<|.yv (.fieldAddr Z Fx.field68_3) Z<|.yv (.loadM Z Fx.agg66 hm (k := 3) Z Z) Z<|.m Z Z<|.yv (.indexSl Fx.sl66 Z Z Z (by omega) (q := o5 + k * 4) Z) Z<|.m Z Z<|.yv (.call Fx.call46 Z (fun W s => ih _ (List.getElem_mem hk) c5 b5 (o5 + k * 4) W r5 m5 s.agr)) Z<|.yv (.not Z) Z<|.nt<|.cd Z (fun h26 => ?_) (fun h26 => ?_)
  ·skip
   refine .sr<|.a Z Z<|.nt<|.rt<|.bR<|.tR<|.tR<|.bR<|.tR<|?_
   refine Sx.ret1 (.inl rfl) rfl (.tmp rfl) fun W s => ⟨retB ?_,s.ext⟩
   first
    | (rw [all_mk,show q (.mk op nm nn args) = false by simpa using h9];rfl)
    | (rw [all_mk,alls_bad hk (by simpa using h26)];simp)
    | (rw [all_mk,hal,show q (.mk op nm nn args) = true by simpa using h9];rfl)
  skip
  exact .sk<|.bN<|.tN<|.rg<|.yv (.add Z Z (w6 (by omega))) Z<|.m Z Z<|.nt<|.ag (k + 1) ⟨rfl,trivial⟩ ⟨rfl,rfl,rfl,trivial⟩ (fun _ s => s) ⟨by omega,by rw [alls_succ hk,hal];simpa using h26⟩ (by omega)
 try simp only [df] at h16
 obtain rfl : k = args.length := by omega
 rw [List.take_length] at hal;refine .ex<|.tE<|.tE<|.bE<|.tN<|.sr<|.a Z Z<|.nt<|.rt<|?_
 refine Sx.ret1 (.inl rfl) rfl (.tmp rfl) fun W s => ⟨retB ?_,s.ext⟩
 first
  | (rw [all_mk,show q (.mk op nm nn args) = false by simpa using h9];rfl)
  | (rw [all_mk,alls_bad hk (by simpa using h26)];simp)
  | (rw [all_mk,hal,show q (.mk op nm nn args) = true by simpa using h9];rfl)
set_option maxRecDepth 100000 in
theorem namedExpr_any : ExFn 47 namE := by
 refine ⟨Fx.call47,fun H G e cs b o w h hm hA => ?_⟩;obtain ⟨op,nm,nn,args⟩ := e;obtain ⟨p,c,rfl,hs,hnm⟩ := ex_open h;have hcap := hs.cap;refine Sx.enter (H := H) Tryz.func47 rfl Tryz.ntmps47 rfl hA ?_;refine .sr<|.a Z Z<|.ns<|.m Z Z<|.yv (.nilCheck Z) Z<|.yv (.fieldAddr Z Fx.field68_0) Z<|.yv (.loadM Z Fx.agg65 hm (k := 0) Z Z) Z<|.yv (.call Fx.call81 Z (fun W s => shape_any H G op W s.agr)) Z<|.m Z Z<|.yv (.extract Z Z) Z<|.yv (.extract Z Z) Z<|.al Fx.zero180 Z fun b3 => .sV .head Z Z Fx.size180 Z (by simp [shapeC,Value.oneCell',strV]) Z<|.a Z Z<|.ns<|.yv (.fieldAddr Z Fx.field180_1) Z<|.yv (.load Z Fx.agg4 (.head _) Z) Z<|.yv (.not Z) Z<|.m Z Z<|.b2 (fun h16 => ?_) (fun h16 => ?_)
 ·skip
  refine .gF Z Z Z Z<|.gF Z Z Z Z<|.gF Z Z Z Z<|.gF Z Z Z Z<|.gF Z Z Z Z<|.yv (.pickT Z Z) Z<|.a Z Z<|.nt<|.rt<|?_
  refine Sx.ret1 (.inl rfl) rfl (.tmp rfl) fun W s => ⟨retB ?_,s.ext⟩
  first
   | (simp only [namE];simp_all)
 skip
 refine .gd Z Z<|.yv (.move Z) Z<|.gd Z Z<|.yv (.nilCheck Z) Z<|.gd Z Z<|.yv (.fieldAddr Z Fx.field68_1) Z<|.gd Z Z<|.yv (.loadM Z Fx.agg9 hm (k := 1) Z Z) Z<|.gd Z Z<|.yv (.call Fx.call64 Z (fun W s => isName_any H G nm (by omega) W s.agr)) Z<|.yv (.pickF Z Z) Z<|.a Z Z<|.nt<|.rt<|?_
 refine Sx.ret1 (.inl rfl) rfl (.tmp rfl) fun W s => ⟨retB ?_,s.ext⟩
 first
  | (simp only [namE];simp_all)
set_option maxRecDepth 100000 in
theorem formedExpr_any : ExFn 48 frmE := by
 refine ⟨Fx.call48,fun H G e cs b o w h hm hA => ?_⟩;obtain ⟨op,nm,nn,args⟩ := e;obtain ⟨p,c,rfl,hs,hnm⟩ := ex_open h;have hcap := hs.cap;refine Sx.enter (H := H) Tryz.func48 rfl Tryz.ntmps48 rfl hA ?_;refine .sr<|.a Z Z<|.ns<|.m Z Z<|.yv (.nilCheck Z) Z<|.yv (.fieldAddr Z Fx.field68_0) Z<|.yv (.loadM Z Fx.agg65 hm (k := 0) Z Z) Z<|.yv (.call Fx.call81 Z (fun W s => shape_any H G op W s.agr)) Z<|.m Z Z<|.yv (.extract Z Z) Z<|.yv (.extract Z Z) Z<|.al Fx.zero180 Z fun b3 => .sV .head Z Z Fx.size180 Z (by simp [shapeC,Value.oneCell',strV]) Z<|.a Z Z<|.nt<|.sq<|.bk<|.sq<|.sr<|.m Z Z<|.yv (.not Z) Z<|.a Z Z<|.nt<|.cd Z (fun h13 => ?_) (fun h13 => ?_)
 ·skip
  refine .sk<|.tN<|.cd Z (fun h13 => ?_) (fun h13 => ?_)
  ·skip
   refine .sr<|.a Z Z<|.nt<|.rt<|.bR<|.tR<|?_
   refine Sx.ret1 (.inl rfl) rfl (.tmp rfl) fun W s => ⟨retB ?_,s.ext⟩
   first
    | (simp only [frmE];cases ho : okOp op <;> cases hs2 : (shapeOf op).nm <;> simp_all [Int.natCast_inj])
  skip
  refine .sr<|.m Z Z<|.yv (.nilCheck Z) Z<|.yv (.fieldAddr Z Fx.field68_0) Z<|.yv (.loadM Z Fx.agg65 hm (k := 0) Z Z) Z<|.yv (.eql Z Z) Z<|.a Z Z<|.nt<|.cd Z (fun h34 => ?_) (fun h34 => ?_)
  ·try simp only [dt] at h34
   have h34 : op = 1 := UInt8.toNat_inj.1 (by show op.toNat = 1;omega);refine .sr<|.m Z Z<|.yv (.nilCheck Z) Z<|.yv (.fieldAddr Z Fx.field68_2) Z<|.yv (.loadM Z Fx.agg2 hm (k := 2) Z Z) Z<|.yv (.geq Z Z) Z<|.a Z Z<|.nt<|.rt<|.bR<|.tR<|?_
   refine Sx.ret1 (.inl rfl) rfl (.tmp rfl) fun W s => ⟨retB ?_,s.ext⟩
   first
    | (simp only [frmE];cases ho : okOp op <;> cases hs2 : (shapeOf op).nm <;> simp_all [Int.natCast_inj])
  try simp only [df] at h34
  have h34 : ¬ op = 1 := fun e => h34 (by rw [e];rfl);refine .sk<|.bN<|.tN<|.sr<|.m Z Z<|.yv (.nilCheck Z) Z<|.yv (.fieldAddr Z Fx.field68_2) Z<|.yv (.loadM Z Fx.agg2 hm (k := 2) Z Z) Z<|.yv (.eql Z Z) Z<|.a Z Z<|.nt<|.rt<|?_
  refine Sx.ret1 (.inl rfl) rfl (.tmp rfl) fun W s => ⟨retB ?_,s.ext⟩
  first
   | (simp only [frmE];cases ho : okOp op <;> cases hs2 : (shapeOf op).nm <;> simp_all [Int.natCast_inj])
 skip
 refine .sq<|.fl (trip := [(_,_,_),(_,_,_),(_,_,_),(_,_,_),(_,_,_),(_,_,_),(_,_,_),(_,_,_)]) 8 [(0,0),(1,0),(2,0),(3,0),(4,0),(5,0),(6,0),(7,0)] (by kernel_rfl) (by kernel_rfl) Z<|.m Z Z<|.yv (.nilCheck Z) Z<|.yv (.fieldAddr Z Fx.field68_3) Z<|.yv (.loadM Z Fx.agg66 hm (k := 3) Z Z) Z<|.yv (.lenSl Fx.sl66 Z) Z<|.yv (.fieldAddr Z Fx.field180_0) Z<|.yv (.load Z Fx.agg3 (.head _) Z) Z<|.yv (.neq Z Z) Z<|.fn (tl := [_]) Z<|.a Z Z<|.nt<|.cd Z (fun h13 => ?_) (fun h13 => ?_)
 ·skip
  refine .sk<|.tN<|.cd Z (fun h13 => ?_) (fun h13 => ?_)
  ·skip
   refine .sr<|.a Z Z<|.nt<|.rt<|.bR<|.tR<|?_
   refine Sx.ret1 (.inl rfl) rfl (.tmp rfl) fun W s => ⟨retB ?_,s.ext⟩
   first
    | (simp only [frmE];cases ho : okOp op <;> cases hs2 : (shapeOf op).nm <;> simp_all [Int.natCast_inj])
  skip
  refine .sr<|.m Z Z<|.yv (.nilCheck Z) Z<|.yv (.fieldAddr Z Fx.field68_0) Z<|.yv (.loadM Z Fx.agg65 hm (k := 0) Z Z) Z<|.yv (.eql Z Z) Z<|.a Z Z<|.nt<|.cd Z (fun h34 => ?_) (fun h34 => ?_)
  ·try simp only [dt] at h34
   have h34 : op = 1 := UInt8.toNat_inj.1 (by show op.toNat = 1;omega);refine .sr<|.m Z Z<|.yv (.nilCheck Z) Z<|.yv (.fieldAddr Z Fx.field68_2) Z<|.yv (.loadM Z Fx.agg2 hm (k := 2) Z Z) Z<|.yv (.geq Z Z) Z<|.a Z Z<|.nt<|.rt<|.bR<|.tR<|?_
   refine Sx.ret1 (.inl rfl) rfl (.tmp rfl) fun W s => ⟨retB ?_,s.ext⟩
   first
    | (simp only [frmE];cases ho : okOp op <;> cases hs2 : (shapeOf op).nm <;> simp_all [Int.natCast_inj])
  try simp only [df] at h34
  have h34 : ¬ op = 1 := fun e => h34 (by rw [e];rfl);refine .sk<|.bN<|.tN<|.sr<|.m Z Z<|.yv (.nilCheck Z) Z<|.yv (.fieldAddr Z Fx.field68_2) Z<|.yv (.loadM Z Fx.agg2 hm (k := 2) Z Z) Z<|.yv (.eql Z Z) Z<|.a Z Z<|.nt<|.rt<|?_
  refine Sx.ret1 (.inl rfl) rfl (.tmp rfl) fun W s => ⟨retB ?_,s.ext⟩
  first
   | (simp only [frmE];cases ho : okOp op <;> cases hs2 : (shapeOf op).nm <;> simp_all [Int.natCast_inj])
 skip
 refine .rg<|.yv (.fieldAddr Z Fx.field180_1) Z<|.yv (.load Z Fx.agg4 (.head _) Z) Z<|.yv (.not Z) Z<|.m Z Z<|.b2 (fun h27 => ?_) (fun h27 => ?_)
 ·skip
  refine .gd Z Z<|.yv (.move Z) Z<|.gd Z Z<|.yv (.nilCheck Z) Z<|.gd Z Z<|.yv (.fieldAddr Z Fx.field68_1) Z<|.gd Z Z<|.yv (.loadM Z Fx.agg9 hm (k := 1) Z Z) Z<|.gd Z Z<|.yv (.neS Z Z) Z<|.yv (.pickT Z Z) Z<|.a Z Z<|.nt<|.cd Z (fun h13 => ?_) (fun h13 => ?_)
  ·skip
   refine .sr<|.a Z Z<|.nt<|.rt<|.bR<|.tR<|?_
   refine Sx.ret1 (.inl rfl) rfl (.tmp rfl) fun W s => ⟨retB ?_,s.ext⟩
   first
    | (simp only [frmE];cases ho : okOp op <;> cases hs2 : (shapeOf op).nm <;> simp_all [Int.natCast_inj])
  skip
  refine .sr<|.m Z Z<|.yv (.nilCheck Z) Z<|.yv (.fieldAddr Z Fx.field68_0) Z<|.yv (.loadM Z Fx.agg65 hm (k := 0) Z Z) Z<|.yv (.eql Z Z) Z<|.a Z Z<|.nt<|.cd Z (fun h34 => ?_) (fun h34 => ?_)
  ·try simp only [dt] at h34
   have h34 : op = 1 := UInt8.toNat_inj.1 (by show op.toNat = 1;omega);refine .sr<|.m Z Z<|.yv (.nilCheck Z) Z<|.yv (.fieldAddr Z Fx.field68_2) Z<|.yv (.loadM Z Fx.agg2 hm (k := 2) Z Z) Z<|.yv (.geq Z Z) Z<|.a Z Z<|.nt<|.rt<|.bR<|.tR<|?_
   refine Sx.ret1 (.inl rfl) rfl (.tmp rfl) fun W s => ⟨retB ?_,s.ext⟩
   first
    | (simp only [frmE];cases ho : okOp op <;> cases hs2 : (shapeOf op).nm <;> simp_all [Int.natCast_inj])
  try simp only [df] at h34
  have h34 : ¬ op = 1 := fun e => h34 (by rw [e];rfl);refine .sk<|.bN<|.tN<|.sr<|.m Z Z<|.yv (.nilCheck Z) Z<|.yv (.fieldAddr Z Fx.field68_2) Z<|.yv (.loadM Z Fx.agg2 hm (k := 2) Z Z) Z<|.yv (.eql Z Z) Z<|.a Z Z<|.nt<|.rt<|?_
  refine Sx.ret1 (.inl rfl) rfl (.tmp rfl) fun W s => ⟨retB ?_,s.ext⟩
  first
   | (simp only [frmE];cases ho : okOp op <;> cases hs2 : (shapeOf op).nm <;> simp_all [Int.natCast_inj])
 skip
 refine .gF Z Z Z Z<|.gF Z Z Z Z<|.gF Z Z Z Z<|.gF Z Z Z Z<|.gF Z Z Z Z<|.yv (.pickF Z Z) Z<|.a Z Z<|.nt<|.cF Z<|.sr<|.m Z Z<|.yv (.nilCheck Z) Z<|.yv (.fieldAddr Z Fx.field68_0) Z<|.yv (.loadM Z Fx.agg65 hm (k := 0) Z Z) Z<|.yv (.eql Z Z) Z<|.a Z Z<|.nt<|.cd Z (fun h34 => ?_) (fun h34 => ?_)
 ·try simp only [dt] at h34
  have h34 : op = 1 := UInt8.toNat_inj.1 (by show op.toNat = 1;omega);refine .sr<|.m Z Z<|.yv (.nilCheck Z) Z<|.yv (.fieldAddr Z Fx.field68_2) Z<|.yv (.loadM Z Fx.agg2 hm (k := 2) Z Z) Z<|.yv (.geq Z Z) Z<|.a Z Z<|.nt<|.rt<|.bR<|.tR<|?_
  refine Sx.ret1 (.inl rfl) rfl (.tmp rfl) fun W s => ⟨retB ?_,s.ext⟩
  first
   | (simp only [frmE];cases ho : okOp op <;> cases hs2 : (shapeOf op).nm <;> simp_all [Int.natCast_inj])
 try simp only [df] at h34
 have h34 : ¬ op = 1 := fun e => h34 (by rw [e];rfl);refine .sk<|.bN<|.tN<|.sr<|.m Z Z<|.yv (.nilCheck Z) Z<|.yv (.fieldAddr Z Fx.field68_2) Z<|.yv (.loadM Z Fx.agg2 hm (k := 2) Z Z) Z<|.yv (.eql Z Z) Z<|.a Z Z<|.nt<|.rt<|?_
 refine Sx.ret1 (.inl rfl) rfl (.tmp rfl) fun W s => ⟨retB ?_,s.ext⟩
 first
  | (simp only [frmE];cases ho : okOp op <;> cases hs2 : (shapeOf op).nm <;> simp_all [Int.natCast_inj])
theorem Fx.agg104 : aggN Tryz.prog 104 = Option.some Option.none := by kernel_rfl
theorem Fx.agg148 : aggN Tryz.prog 148 = Option.some Option.none := by kernel_rfl
theorem Fx.call67 : callN Tryz.prog 67 = Bool.true := by kernel_rfl
theorem Fx.call70 : callN Tryz.prog 70 = Bool.true := by kernel_rfl
theorem Fx.call94 : callN Tryz.prog 94 = Bool.true := by kernel_rfl
theorem Fx.call95 : callN Tryz.prog 95 = Bool.true := by kernel_rfl
theorem Fx.field150_0 : fieldN Tryz.prog 150 0 = Option.some 0 := by kernel_rfl
theorem Fx.field150_1 : fieldN Tryz.prog 150 1 = Option.some 1 := by kernel_rfl
theorem Fx.field150_2 : fieldN Tryz.prog 150 2 = Option.some 2 := by kernel_rfl
theorem Fx.field150_3 : fieldN Tryz.prog 150 3 = Option.some 3 := by kernel_rfl
theorem Fx.field150_4 : fieldN Tryz.prog 150 4 = Option.some 4 := by kernel_rfl
theorem Fx.field150_5 : fieldN Tryz.prog 150 5 = Option.some 5 := by kernel_rfl
theorem Fx.field199_0 : fieldN Tryz.prog 199 0 = Option.some 0 := by kernel_rfl
theorem Fx.field199_1 : fieldN Tryz.prog 199 1 = Option.some 1 := by kernel_rfl
theorem Fx.field199_2 : fieldN Tryz.prog 199 2 = Option.some 2 := by kernel_rfl
theorem Fx.field199_3 : fieldN Tryz.prog 199 3 = Option.some 3 := by kernel_rfl
theorem Fx.field199_4 : fieldN Tryz.prog 199 4 = Option.some 4 := by kernel_rfl
theorem Fx.field199_5 : fieldN Tryz.prog 199 5 = Option.some 5 := by kernel_rfl
theorem Fx.sl104 : slN Tryz.prog 104 = Option.some 6 := by kernel_rfl
set_option maxRecDepth 100000 in
theorem within_any (gf : FuncId) (q : Ex → Bool) (hg : ExFn gf q) (H : Hp) (G : Gl H) (kd : UInt8) (nm hd : Str) (ex : List Ex) (th el : List Sm) (cs : List Value) (b o : Nat) (w : World) (h : Rep H (dSm .u8 (.mk kd nm hd ex th el)) cs) (hm : MemAt H b o cs) (hA : Agr H w) :
 Calls Tryz.prog 95 #[.pointer (some ⟨b,o,none⟩),.func (.func gf) #[] #[]] w fun r w' => r = .returned (.bool (Ex.alls q ex)) ∧ Ext w w' := by
 obtain ⟨p,c,p1,c1,p2,c2,rfl,hs,hs1,hs2,hn1,hn2⟩ := sm_open h;have hcap := hs.cap;refine Sx.enter (H := H) Tryz.func95 rfl Tryz.ntmps95 rfl hA ?_;refine .sr<|.a Z Z<|.nt<|.sq<|.sr<|.m Z Z<|.yv (.nilCheck Z) Z<|.yv (.fieldAddr Z Fx.field150_3) Z<|.yv (.loadM Z Fx.agg66 hm (k := 3) Z Z) Z<|.yv (.lenSl Fx.sl66 Z) Z<|.m Z Z<|.nt<|.bk<|.lp (X := Nat) [(0,_),(1,_),(10,_)] ⟨rfl,rfl,rfl,trivial⟩ [] (fun k => [(11,.int .i64 (k : Nat))]) (fun k => H) (fun k => []) (fun k => k ≤ ex.length ∧ Ex.alls q (ex.take k) = true) (fun k => ex.length - k) 0 (fun _ s => s) ⟨rfl,trivial⟩ ⟨by omega,rfl⟩ fun k hC => ?_
 obtain ⟨hk0,hal⟩ := hC;refine .sr<|.yv (.lss Z Z) Z<|.nt<|.sq<|.cd Z (fun h12 => ?_) (fun h12 => ?_)
 ·try simp only [dt] at h12
  have hk : k < ex.length := by omega
  obtain ⟨b5,o5,c5,hp5,r5,l5,m5⟩ := hs.elem (map_at hk);cases hp5;refine .sk<|.tN<|.sq<|.bk<|.sr<|.m Z Z<|.a Z Z<|.ns<|.m Z Z<|.yv (.nilCheck Z) Z<|.yv (.fieldAddr Z Fx.field150_3) Z<|.yv (.loadM Z Fx.agg66 hm (k := 3) Z Z) Z<|.m Z Z<|.yv (.indexSl Fx.sl66 Z Z Z (by omega) (q := o5 + k * 4) Z) Z<|.m Z Z<|.yv (.call Fx.call46 Z (fun W s => everyExpr_any gf q hg H G _ c5 b5 (o5 + k * 4) W r5 m5 s.agr)) Z<|.yv (.not Z) Z<|.nt<|.cd Z (fun h22 => ?_) (fun h22 => ?_)
  ·skip
   refine .sr<|.a Z Z<|.nt<|.rt<|.bR<|.tR<|.tR<|.bR<|.tR<|?_
   refine Sx.ret1 (.inl rfl) rfl (.tmp rfl) fun W s => ⟨retB ?_,s.ext⟩
   first
    | (rw [alls_bad hk (by simpa using h22)])
    | (rw [hal])
  skip
  exact .sk<|.bN<|.tN<|.rg<|.yv (.add Z Z (w6 (by omega))) Z<|.m Z Z<|.nt<|.ag (k + 1) ⟨rfl,trivial⟩ ⟨rfl,rfl,rfl,trivial⟩ (fun _ s => s) ⟨by omega,by rw [alls_succ hk,hal];simpa using h22⟩ (by omega)
 try simp only [df] at h12
 obtain rfl : k = ex.length := by omega
 rw [List.take_length] at hal;refine .ex<|.tE<|.tE<|.bE<|.tN<|.sr<|.a Z Z<|.nt<|.rt<|?_
 refine Sx.ret1 (.inl rfl) rfl (.tmp rfl) fun W s => ⟨retB ?_,s.ext⟩
 first
  | (rw [alls_bad hk (by simpa using h22)])
  | (rw [hal])
def SmFn (gf : FuncId) (q : Sm → Bool) : Prop := callN Tryz.prog gf = true ∧ ∀ (H : Hp),Gl H → ∀ (e : Sm) (cs : List Value) (b o : Nat) (w : World),Rep H (dSm .u8 e) cs → MemAt H b o cs → okS1 e = true → Agr H w →
 Calls Tryz.prog gf #[.pointer (some ⟨b,o,none⟩)] w fun r w' => r = .returned (.bool (q e)) ∧ Ext w w'
set_option maxRecDepth 100000 in
theorem namedStmt_any : SmFn 67 namS := by
 refine ⟨Fx.call67,fun H G e cs b o w h hm hok hA => ?_⟩;obtain ⟨kd,nm,hd,ex,th,el⟩ := e;obtain ⟨p,c,p1,c1,p2,c2,rfl,hs,hs1,hs2,hn1,hn2⟩ := sm_open h;have hcap := hs.cap;have hcap1 := hs1.cap;have hcap2 := hs2.cap;refine Sx.enter (H := H) Tryz.func67 rfl Tryz.ntmps67 rfl hA ?_;refine .sr<|.a Z Z<|.ns<|.m Z Z<|.yv (.nilCheck Z) Z<|.yv (.fieldAddr Z Fx.field150_0) Z<|.yv (.loadM Z Fx.agg148 hm (k := 0) Z Z) Z<|.yv (.call Fx.call94 Z (fun W s => form_any H G kd W s.agr)) Z<|.m Z Z<|.yv (.extract Z Z) Z<|.yv (.extract Z Z) Z<|.al Fx.zero199 Z fun b3 => .sV .head Z Z Fx.size199 Z (by simp [formC,Value.oneCell']) Z<|.a Z Z<|.nt<|.sq<|.sr<|.yv (.fieldAddr Z Fx.field199_0) Z<|.yv (.load Z Fx.agg4 (.head _) Z) Z<|.m Z Z<|.b2 (fun h15 => ?_) (fun h15 => ?_)
 ·skip
  refine .gd Z Z<|.yv (.move Z) Z<|.gd Z Z<|.yv (.nilCheck Z) Z<|.gd Z Z<|.yv (.fieldAddr Z Fx.field150_1) Z<|.gd Z Z<|.yv (.loadM Z Fx.agg9 hm (k := 1) Z Z) Z<|.gd Z Z<|.yv (.call Fx.call64 Z (fun W s => isName_any H G nm (by omega) W s.agr)) Z<|.gd Z Z<|.yv (.not Z) Z<|.yv (.pickT Z Z) Z<|.m Z Z<|.b2 (fun h23 => ?_) (fun h23 => ?_)
  ·skip
   refine .gF Z Z Z Z<|.gF Z Z Z Z<|.gF Z Z Z Z<|.gU Z Z Z<|.gU Z Z Z<|.gU Z Z Z<|.gU Z Z Z<|.gU Z Z Z<|.gU Z Z Z<|.gF Z Z Z Z<|.yv (.pickT Z Z) Z<|.nt<|.cT Z<|.sr<|.a Z Z<|.nt<|.rt<|.tR<|?_
   refine Sx.ret1 (.inl rfl) rfl (.tmp rfl) fun W s => ⟨retB ?_,s.ext⟩
   first
    | (simp only [namS];simp_all)
  skip
  refine .gd Z Z<|.yv (.fieldAddr Z Fx.field199_1) Z<|.gd Z Z<|.yv (.load Z Fx.agg4 (.head _) Z) Z<|.gd Z Z<|.yv (.move Z) Z<|.b2 (fun h26 => ?_) (fun h26 => ?_)
  ·skip
   refine .gd Z Z<|.yv (.move Z) Z<|.gd Z Z<|.yv (.nilCheck Z) Z<|.gd Z Z<|.yv (.fieldAddr Z Fx.field150_2) Z<|.gd Z Z<|.yv (.loadM Z Fx.agg9 hm (k := 2) Z Z) Z<|.gd Z Z<|.yv (.call Fx.call64 Z (fun W s => isName_any H G hd (by omega) W s.agr)) Z<|.gd Z Z<|.yv (.not Z) Z<|.gd Z Z<|.yv (.pickT Z Z) Z<|.yv (.pickF Z Z) Z<|.nt<|.cd Z (fun h34 => ?_) (fun h34 => ?_)
   ·skip
    refine .sr<|.a Z Z<|.nt<|.rt<|.tR<|?_
    refine Sx.ret1 (.inl rfl) rfl (.tmp rfl) fun W s => ⟨retB ?_,s.ext⟩
    first
     | (simp only [namS];simp_all)
   skip
   refine .sk<|.tN<|.sr<|.m Z Z<|.yv (.call Fx.call95 Z (fun W s => within_any 47 namE namedExpr_any H G _ _ _ _ _ _ _ b o W h hm s.agr)) Z<|.a Z Z<|.nt<|.rt<|?_
   refine Sx.ret1 (.inl rfl) rfl (.tmp rfl) fun W s => ⟨retB ?_,s.ext⟩
   first
    | (simp only [namS];simp_all)
  skip
  refine .gF Z Z Z Z<|.gF Z Z Z Z<|.gF Z Z Z Z<|.gF Z Z Z Z<|.gF Z Z Z Z<|.gF Z Z Z Z<|.gd Z Z<|.yv (.pickF Z Z) Z<|.yv (.pickF Z Z) Z<|.nt<|.cF Z<|.sk<|.tN<|.sr<|.m Z Z<|.yv (.call Fx.call95 Z (fun W s => within_any 47 namE namedExpr_any H G _ _ _ _ _ _ _ b o W h hm s.agr)) Z<|.a Z Z<|.nt<|.rt<|?_
  refine Sx.ret1 (.inl rfl) rfl (.tmp rfl) fun W s => ⟨retB ?_,s.ext⟩
  first
   | (simp only [namS];simp_all)
 skip
 refine .gF Z Z Z Z<|.gF Z Z Z Z<|.gF Z Z Z Z<|.gF Z Z Z Z<|.gF Z Z Z Z<|.gF Z Z Z Z<|.yv (.pickF Z Z) Z<|.m Z Z<|.gd Z Z<|.yv (.fieldAddr Z Fx.field199_1) Z<|.gd Z Z<|.yv (.load Z Fx.agg4 (.head _) Z) Z<|.gd Z Z<|.yv (.move Z) Z<|.b2 (fun h26 => ?_) (fun h26 => ?_)
 ·skip
  refine .gd Z Z<|.yv (.move Z) Z<|.gd Z Z<|.yv (.nilCheck Z) Z<|.gd Z Z<|.yv (.fieldAddr Z Fx.field150_2) Z<|.gd Z Z<|.yv (.loadM Z Fx.agg9 hm (k := 2) Z Z) Z<|.gd Z Z<|.yv (.call Fx.call64 Z (fun W s => isName_any H G hd (by omega) W s.agr)) Z<|.gd Z Z<|.yv (.not Z) Z<|.gd Z Z<|.yv (.pickT Z Z) Z<|.yv (.pickF Z Z) Z<|.nt<|.cd Z (fun h34 => ?_) (fun h34 => ?_)
  ·skip
   refine .sr<|.a Z Z<|.nt<|.rt<|.tR<|?_
   refine Sx.ret1 (.inl rfl) rfl (.tmp rfl) fun W s => ⟨retB ?_,s.ext⟩
   first
    | (simp only [namS];simp_all)
  skip
  refine .sk<|.tN<|.sr<|.m Z Z<|.yv (.call Fx.call95 Z (fun W s => within_any 47 namE namedExpr_any H G _ _ _ _ _ _ _ b o W h hm s.agr)) Z<|.a Z Z<|.nt<|.rt<|?_
  refine Sx.ret1 (.inl rfl) rfl (.tmp rfl) fun W s => ⟨retB ?_,s.ext⟩
  first
   | (simp only [namS];simp_all)
 skip
 refine .gF Z Z Z Z<|.gF Z Z Z Z<|.gF Z Z Z Z<|.gF Z Z Z Z<|.gF Z Z Z Z<|.gF Z Z Z Z<|.gd Z Z<|.yv (.pickF Z Z) Z<|.yv (.pickF Z Z) Z<|.nt<|.cF Z<|.sk<|.tN<|.sr<|.m Z Z<|.yv (.call Fx.call95 Z (fun W s => within_any 47 namE namedExpr_any H G _ _ _ _ _ _ _ b o W h hm s.agr)) Z<|.a Z Z<|.nt<|.rt<|?_
 refine Sx.ret1 (.inl rfl) rfl (.tmp rfl) fun W s => ⟨retB ?_,s.ext⟩
 first
  | (simp only [namS];simp_all)
set_option maxRecDepth 100000 in
theorem formedStmt_any : SmFn 70 frmS := by
 refine ⟨Fx.call70,fun H G e cs b o w h hm hok hA => ?_⟩;obtain ⟨kd,nm,hd,ex,th,el⟩ := e;obtain ⟨p,c,p1,c1,p2,c2,rfl,hs,hs1,hs2,hn1,hn2⟩ := sm_open h;have hcap := hs.cap;have hcap1 := hs1.cap;have hcap2 := hs2.cap;refine Sx.enter (H := H) Tryz.func70 rfl Tryz.ntmps70 rfl hA ?_;refine .sr<|.a Z Z<|.ns<|.m Z Z<|.yv (.nilCheck Z) Z<|.yv (.fieldAddr Z Fx.field150_0) Z<|.yv (.loadM Z Fx.agg148 hm (k := 0) Z Z) Z<|.yv (.call Fx.call94 Z (fun W s => form_any H G kd W s.agr)) Z<|.m Z Z<|.yv (.extract Z Z) Z<|.yv (.extract Z Z) Z<|.al Fx.zero199 Z fun b3 => .sV .head Z Z Fx.size199 Z (by simp [formC,Value.oneCell']) Z<|.a Z Z<|.nt<|.sq<|.sr<|.m Z Z<|.yv (.nilCheck Z) Z<|.yv (.fieldAddr Z Fx.field150_3) Z<|.yv (.loadM Z Fx.agg66 hm (k := 3) Z Z) Z<|.yv (.lenSl Fx.sl66 Z) Z<|.a Z Z<|.nt<|.bk<|.cu (X := Bool) [(0,_),(3,_)] ⟨rfl,rfl,trivial⟩ (fun z => [(19,.bool z)]) (fun z => H) (fun z => [.box b3 (formC (formOf kd)) 199]) (fun z => z = (!okKd kd || decide ((ex.length : Int) < ((formOf kd).lo : Nat)) || decide (((formOf kd).hi : Nat) < (ex.length : Int)))) ?_ fun z hC => ?_
 ·
  refine .sr<|.m Z Z<|.yv (.not Z) Z<|.a Z Z<|.nt<|.cd Z (fun h19 => ?_) (fun h19 => ?_)
  ·skip
   exact .sk<|.tN<|.me _ ⟨rfl,trivial⟩ ⟨rfl,rfl,trivial⟩ (fun _ s => s) (by first | (simp_all;done) | (simp_all;omega) | (simp_all;intros;omega))
  skip
  refine .sr<|.m Z Z<|.yv (.fieldAddr Z Fx.field199_2) Z<|.yv (.load Z Fx.agg3 (.head _) Z) Z<|.yv (.lss Z Z) Z<|.a Z Z<|.nt<|.cd Z (fun h19 => ?_) (fun h19 => ?_)
  ·skip
   exact .sk<|.tN<|.me _ ⟨rfl,trivial⟩ ⟨rfl,rfl,trivial⟩ (fun _ s => s) (by first | (simp_all;done) | (simp_all;omega) | (simp_all;intros;omega))
  skip
  exact .rg<|.m Z Z<|.yv (.fieldAddr Z Fx.field199_3) Z<|.yv (.load Z Fx.agg3 (.head _) Z) Z<|.yv (.gtr Z Z) Z<|.a Z Z<|.nt<|.me _ ⟨rfl,trivial⟩ ⟨rfl,rfl,trivial⟩ (fun _ s => s) (by first | (simp_all;done) | (simp_all;omega) | (simp_all;intros;omega))
 have e1 := hC;refine .cd Z (fun h19 => ?_) (fun h19 => ?_)
 ·skip
  refine .sr<|.a Z Z<|.nt<|.rt<|.bR<|.tR<|?_
  refine Sx.ret1 (.inl rfl) rfl (.tmp rfl) fun W s => ⟨retB ?_,s.ext⟩
  first
   | (rw [frmS_eq,← e1,← e2,← e3,h19,h30,h51];simp)
   | (rw [frmS_eq,← e1,← e2,← e3,h19,h30,h51];rfl)
   | (rw [frmS_eq,← e1,← e2,h19,h30];rfl)
   | (rw [frmS_eq,← e1,h19];rfl)
 skip
 refine .cu (X := Bool) [(0,_),(3,_)] ⟨rfl,rfl,trivial⟩ (fun z => [(30,.bool z)]) (fun z => H) (fun z => [.box b3 (formC (formOf kd)) 199]) (fun z => z = ((!(formOf kd).nm && decide (¬ nm = [])) || (!(formOf kd).hd && decide (¬ hd = [])))) ?_ fun z hC => ?_
 ·
  refine .sr<|.yv (.fieldAddr Z Fx.field199_0) Z<|.yv (.load Z Fx.agg4 (.head _) Z) Z<|.yv (.not Z) Z<|.m Z Z<|.b2 (fun h34 => ?_) (fun h34 => ?_)
  ·skip
   refine .gd Z Z<|.yv (.move Z) Z<|.gd Z Z<|.yv (.nilCheck Z) Z<|.gd Z Z<|.yv (.fieldAddr Z Fx.field150_1) Z<|.gd Z Z<|.yv (.loadM Z Fx.agg9 hm (k := 1) Z Z) Z<|.gd Z Z<|.yv (.neS Z Z) Z<|.yv (.pickT Z Z) Z<|.a Z Z<|.nt<|.cd Z (fun h30 => ?_) (fun h30 => ?_)
   ·skip
    exact .sk<|.tN<|.me _ ⟨rfl,trivial⟩ ⟨rfl,rfl,trivial⟩ (fun _ s => s) (by first | (simp_all;done) | (simp_all;omega) | (simp_all;intros;omega))
   skip
   refine .rg<|.yv (.fieldAddr Z Fx.field199_1) Z<|.yv (.load Z Fx.agg4 (.head _) Z) Z<|.yv (.not Z) Z<|.m Z Z<|.b2 (fun h44 => ?_) (fun h44 => ?_)
   ·skip
    exact .gd Z Z<|.yv (.move Z) Z<|.gd Z Z<|.yv (.nilCheck Z) Z<|.gd Z Z<|.yv (.fieldAddr Z Fx.field150_2) Z<|.gd Z Z<|.yv (.loadM Z Fx.agg9 hm (k := 2) Z Z) Z<|.gd Z Z<|.yv (.neS Z Z) Z<|.yv (.pickT Z Z) Z<|.a Z Z<|.nt<|.me _ ⟨rfl,trivial⟩ ⟨rfl,rfl,trivial⟩ (fun _ s => s) (by first | (simp_all;done) | (simp_all;omega) | (simp_all;intros;omega))
   skip
   exact .gF Z Z Z Z<|.gF Z Z Z Z<|.gF Z Z Z Z<|.gF Z Z Z Z<|.gF Z Z Z Z<|.yv (.pickF Z Z) Z<|.a Z Z<|.nt<|.me _ ⟨rfl,trivial⟩ ⟨rfl,rfl,trivial⟩ (fun _ s => s) (by first | (simp_all;done) | (simp_all;omega) | (simp_all;intros;omega))
  skip
  refine .gF Z Z Z Z<|.gF Z Z Z Z<|.gF Z Z Z Z<|.gF Z Z Z Z<|.gF Z Z Z Z<|.yv (.pickF Z Z) Z<|.a Z Z<|.nt<|.cF Z<|.rg<|.yv (.fieldAddr Z Fx.field199_1) Z<|.yv (.load Z Fx.agg4 (.head _) Z) Z<|.yv (.not Z) Z<|.m Z Z<|.b2 (fun h44 => ?_) (fun h44 => ?_)
  ·skip
   exact .gd Z Z<|.yv (.move Z) Z<|.gd Z Z<|.yv (.nilCheck Z) Z<|.gd Z Z<|.yv (.fieldAddr Z Fx.field150_2) Z<|.gd Z Z<|.yv (.loadM Z Fx.agg9 hm (k := 2) Z Z) Z<|.gd Z Z<|.yv (.neS Z Z) Z<|.yv (.pickT Z Z) Z<|.a Z Z<|.nt<|.me _ ⟨rfl,trivial⟩ ⟨rfl,rfl,trivial⟩ (fun _ s => s) (by first | (simp_all;done) | (simp_all;omega) | (simp_all;intros;omega))
  skip
  exact .gF Z Z Z Z<|.gF Z Z Z Z<|.gF Z Z Z Z<|.gF Z Z Z Z<|.gF Z Z Z Z<|.yv (.pickF Z Z) Z<|.a Z Z<|.nt<|.me _ ⟨rfl,trivial⟩ ⟨rfl,rfl,trivial⟩ (fun _ s => s) (by first | (simp_all;done) | (simp_all;omega) | (simp_all;intros;omega))
 have e2 := hC;refine .cd Z (fun h30 => ?_) (fun h30 => ?_)
 ·skip
  refine .sr<|.a Z Z<|.nt<|.rt<|.bR<|.tR<|?_
  refine Sx.ret1 (.inl rfl) rfl (.tmp rfl) fun W s => ⟨retB ?_,s.ext⟩
  first
   | (rw [frmS_eq,← e1,← e2,← e3,h19,h30,h51];simp)
   | (rw [frmS_eq,← e1,← e2,← e3,h19,h30,h51];rfl)
   | (rw [frmS_eq,← e1,← e2,h19,h30];rfl)
   | (rw [frmS_eq,← e1,h19];rfl)
 skip
 refine .cu (X := Bool) [(0,_)] ⟨rfl,trivial⟩ (fun z => [(51,.bool z)]) (fun z => H) (fun z => [.box b3 (formC (formOf kd)) 199]) (fun z => z = ((!(formOf kd).th && decide ((0 : Int) < th.length)) || (!(formOf kd).el && decide ((0 : Int) < el.length)))) ?_ fun z hC => ?_
 ·
  refine .sr<|.yv (.fieldAddr Z Fx.field199_4) Z<|.yv (.load Z Fx.agg4 (.head _) Z) Z<|.yv (.not Z) Z<|.m Z Z<|.b2 (fun h55 => ?_) (fun h55 => ?_)
  ·skip
   refine .gd Z Z<|.yv (.move Z) Z<|.gd Z Z<|.yv (.nilCheck Z) Z<|.gd Z Z<|.yv (.fieldAddr Z Fx.field150_4) Z<|.gd Z Z<|.yv (.loadM Z Fx.agg104 hm (k := 4) Z Z) Z<|.gd Z Z<|.yv (.lenSl Fx.sl104 Z) Z<|.gd Z Z<|.yv (.gtr Z Z) Z<|.yv (.pickT Z Z) Z<|.a Z Z<|.nt<|.cd Z (fun h51 => ?_) (fun h51 => ?_)
   ·skip
    exact .sk<|.tN<|.me _ ⟨rfl,trivial⟩ ⟨rfl,trivial⟩ (fun _ s => s) (by first | (simp_all;done) | (simp_all;omega) | (simp_all;intros;omega))
   skip
   refine .rg<|.yv (.fieldAddr Z Fx.field199_5) Z<|.yv (.load Z Fx.agg4 (.head _) Z) Z<|.yv (.not Z) Z<|.m Z Z<|.b2 (fun h66 => ?_) (fun h66 => ?_)
   ·skip
    exact .gd Z Z<|.yv (.move Z) Z<|.gd Z Z<|.yv (.nilCheck Z) Z<|.gd Z Z<|.yv (.fieldAddr Z Fx.field150_5) Z<|.gd Z Z<|.yv (.loadM Z Fx.agg104 hm (k := 5) Z Z) Z<|.gd Z Z<|.yv (.lenSl Fx.sl104 Z) Z<|.gd Z Z<|.yv (.gtr Z Z) Z<|.yv (.pickT Z Z) Z<|.a Z Z<|.nt<|.me _ ⟨rfl,trivial⟩ ⟨rfl,trivial⟩ (fun _ s => s) (by first | (simp_all;done) | (simp_all;omega) | (simp_all;intros;omega))
   skip
   exact .gF Z Z Z Z<|.gF Z Z Z Z<|.gF Z Z Z Z<|.gF Z Z Z Z<|.gF Z Z Z Z<|.gF Z Z Z Z<|.yv (.pickF Z Z) Z<|.a Z Z<|.nt<|.me _ ⟨rfl,trivial⟩ ⟨rfl,trivial⟩ (fun _ s => s) (by first | (simp_all;done) | (simp_all;omega) | (simp_all;intros;omega))
  skip
  refine .gF Z Z Z Z<|.gF Z Z Z Z<|.gF Z Z Z Z<|.gF Z Z Z Z<|.gF Z Z Z Z<|.gF Z Z Z Z<|.yv (.pickF Z Z) Z<|.a Z Z<|.nt<|.cF Z<|.rg<|.yv (.fieldAddr Z Fx.field199_5) Z<|.yv (.load Z Fx.agg4 (.head _) Z) Z<|.yv (.not Z) Z<|.m Z Z<|.b2 (fun h66 => ?_) (fun h66 => ?_)
  ·skip
   exact .gd Z Z<|.yv (.move Z) Z<|.gd Z Z<|.yv (.nilCheck Z) Z<|.gd Z Z<|.yv (.fieldAddr Z Fx.field150_5) Z<|.gd Z Z<|.yv (.loadM Z Fx.agg104 hm (k := 5) Z Z) Z<|.gd Z Z<|.yv (.lenSl Fx.sl104 Z) Z<|.gd Z Z<|.yv (.gtr Z Z) Z<|.yv (.pickT Z Z) Z<|.a Z Z<|.nt<|.me _ ⟨rfl,trivial⟩ ⟨rfl,trivial⟩ (fun _ s => s) (by first | (simp_all;done) | (simp_all;omega) | (simp_all;intros;omega))
  skip
  exact .gF Z Z Z Z<|.gF Z Z Z Z<|.gF Z Z Z Z<|.gF Z Z Z Z<|.gF Z Z Z Z<|.gF Z Z Z Z<|.yv (.pickF Z Z) Z<|.a Z Z<|.nt<|.me _ ⟨rfl,trivial⟩ ⟨rfl,trivial⟩ (fun _ s => s) (by first | (simp_all;done) | (simp_all;omega) | (simp_all;intros;omega))
 have e3 := hC;refine .cd Z (fun h51 => ?_) (fun h51 => ?_)
 ·skip
  refine .sr<|.a Z Z<|.nt<|.rt<|.bR<|.tR<|?_
  refine Sx.ret1 (.inl rfl) rfl (.tmp rfl) fun W s => ⟨retB ?_,s.ext⟩
  first
   | (rw [frmS_eq,← e1,← e2,← e3,h19,h30,h51];simp)
   | (rw [frmS_eq,← e1,← e2,← e3,h19,h30,h51];rfl)
   | (rw [frmS_eq,← e1,← e2,h19,h30];rfl)
   | (rw [frmS_eq,← e1,h19];rfl)
 skip
 refine .sk<|.bN<|.tN<|.sr<|.m Z Z<|.yv (.call Fx.call95 Z (fun W s => within_any 48 frmE formedExpr_any H G _ _ _ _ _ _ _ b o W h hm s.agr)) Z<|.a Z Z<|.nt<|.rt<|?_
 refine Sx.ret1 (.inl rfl) rfl (.tmp rfl) fun W s => ⟨retB ?_,s.ext⟩
 first
  | (rw [frmS_eq,← e1,← e2,← e3,h19,h30,h51];simp)
  | (rw [frmS_eq,← e1,← e2,← e3,h19,h30,h51];rfl)
  | (rw [frmS_eq,← e1,← e2,h19,h30];rfl)
  | (rw [frmS_eq,← e1,h19];rfl)
theorem Fx.call66 : callN Tryz.prog 66 = Bool.true := by kernel_rfl
theorem Fx.call90 : callN Tryz.prog 90 = Bool.true := by kernel_rfl
theorem Fx.call91 : callN Tryz.prog 91 = Bool.true := by kernel_rfl
set_option maxRecDepth 100000 in
theorem every_any (gf : FuncId) (q : Sm → Bool) (hg : SmFn gf q) (H : Hp) (G : Gl H) : ∀ (l : List Sm) (p : Option Addr) (n c : Nat) (w : World),Rep H (.seq 6 (l.map (dSm .u8))) [.slice p n c] → Sm.alls okS1 l = true → Agr H w →
 Calls Tryz.prog 66 #[.slice p n c,.func (.func gf) #[] #[]] w fun r w' => r = .returned (.bool (Sm.alls q l)) ∧ Ext w w' := by
 refine Sm.lists fun l ih => ?_;intro p n c w hs hok hA;obtain rfl : n = l.length := by have := hs.len.1;simpa using this
 have hcap := hs.cap;refine Sx.enter (H := H) Tryz.func66 rfl Tryz.ntmps66 rfl hA ?_;refine .sr<|.a Z Z<|.nt<|.sq<|.sr<|.m Z Z<|.yv (.lenSl Fx.sl104 Z) Z<|.m Z Z<|.nt<|.bk<|.lp (X := Nat) [(0,_),(1,_),(8,_)] ⟨rfl,rfl,rfl,trivial⟩ [] (fun k => [(9,.int .i64 (k : Nat))]) (fun k => H) (fun k => []) (fun k => k ≤ l.length ∧ Sm.alls q (l.take k) = true) (fun k => l.length - k) 0 (fun _ s => s) ⟨rfl,trivial⟩ ⟨by omega,rfl⟩ fun k hC => ?_
 obtain ⟨hk0,hal⟩ := hC;refine .sr<|.yv (.lss Z Z) Z<|.nt<|.sq<|.cd Z (fun h10 => ?_) (fun h10 => ?_)
 ·try simp only [dt] at h10
  have hk : k < l.length := by omega
  obtain ⟨bE,oE,cE,hpE,rE,lE,mE⟩ := hs.elem (map_at hk);cases hpE;have hi := ih _ (List.getElem_mem hk);have hf := salls_succ (q := q) hk;have hbad := fun h => salls_bad (q := q) hk h;have hok1 := salls_at hk hok;generalize hx : l[k] = x at rE hi hf hbad hok1;obtain ⟨kd,nm,hd,ex,th,el⟩ := x;obtain ⟨p1,c1,p2,c2,p3,c3,rfl,hs1,hs2,hs3,hn1,hn2⟩ := sm_open rE;simp only [Sm.th,Sm.el] at hi;simp only [sall_mk,Bool.and_eq_true] at hok1;refine .sk<|.tN<|.sq<|.bk<|.sr<|.m Z Z<|.a Z Z<|.ns<|.m Z Z<|.m Z Z<|.yv (.indexSl Fx.sl104 Z Z Z (by omega) (q := oE + k * 6) Z) Z<|.a Z Z<|.ns<|.m Z Z<|.m Z Z<|.yv (.callV (fi := []) (ca := []) Z hg.1 Z (fun W s => hg.2 H G _ _ bE (oE + k * 6) W rE mE hok1.1.1 s.agr)) Z<|.yv (.not Z) Z<|.m Z Z<|.b2 (fun h19 => ?_) (fun h19 => ?_)
  ·skip
   refine .gF Z Z Z Z<|.gF Z Z Z Z<|.gF Z Z Z Z<|.gF Z Z Z Z<|.gF Z Z Z Z<|.gF Z Z Z Z<|.gF Z Z Z Z<|.yv (.pickT Z Z) Z<|.m Z Z<|.gF Z Z Z Z<|.gF Z Z Z Z<|.gF Z Z Z Z<|.gF Z Z Z Z<|.gF Z Z Z Z<|.gF Z Z Z Z<|.gF Z Z Z Z<|.yv (.pickT Z Z) Z<|.nt<|.cT Z<|.sr<|.a Z Z<|.nt<|.rt<|.bR<|.tR<|.tR<|.bR<|.tR<|?_
   refine Sx.ret1 (.inl rfl) rfl (.tmp rfl) fun W s => ⟨retB ?_,s.ext⟩
   first
    | (rw [hal])
    | (rw [hbad (by rw [sall_mk];simp_all)])
  skip
  refine .gd Z Z<|.yv (.move Z) Z<|.gd Z Z<|.yv (.nilCheck Z) Z<|.gd Z Z<|.yv (.fieldAddr Z Fx.field150_4) Z<|.gd Z Z<|.yv (.loadM Z Fx.agg104 mE (k := 4) Z Z) Z<|.gd Z Z<|.yv (.move Z) Z<|.gd Z Z<|.yv (.call Fx.call66 Z (fun W s => hi.1 _ _ _ W hs2 hok1.1.2 s.agr)) Z<|.gd Z Z<|.yv (.not Z) Z<|.yv (.pickF Z Z) Z<|.m Z Z<|.b2 (fun h28 => ?_) (fun h28 => ?_)
  ·skip
   refine .gF Z Z Z Z<|.gF Z Z Z Z<|.gF Z Z Z Z<|.gF Z Z Z Z<|.gF Z Z Z Z<|.gF Z Z Z Z<|.gF Z Z Z Z<|.yv (.pickT Z Z) Z<|.nt<|.cT Z<|.sr<|.a Z Z<|.nt<|.rt<|.bR<|.tR<|.tR<|.bR<|.tR<|?_
   refine Sx.ret1 (.inl rfl) rfl (.tmp rfl) fun W s => ⟨retB ?_,s.ext⟩
   first
    | (rw [hal])
    | (rw [hbad (by rw [sall_mk];simp_all)])
  skip
  refine .gd Z Z<|.yv (.move Z) Z<|.gd Z Z<|.yv (.nilCheck Z) Z<|.gd Z Z<|.yv (.fieldAddr Z Fx.field150_5) Z<|.gd Z Z<|.yv (.loadM Z Fx.agg104 mE (k := 5) Z Z) Z<|.gd Z Z<|.yv (.move Z) Z<|.gd Z Z<|.yv (.call Fx.call66 Z (fun W s => hi.2 _ _ _ W hs3 hok1.2 s.agr)) Z<|.gd Z Z<|.yv (.not Z) Z<|.yv (.pickF Z Z) Z<|.nt<|.cd Z (fun h36 => ?_) (fun h36 => ?_)
  ·skip
   refine .sr<|.a Z Z<|.nt<|.rt<|.bR<|.tR<|.tR<|.bR<|.tR<|?_
   refine Sx.ret1 (.inl rfl) rfl (.tmp rfl) fun W s => ⟨retB ?_,s.ext⟩
   first
    | (rw [hal])
    | (rw [hbad (by rw [sall_mk];simp_all)])
  skip
  exact .sk<|.bN<|.tN<|.rg<|.yv (.add Z Z (w6 (by omega))) Z<|.m Z Z<|.nt<|.ag (k + 1) ⟨rfl,trivial⟩ ⟨rfl,rfl,rfl,trivial⟩ (fun _ s => s) ⟨by omega,by rw [hf,hal,sall_mk];simp_all⟩ (by omega)
 try simp only [df] at h10
 obtain rfl : k = l.length := by omega
 rw [List.take_length] at hal;refine .ex<|.tE<|.tE<|.bE<|.tN<|.sr<|.a Z Z<|.nt<|.rt<|?_
 refine Sx.ret1 (.inl rfl) rfl (.tmp rfl) fun W s => ⟨retB ?_,s.ext⟩
 first
  | (rw [hal])
  | (rw [hbad (by rw [sall_mk];simp_all)])
set_option maxRecDepth 100000 in
theorem statements_any (H : Hp) : ∀ (l : List Sm) (p : Option Addr) (n c : Nat) (w : World),Rep H (.seq 6 (l.map (dSm .u8))) [.slice p n c] → Sm.counts l ≤ 1000000 → Agr H w →
 Calls Tryz.prog 90 #[.slice p n c] w fun r w' => r = .returned (.int .i64 (Sm.counts l : Nat)) ∧ Ext w w' := by
 refine Sm.lists fun l ih => ?_;intro p n c w hs hb hA;obtain rfl : n = l.length := by have := hs.len.1;simpa using this
 have hcap := hs.cap;have hl0 := scounts_len l;refine Sx.enter (H := H) Tryz.func90 rfl Tryz.ntmps90 rfl hA ?_;refine .sr<|.a Z Z<|.ns<|.m Z Z<|.yv (.lenSl Fx.sl104 Z) Z<|.a Z Z<|.nt<|.sq<|.sr<|.m Z Z<|.yv (.lenSl Fx.sl104 Z) Z<|.m Z Z<|.nt<|.bk<|.lp (X := Nat) [(0,_),(8,_)] ⟨rfl,rfl,trivial⟩ [] (fun k => [(3,.int .i64 ((l.length + (Sm.counts (l.take k) - k) : Nat) : Int)),(9,.int .i64 (k : Nat))]) (fun k => H) (fun k => []) (fun k => k ≤ l.length) (fun k => l.length - k) 0 (fun _ s => s) ⟨rfl,rfl,trivial⟩ (by omega) fun k hC => ?_
 refine .sr<|.yv (.lss Z Z) Z<|.nt<|.sq<|.cd Z (fun h10 => ?_) (fun h10 => ?_)
 ·try simp only [dt] at h10
  have hk : k < l.length := by omega
  obtain ⟨bE,oE,cE,hpE,rE,lE,mE⟩ := hs.elem (map_at hk);cases hpE;have hi := ih _ (List.getElem_mem hk);have hf := scounts_succ hk;have hle := scounts_take l (k + 1);have hlk := scounts_len (l.take k);rw [List.length_take,Nat.min_eq_left (by omega)] at hlk;generalize hx : l[k] = x at rE hi hf;obtain ⟨kd,nm,hd,ex,th,el⟩ := x;obtain ⟨p1,c1,p2,c2,p3,c3,rfl,hs1,hs2,hs3,hn1,hn2⟩ := sm_open rE;simp only [Sm.th,Sm.el] at hi;rw [scount_mk] at hf;have e1 : th.length ≤ Sm.counts th := scounts_len th;exact .sk<|.tN<|.sq<|.bk<|.sr<|.m Z Z<|.a Z Z<|.nt<|.fl (trip := [(_,_,_),(_,_,_),(_,_,_),(_,_,_),(_,_,_),(_,_,_),(_,_,_),(_,_,_),(_,_,_),(_,_,_),(_,_,_),(_,_,_),(_,_,_),(_,_,_),(_,_,_)]) 15 [(0,0),(1,0),(2,0),(3,0),(4,0),(5,0),(6,0),(7,0),(8,0),(9,0),(10,0),(11,0),(12,0),(13,0),(14,0)] (by kernel_rfl) (by kernel_rfl) Z<|.m Z Z<|.m Z Z<|.m Z Z<|.yv (.indexSl Fx.sl104 Z Z Z (by omega) (q := oE + k * 6) Z) Z<|.yv (.fieldAddr Z Fx.field150_4) Z<|.yv (.loadM Z Fx.agg104 mE (k := 4) Z Z) Z<|.yv (.call Fx.call90 Z (fun W s => hi.1 _ _ _ W hs2 (by omega) s.agr)) Z<|.m Z Z<|.m Z Z<|.yv (.indexSl Fx.sl104 Z Z Z (by omega) (q := oE + k * 6) Z) Z<|.yv (.fieldAddr Z Fx.field150_5) Z<|.yv (.loadM Z Fx.agg104 mE (k := 5) Z Z) Z<|.yv (.call Fx.call90 Z (fun W s => hi.2 _ _ _ W hs3 (by omega) s.agr)) Z<|.yv (.add Z Z (c := ((Sm.counts th + Sm.counts el : Nat) : Int)) ((w6 (by omega)).trans (by omega))) Z<|.yv (.add Z Z (c := ((l.length + (Sm.counts (l.take (k + 1)) - (k + 1)) : Nat) : Int)) ((w6 (by omega)).trans (by omega))) Z<|.fn (tl := [_]) Z<|.a Z Z<|.nl<|.bN<|.tN<|.rg<|.yv (.add Z Z (w6 (by omega))) Z<|.m Z Z<|.nt<|.ag (k + 1) ⟨rfl,rfl,trivial⟩ ⟨rfl,rfl,trivial⟩ (fun _ s => s) (by omega) (by omega)
 try simp only [df] at h10
 obtain rfl : k = l.length := by omega
 rw [List.take_length];have hlk := scounts_len l;refine .ex<|.tE<|.tE<|.bE<|.tN<|.sr<|.m Z Z<|.a Z Z<|.nt<|.rt<|?_
 refine Sx.ret1 (.inl rfl) rfl (.tmp rfl) fun W s => ⟨?_,s.ext⟩
 first
  | (rw [show l.length + (Sm.counts l - l.length) = Sm.counts l by omega])
set_option maxRecDepth 100000 in
theorem sdepth_any (H : Hp) : ∀ (l : List Sm) (p : Option Addr) (n c : Nat) (w : World),Rep H (.seq 6 (l.map (dSm .u8))) [.slice p n c] → Sm.deeps l ≤ 1000000 → Agr H w →
 Calls Tryz.prog 91 #[.slice p n c] w fun r w' => r = .returned (.int .i64 (Sm.deeps l : Nat)) ∧ Ext w w' := by
 refine Sm.lists fun l ih => ?_;intro p n c w hs hb hA;obtain rfl : n = l.length := by have := hs.len.1;simpa using this
 have hcap := hs.cap;refine Sx.enter (H := H) Tryz.func91 rfl Tryz.ntmps91 rfl hA ?_;refine .sr<|.a Z Z<|.nt<|.sq<|.sr<|.m Z Z<|.yv (.lenSl Fx.sl104 Z) Z<|.yv (.eql Z Z) Z<|.nt<|.cd Z (fun h7 => ?_) (fun h7 => ?_)
 ·try simp only [dt] at h7
  obtain rfl : l = [] := List.eq_nil_of_length_eq_zero (by omega);refine .sr<|.a Z Z<|.nt<|.rt<|.tR<|?_
  refine Sx.ret1 (.inl rfl) rfl (.tmp rfl) fun W s => ⟨?_,s.ext⟩
  first
   | (rfl)
   | (rw [show ((Sm.deeps l - 1 : Nat) : Int) + 1 = (Sm.deeps l : Nat) by
    have : 0 < Sm.deeps l := by
     match l,h7 with
     | ⟨kd,nm,hd,ex,th,el⟩ :: r,_ => simp only [Sm.deeps,sdepth_mk];omega
    omega])
 try simp only [df] at h7
 refine .sk<|.tN<|.sr<|.a Z Z<|.nt<|.sq<|.sr<|.m Z Z<|.yv (.lenSl Fx.sl104 Z) Z<|.m Z Z<|.nt<|.bk<|.lp (X := Nat) [(0,_),(9,_)] ⟨rfl,rfl,trivial⟩ [] (fun k => [(3,.int .i64 ((Sm.deeps (l.take k) - 1 : Nat) : Int)),(10,.int .i64 (k : Nat))]) (fun k => H) (fun k => []) (fun k => k ≤ l.length) (fun k => l.length - k) 0 (fun _ s => s) ⟨rfl,rfl,trivial⟩ (by omega) fun k hC => ?_
 refine .sr<|.yv (.lss Z Z) Z<|.nt<|.sq<|.cd Z (fun h11 => ?_) (fun h11 => ?_)
 ·try simp only [dt] at h11
  have hk : k < l.length := by omega
  obtain ⟨bE,oE,cE,hpE,rE,lE,mE⟩ := hs.elem (map_at hk);cases hpE;have hi := ih _ (List.getElem_mem hk);have hf := sdeeps_succ hk;have hle := sdeeps_take l (k + 1);generalize hx : l[k] = x at rE hi hf;obtain ⟨kd,nm,hd,ex,th,el⟩ := x;obtain ⟨p1,c1,p2,c2,p3,c3,rfl,hs1,hs2,hs3,hn1,hn2⟩ := sm_open rE;simp only [Sm.th,Sm.el] at hi;rw [sdepth_mk] at hf;exact .sk<|.tN<|.sq<|.bk<|.sr<|.m Z Z<|.a Z Z<|.nt<|.fl (trip := [(_,_,_),(_,_,_),(_,_,_),(_,_,_),(_,_,_),(_,_,_),(_,_,_),(_,_,_),(_,_,_),(_,_,_),(_,_,_),(_,_,_),(_,_,_),(_,_,_)]) 14 [(0,0),(1,0),(2,0),(3,0),(4,0),(5,0),(6,0),(7,0),(8,0),(9,0),(10,0),(11,0),(12,0),(13,0)] (by kernel_rfl) (by kernel_rfl) Z<|.m Z Z<|.m Z Z<|.m Z Z<|.yv (.indexSl Fx.sl104 Z Z Z (by omega) (q := oE + k * 6) Z) Z<|.yv (.fieldAddr Z Fx.field150_4) Z<|.yv (.loadM Z Fx.agg104 mE (k := 4) Z Z) Z<|.yv (.call Fx.call91 Z (fun W s => hi.1 _ _ _ W hs2 (by omega) s.agr)) Z<|.m Z Z<|.m Z Z<|.yv (.indexSl Fx.sl104 Z Z Z (by omega) (q := oE + k * 6) Z) Z<|.yv (.fieldAddr Z Fx.field150_5) Z<|.yv (.loadM Z Fx.agg104 mE (k := 5) Z Z) Z<|.yv (.call Fx.call91 Z (fun W s => hi.2 _ _ _ W hs3 (by omega) s.agr)) Z<|.yv (.max3 Z Z Z (c := ((Sm.deeps (l.take (k + 1)) - 1 : Nat) : Int)) (by omega)) Z<|.fn (tl := [_]) Z<|.a Z Z<|.nl<|.bN<|.tN<|.rg<|.yv (.add Z Z (w6 (by omega))) Z<|.m Z Z<|.nt<|.ag (k + 1) ⟨rfl,rfl,trivial⟩ ⟨rfl,rfl,trivial⟩ (fun _ s => s) (by omega) (by omega)
 try simp only [df] at h11
 obtain rfl : k = l.length := by omega
 rw [List.take_length];refine .ex<|.tE<|.tE<|.bE<|.tN<|.sr<|.m Z Z<|.yv (.add Z Z (w6 (by omega))) Z<|.a Z Z<|.nt<|.rt<|?_
 refine Sx.ret1 (.inl rfl) rfl (.tmp rfl) fun W s => ⟨?_,s.ext⟩
 first
  | (rfl)
  | (rw [show ((Sm.deeps l - 1 : Nat) : Int) + 1 = (Sm.deeps l : Nat) by
   have : 0 < Sm.deeps l := by
    match l,h7 with
    | ⟨kd,nm,hd,ex,th,el⟩ :: r,_ => simp only [Sm.deeps,sdepth_mk];omega
   omega])
theorem Fx.agg54 : aggN Tryz.prog 54 = Option.some Option.none := by kernel_rfl
theorem Fx.agg62 : aggN Tryz.prog 62 = Option.some Option.none := by kernel_rfl
theorem Fx.call63 : callN Tryz.prog 63 = Bool.true := by kernel_rfl
theorem Fx.call65 : callN Tryz.prog 65 = Bool.true := by kernel_rfl
theorem Fx.call69 : callN Tryz.prog 69 = Bool.true := by kernel_rfl
theorem Fx.call92 : callN Tryz.prog 92 = Bool.true := by kernel_rfl
theorem Fx.field100_1 : fieldN Tryz.prog 100 1 = Option.some 1 := by kernel_rfl
theorem Fx.field100_2 : fieldN Tryz.prog 100 2 = Option.some 2 := by kernel_rfl
theorem Fx.field107_0 : fieldN Tryz.prog 107 0 = Option.some 0 := by kernel_rfl
theorem Fx.field107_1 : fieldN Tryz.prog 107 1 = Option.some 1 := by kernel_rfl
theorem Fx.field107_2 : fieldN Tryz.prog 107 2 = Option.some 2 := by kernel_rfl
theorem Fx.size68 : sizeN Tryz.prog 68 = Option.some 4 := by kernel_rfl
theorem Fx.sl54 : slN Tryz.prog 54 = Option.some 1 := by kernel_rfl
theorem Fx.zero68 : zeroN Tryz.prog 68 = Option.some
 [Go.Value.int Go.IntKind.u8 (Int.ofNat 0),Go.Value.string { data := { toList := [] } },
  Go.Value.int Go.IntKind.i64 (Int.ofNat 0),Go.Value.slice Option.none 0 0] := by kernel_rfl
set_option maxRecDepth 100000 in
theorem smallStmt_any : SmFn 92 smaS := by
 refine ⟨Fx.call92,fun H G e cs b o w h hm hok hA => ?_⟩;obtain ⟨kd,nm,hd,ex,th,el⟩ := e;rw [okS1] at hok;obtain ⟨p,c,p1,c1,p2,c2,rfl,hs,hs1,hs2,hn1,hn2⟩ := sm_open h;have hcap := hs.cap;refine Sx.enter (H := H) Tryz.func92 rfl Tryz.ntmps92 rfl hA ?_;refine .sr<|.a Z Z<|.nt<|.sq<|.sr<|.m Z Z<|.yv (.nilCheck Z) Z<|.yv (.fieldAddr Z Fx.field150_3) Z<|.yv (.loadM Z Fx.agg66 hm (k := 3) Z Z) Z<|.yv (.lenSl Fx.sl66 Z) Z<|.m Z Z<|.nt<|.bk<|.lp (X := Nat) [(8,_),(9,_)] ⟨rfl,rfl,trivial⟩ [] (fun k => [(10,.int .i64 (k : Nat))]) (fun k => H) (fun k => []) (fun k => k ≤ ex.length ∧ (ex.take k).all (fun x => decide (x.depth ≤ 8)) = true) (fun k => ex.length - k) 0 (fun _ s => s) ⟨rfl,trivial⟩ ⟨by omega,rfl⟩ fun k hC => ?_
 obtain ⟨hk0,hal⟩ := hC;refine .sr<|.yv (.lss Z Z) Z<|.nt<|.sq<|.cd Z (fun h11 => ?_) (fun h11 => ?_)
 ·try simp only [dt] at h11
  have hk : k < ex.length := by omega
  obtain ⟨bE,oE,cE,hpE,rE,lE,mE⟩ := hs.elem (map_at hk);cases hpE;have hd1 := lall_at hk hok;simp only [decide_eq_true_eq] at hd1;refine .sk<|.tN<|.sq<|.bk<|.sr<|.yv (.indexSl Fx.sl66 Z Z Z (by omega) (q := oE + k * 4) Z) Z<|.yv (.loadMW Z Fx.agg68 mE lE) Z<|.al Fx.zero68 Z fun b4 => .sV .head Z Z Fx.size68 lE rE.one Z<|.ns<|.yv (.loadW Z Fx.agg68 (.head _) lE) Z<|.yv (.call Fx.call45 Z (fun W s => exprDepth_any _ H cE W rE hd1 s.agr)) Z<|.yv (.gtr Z Z) Z<|.nt<|.cd Z (fun h16 => ?_) (fun h16 => ?_)
  ·try simp only [dt] at h16
   refine .sr<|.a Z Z<|.nt<|.rt<|.bR<|.tR<|.tR<|.bR<|.tR<|?_
   refine Sx.ret1 (.inl rfl) rfl (.tmp rfl) fun W s => ⟨retB ?_,s.ext⟩
   first
    | (rw [smaS,hal])
    | (rw [smaS,lall_bad hk (by simp;omega)])
  try simp only [df] at h16
  exact .sk<|.bN<|.tN<|.rg<|.yv (.add Z Z (w6 (by omega))) Z<|.m Z Z<|.nt<|.ag (k + 1) ⟨rfl,trivial⟩ ⟨rfl,rfl,trivial⟩ (fun _ s => s.pick [] [] Z Z) ⟨by omega,by rw [lall_succ hk,hal];simp;omega⟩ (by omega)
 try simp only [df] at h11
 obtain rfl : k = ex.length := by omega
 rw [List.take_length] at hal;refine .ex<|.tE<|.tE<|.bE<|.tN<|.sr<|.a Z Z<|.nt<|.rt<|?_
 refine Sx.ret1 (.inl rfl) rfl (.tmp rfl) fun W s => ⟨retB ?_,s.ext⟩
 first
  | (rw [smaS,hal])
  | (rw [smaS,lall_bad hk (by simp;omega)])
def HdFn (gf : FuncId) (q : Hd → Bool) : Prop := callN Tryz.prog gf = true ∧ ∀ (H : Hp),Gl H → ∀ (e : Hd) (cs : List Value) (w : World),Rep H (dHd .u8 e) cs → okH e = true → Agr H w →
 Calls Tryz.prog gf #[.agg cs.toArray] w fun r w' => r = .returned (.bool (q e)) ∧ Ext w w'
set_option maxRecDepth 100000 in
theorem smallHandler_any : HdFn 63 smaH := by
 refine ⟨Fx.call63,fun H G e cs w h hok hA => ?_⟩;simp only [okH,Bool.and_eq_true,decide_eq_true_eq] at hok;obtain ⟨⟨ho1,ho2⟩,ho3⟩ := hok;obtain ⟨p1,c1,p2,c2,rfl,hnm,hs1,hs2⟩ := hd_open h;have hcap := hs1.cap;refine Sx.enter (H := H) Tryz.func63 rfl Tryz.ntmps63 rfl hA ?_;refine .sr<|.bx Z Z Z fun b1 => .a Z Z<|.nt<|.sq<|.sr<|.yv (.fieldAddr Z Fx.field107_1) Z<|.yv (.load Z Fx.agg54 (.head _) Z) Z<|.yv (.lenSl Fx.sl54 Z) Z<|.yv (.gtr Z Z) Z<|.m Z Z<|.b2 (fun h7 => ?_) (fun h7 => ?_)
 ·try simp only [dt] at h7
  refine .gF Z Z Z Z<|.gF Z Z Z Z<|.gF Z Z Z Z<|.gF Z Z Z Z<|.yv (.pickT Z Z) Z<|.m Z Z<|.gF Z Z Z Z<|.gF Z Z Z Z<|.gF Z Z Z Z<|.gF Z Z Z Z<|.yv (.pickT Z Z) Z<|.nt<|.cT Z<|.sr<|.a Z Z<|.nt<|.rt<|.tR<|?_
  refine Sx.ret1 (.inl rfl) rfl (.tmp rfl) fun W s => ⟨retB ?_,s.ext⟩
  first
   | (simp only [smaH];simp;omega)
   | (simp only [smaH];simp [show ¬ 4 < e.ps.length by omega,show ¬ 40 < Sm.counts e.body by omega,show ¬ 8 < Sm.deeps e.body by omega])
 try simp only [df] at h7
 refine .gd Z Z<|.yv (.fieldAddr Z Fx.field107_2) Z<|.gd Z Z<|.yv (.load Z Fx.agg104 (.head _) Z) Z<|.gd Z Z<|.yv (.call Fx.call90 Z (fun W s => statements_any H _ _ _ _ W hs2 ho1 s.agr)) Z<|.gd Z Z<|.yv (.gtr Z Z) Z<|.yv (.pickF Z Z) Z<|.m Z Z<|.b2 (fun h13 => ?_) (fun h13 => ?_)
 ·try simp only [dt] at h13
  refine .gF Z Z Z Z<|.gF Z Z Z Z<|.gF Z Z Z Z<|.gF Z Z Z Z<|.yv (.pickT Z Z) Z<|.nt<|.cT Z<|.sr<|.a Z Z<|.nt<|.rt<|.tR<|?_
  refine Sx.ret1 (.inl rfl) rfl (.tmp rfl) fun W s => ⟨retB ?_,s.ext⟩
  first
   | (simp only [smaH];simp;omega)
   | (simp only [smaH];simp [show ¬ 4 < e.ps.length by omega,show ¬ 40 < Sm.counts e.body by omega,show ¬ 8 < Sm.deeps e.body by omega])
 try simp only [df] at h13
 refine .gd Z Z<|.yv (.fieldAddr Z Fx.field107_2) Z<|.gd Z Z<|.yv (.load Z Fx.agg104 (.head _) Z) Z<|.gd Z Z<|.yv (.call Fx.call91 Z (fun W s => sdepth_any H _ _ _ _ W hs2 ho2 s.agr)) Z<|.gd Z Z<|.yv (.gtr Z Z) Z<|.yv (.pickF Z Z) Z<|.nt<|.cd Z (fun h18 => ?_) (fun h18 => ?_)
 ·try simp only [dt] at h18
  refine .sr<|.a Z Z<|.nt<|.rt<|.tR<|?_
  refine Sx.ret1 (.inl rfl) rfl (.tmp rfl) fun W s => ⟨retB ?_,s.ext⟩
  first
   | (simp only [smaH];simp;omega)
   | (simp only [smaH];simp [show ¬ 4 < e.ps.length by omega,show ¬ 40 < Sm.counts e.body by omega,show ¬ 8 < Sm.deeps e.body by omega])
 try simp only [df] at h18
 refine .sk<|.tN<|.sr<|.yv (.fieldAddr Z Fx.field107_2) Z<|.yv (.load Z Fx.agg104 (.head _) Z) Z<|.yv (.call Fx.call66 Z (fun W s => every_any 92 smaS smallStmt_any H G _ _ _ _ W hs2 ho3 s.agr)) Z<|.a Z Z<|.nt<|.rt<|?_
 refine Sx.ret1 (.inl rfl) rfl (.tmp rfl) fun W s => ⟨retB ?_,s.ext⟩
 first
  | (simp only [smaH];simp;omega)
  | (simp only [smaH];simp [show ¬ 4 < e.ps.length by omega,show ¬ 40 < Sm.counts e.body by omega,show ¬ 8 < Sm.deeps e.body by omega])
set_option maxRecDepth 100000 in
theorem formedHandler_any : HdFn 69 frmH := by
 refine ⟨Fx.call69,fun H G e cs w h hok hA => ?_⟩;simp only [okH,Bool.and_eq_true,decide_eq_true_eq] at hok;obtain ⟨⟨ho1,ho2⟩,ho3⟩ := hok;obtain ⟨p1,c1,p2,c2,rfl,hnm,hs1,hs2⟩ := hd_open h;have hcap := hs1.cap;refine Sx.enter (H := H) Tryz.func69 rfl Tryz.ntmps69 rfl hA ?_;refine .sr<|.bx Z Z Z fun b1 => .a Z Z<|.ns<|.yv (.fieldAddr Z Fx.field107_2) Z<|.yv (.load Z Fx.agg104 (.head _) Z) Z<|.yv (.call Fx.call66 Z (fun W s => every_any 70 frmS formedStmt_any H G _ _ _ _ W hs2 ho3 s.agr)) Z<|.a Z Z<|.nt<|.rt<|?_
 refine Sx.ret1 (.inl rfl) rfl (.tmp rfl) fun W s => ⟨retB ?_,s.ext⟩
 first
  | (rw [frmH])
set_option maxRecDepth 100000 in
theorem namedHandler_any : HdFn 65 namH := by
 refine ⟨Fx.call65,fun H G e cs w h hok hA => ?_⟩;simp only [okH,Bool.and_eq_true,decide_eq_true_eq] at hok;obtain ⟨⟨ho1,ho2⟩,ho3⟩ := hok;obtain ⟨p1,c1,p2,c2,rfl,hnm,hs1,hs2⟩ := hd_open h;have hcap := hs1.cap;refine Sx.enter (H := H) Tryz.func65 rfl Tryz.ntmps65 rfl hA ?_;refine .sr<|.bx Z Z Z fun b1 => .a Z Z<|.ns<|.yv (.fieldAddr Z Fx.field107_0) Z<|.yv (.load Z Fx.agg9 (.head _) Z) Z<|.yv (.call Fx.call64 Z (fun W s => isName_any H G _ (by omega) W s.agr)) Z<|.a Z Z<|.nt<|.sq<|.sr<|.yv (.fieldAddr Z Fx.field107_1) Z<|.yv (.load Z Fx.agg54 (.head _) Z) Z<|.yv (.lenSl Fx.sl54 Z) Z<|.m Z Z<|.nt<|.bk<|.lp (X := Nat) [(1,_),(10,_),(11,_)] ⟨rfl,rfl,rfl,trivial⟩ [_] (fun k => [(12,.int .i64 (k : Nat)),(3,.bool (nameB e.nm && (e.ps.take k).all nameB))]) (fun k => H) (fun k => []) (fun k => k ≤ e.ps.length) (fun k => e.ps.length - k) 0 (fun _ s => s) ⟨rfl,(by rw [List.take_zero,List.all_nil,Bool.and_true];rfl),trivial⟩ (by omega) fun k hC => ?_
 refine .sr<|.yv (.lss Z Z) Z<|.nt<|.sq<|.cd Z (fun h13 => ?_) (fun h13 => ?_)
 ·try simp only [dt] at h13
  have hk : k < e.ps.length := by omega
  obtain ⟨bE,oE,cE,hpE,rE,lE,mE⟩ := hs1.elem (map_at hk);cases hpE;obtain ⟨rfl,hsl⟩ := str_open rE;refine .sk<|.tN<|.sq<|.bk<|.sr<|.yv (.indexSl Fx.sl54 Z Z Z (by omega) (q := oE + k * 1) Z) Z<|.yv (.loadM Z Fx.agg9 mE (k := 0) Z Z) Z<|.a Z Z<|.nt<|.rg<|.m Z Z<|.m Z Z<|.b2 (fun h17 => ?_) (fun h17 => ?_)
  ·skip
   exact .gd Z Z<|.yv (.move Z) Z<|.gd Z Z<|.yv (.call Fx.call64 Z (fun W s => isName_any H G _ (by omega) W s.agr)) Z<|.yv (.pickT Z Z) Z<|.a Z Z<|.nl<|.bN<|.tN<|.rg<|.yv (.add Z Z (w6 (by omega))) Z<|.m Z Z<|.nt<|.ag (k + 1) ⟨rfl,(by rw [lall_succ hk,← Bool.and_assoc];rw [h17];rfl),trivial⟩ ⟨rfl,rfl,rfl,trivial⟩ (fun _ s => s) (by omega) (by omega)
  skip
  exact .gF Z Z Z Z<|.gF Z Z Z Z<|.yv (.pickF Z Z) Z<|.a Z Z<|.nl<|.bN<|.tN<|.rg<|.yv (.add Z Z (w6 (by omega))) Z<|.m Z Z<|.nt<|.ag (k + 1) ⟨rfl,(by rw [lall_succ hk,← Bool.and_assoc];rw [h17];rfl),trivial⟩ ⟨rfl,rfl,rfl,trivial⟩ (fun _ s => s) (by omega) (by omega)
 try simp only [df] at h13
 obtain rfl : k = e.ps.length := by omega
 rw [List.take_length];refine .ex<|.tE<|.tE<|.bE<|.tN<|.sr<|.m Z Z<|.m Z Z<|.b2 (fun h23 => ?_) (fun h23 => ?_)
 ·skip
  refine .gd Z Z<|.yv (.fieldAddr Z Fx.field107_2) Z<|.gd Z Z<|.yv (.load Z Fx.agg104 (.head _) Z) Z<|.gd Z Z<|.yv (.call Fx.call66 Z (fun W s => every_any 67 namS namedStmt_any H G _ _ _ _ W hs2 ho3 s.agr)) Z<|.yv (.pickT Z Z) Z<|.a Z Z<|.nt<|.rt<|?_
  refine Sx.ret1 (.inl rfl) rfl (.tmp rfl) fun W s => ⟨retB ?_,s.ext⟩
  first
   | (rw [namH,h23];simp)
   | (rw [namH,h23];rfl)
 skip
 refine .gF Z Z Z Z<|.gF Z Z Z Z<|.gF Z Z Z Z<|.yv (.pickF Z Z) Z<|.a Z Z<|.nt<|.rt<|?_
 refine Sx.ret1 (.inl rfl) rfl (.tmp rfl) fun W s => ⟨retB ?_,s.ext⟩
 first
  | (rw [namH,h23];simp)
  | (rw [namH,h23];rfl)
set_option maxRecDepth 100000 in
theorem formedVar_any (H : Hp) (x : Vr) (cs : List Value) (h : Rep H (dVr .u8 x) cs) (w : World) (hA : Agr H w) :
 Calls Tryz.prog 68 #[.agg cs.toArray] w fun r w' => r = .returned (.bool (frmV x)) ∧ Ext w w' := by
 obtain ⟨rfl,hnm⟩ := vr_open h;refine Sx.enter (H := H) Tryz.func68 rfl Tryz.ntmps68 rfl hA ?_;refine .sr<|.bx Z Z Z fun b1 => .a Z Z<|.nt<|.sq<|.sr<|.yv (.fieldAddr Z Fx.field100_1) Z<|.yv (.load Z Fx.agg62 (.head _) Z) Z<|.nt<|.bk<|.sr<|.yv (.eql Z Z) Z<|.a Z Z<|.nt<|.cd Z (fun h5 => ?_) (fun h5 => ?_)
 ·try simp only [dt] at h5
  have hv : x.ty = 1 := UInt8.toNat_inj.1 (by show x.ty.toNat = 1;omega);refine .sr<|.yv (.fieldAddr Z Fx.field100_2) Z<|.yv (.load Z Fx.agg2 (.head _) Z) Z<|.yv (.neq Z Z) Z<|.a Z Z<|.nt<|.rt<|.bR<|.tR<|?_
  refine Sx.ret1 (.inl rfl) rfl (.tmp rfl) fun W s => ⟨retB ?_,s.ext⟩
  first
   | (simp only [frmV,hv];simp;done)
   | (simp only [frmV,hv];simp;omega)
   | (simp only [frmV,hv];simp_all)
   | (simp only [frmV];simp [hv1,hv2,hv3])
 try simp only [df] at h5
 have hv1 : ¬ x.ty = 1 := fun e => h5 (by rw [e];rfl);refine .sr<|.yv (.eql Z Z) Z<|.a Z Z<|.nt<|.cd Z (fun h10 => ?_) (fun h10 => ?_)
 ·try simp only [dt] at h10
  have hv : x.ty = 2 := UInt8.toNat_inj.1 (by show x.ty.toNat = 2;omega);refine .sr<|.yv (.fieldAddr Z Fx.field100_2) Z<|.yv (.load Z Fx.agg2 (.head _) Z) Z<|.yv (.eql Z Z) Z<|.m Z Z<|.b2 (fun h15 => ?_) (fun h15 => ?_)
  ·try simp only [dt] at h15
   refine .gF Z Z Z Z<|.gF Z Z Z Z<|.gF Z Z Z Z<|.yv (.pickT Z Z) Z<|.a Z Z<|.nt<|.rt<|.bR<|.tR<|?_
   refine Sx.ret1 (.inl rfl) rfl (.tmp rfl) fun W s => ⟨retB ?_,s.ext⟩
   first
    | (simp only [frmV,hv];simp;done)
    | (simp only [frmV,hv];simp;omega)
    | (simp only [frmV,hv];simp_all)
    | (simp only [frmV];simp [hv1,hv2,hv3])
  try simp only [df] at h15
  refine .gd Z Z<|.yv (.fieldAddr Z Fx.field100_2) Z<|.gd Z Z<|.yv (.load Z Fx.agg2 (.head _) Z) Z<|.gd Z Z<|.yv (.eql Z Z) Z<|.yv (.pickF Z Z) Z<|.a Z Z<|.nt<|.rt<|.bR<|.tR<|?_
  refine Sx.ret1 (.inl rfl) rfl (.tmp rfl) fun W s => ⟨retB ?_,s.ext⟩
  first
   | (simp only [frmV,hv];simp;done)
   | (simp only [frmV,hv];simp;omega)
   | (simp only [frmV,hv];simp_all)
   | (simp only [frmV];simp [hv1,hv2,hv3])
 try simp only [df] at h10
 have hv2 : ¬ x.ty = 2 := fun e => h10 (by rw [e];rfl);refine .sr<|.yv (.eql Z Z) Z<|.a Z Z<|.nt<|.cd Z (fun h20 => ?_) (fun h20 => ?_)
 ·try simp only [dt] at h20
  have hv : x.ty = 3 := UInt8.toNat_inj.1 (by show x.ty.toNat = 3;omega);refine .sr<|.yv (.fieldAddr Z Fx.field100_2) Z<|.yv (.load Z Fx.agg2 (.head _) Z) Z<|.yv (.eql Z Z) Z<|.a Z Z<|.nt<|.rt<|.bR<|.tR<|?_
  refine Sx.ret1 (.inl rfl) rfl (.tmp rfl) fun W s => ⟨retB ?_,s.ext⟩
  first
   | (simp only [frmV,hv];simp;done)
   | (simp only [frmV,hv];simp;omega)
   | (simp only [frmV,hv];simp_all)
   | (simp only [frmV];simp [hv1,hv2,hv3])
 try simp only [df] at h20
 have hv3 : ¬ x.ty = 3 := fun e => h20 (by rw [e];rfl);refine .sk<|.bN<|.tN<|.sr<|.a Z Z<|.nt<|.rt<|?_
 refine Sx.ret1 (.inl rfl) rfl (.tmp rfl) fun W s => ⟨retB ?_,s.ext⟩
 first
  | (simp only [frmV,hv];simp;done)
  | (simp only [frmV,hv];simp;omega)
  | (simp only [frmV,hv];simp_all)
  | (simp only [frmV];simp [hv1,hv2,hv3])
theorem Fx.agg33 : aggN Tryz.prog 33 = Option.some Option.none := by kernel_rfl
theorem Fx.agg34 : aggN Tryz.prog 34 = Option.some Option.none := by kernel_rfl
theorem Fx.agg35 : aggN Tryz.prog 35 = Option.some Option.none := by kernel_rfl
theorem Fx.agg37 : aggN Tryz.prog 37 = Option.some (Option.some 4) := by kernel_rfl
theorem Fx.agg89 : aggN Tryz.prog 89 = Option.some (Option.some 2) := by kernel_rfl
theorem Fx.agg92 : aggN Tryz.prog 92 = Option.some (Option.some 3) := by kernel_rfl
theorem Fx.agg93 : aggN Tryz.prog 93 = Option.some Option.none := by kernel_rfl
theorem Fx.agg94 : aggN Tryz.prog 94 = Option.some Option.none := by kernel_rfl
theorem Fx.agg96 : aggN Tryz.prog 96 = Option.some (Option.some 3) := by kernel_rfl
theorem Fx.agg100 : aggN Tryz.prog 100 = Option.some (Option.some 3) := by kernel_rfl
theorem Fx.agg101 : aggN Tryz.prog 101 = Option.some Option.none := by kernel_rfl
theorem Fx.agg103 : aggN Tryz.prog 103 = Option.some (Option.some 1) := by kernel_rfl
theorem Fx.agg107 : aggN Tryz.prog 107 = Option.some (Option.some 3) := by kernel_rfl
theorem Fx.call62 : callN Tryz.prog 62 = Bool.true := by kernel_rfl
theorem Fx.call68 : callN Tryz.prog 68 = Bool.true := by kernel_rfl
theorem Fx.field37_0 : fieldN Tryz.prog 37 0 = Option.some 0 := by kernel_rfl
theorem Fx.field37_1 : fieldN Tryz.prog 37 1 = Option.some 1 := by kernel_rfl
theorem Fx.field37_2 : fieldN Tryz.prog 37 2 = Option.some 2 := by kernel_rfl
theorem Fx.field37_3 : fieldN Tryz.prog 37 3 = Option.some 3 := by kernel_rfl
theorem Fx.field89_0 : fieldN Tryz.prog 89 0 = Option.some 0 := by kernel_rfl
theorem Fx.field92_0 : fieldN Tryz.prog 92 0 = Option.some 0 := by kernel_rfl
theorem Fx.field92_1 : fieldN Tryz.prog 92 1 = Option.some 1 := by kernel_rfl
theorem Fx.field92_2 : fieldN Tryz.prog 92 2 = Option.some 2 := by kernel_rfl
theorem Fx.field96_0 : fieldN Tryz.prog 96 0 = Option.some 0 := by kernel_rfl
theorem Fx.field96_1 : fieldN Tryz.prog 96 1 = Option.some 1 := by kernel_rfl
theorem Fx.field96_2 : fieldN Tryz.prog 96 2 = Option.some 2 := by kernel_rfl
theorem Fx.field100_0 : fieldN Tryz.prog 100 0 = Option.some 0 := by kernel_rfl
theorem Fx.field103_0 : fieldN Tryz.prog 103 0 = Option.some 0 := by kernel_rfl
theorem Fx.size89 : sizeN Tryz.prog 89 = Option.some 2 := by kernel_rfl
theorem Fx.size92 : sizeN Tryz.prog 92 = Option.some 3 := by kernel_rfl
theorem Fx.size96 : sizeN Tryz.prog 96 = Option.some 3 := by kernel_rfl
theorem Fx.size100 : sizeN Tryz.prog 100 = Option.some 3 := by kernel_rfl
theorem Fx.size103 : sizeN Tryz.prog 103 = Option.some 1 := by kernel_rfl
theorem Fx.size107 : sizeN Tryz.prog 107 = Option.some 3 := by kernel_rfl
theorem Fx.sl33 : slN Tryz.prog 33 = Option.some 2 := by kernel_rfl
theorem Fx.sl34 : slN Tryz.prog 34 = Option.some 3 := by kernel_rfl
theorem Fx.sl35 : slN Tryz.prog 35 = Option.some 3 := by kernel_rfl
theorem Fx.sl93 : slN Tryz.prog 93 = Option.some 3 := by kernel_rfl
theorem Fx.sl94 : slN Tryz.prog 94 = Option.some 1 := by kernel_rfl
theorem Fx.sl101 : slN Tryz.prog 101 = Option.some 3 := by kernel_rfl
theorem Fx.zero89 : zeroN Tryz.prog 89 = Option.some [Go.Value.string { data := { toList := [] } },Go.Value.bool Bool.false] := by kernel_rfl
theorem Fx.zero92 : zeroN Tryz.prog 92 = Option.some
 [Go.Value.string { data := { toList := [] } },Go.Value.string { data := { toList := [] } },
  Go.Value.int Go.IntKind.i64 (Int.ofNat 0)] := by kernel_rfl
theorem Fx.zero96 : zeroN Tryz.prog 96 = Option.some
 [Go.Value.string { data := { toList := [] } },Go.Value.slice Option.none 0 0,Go.Value.slice Option.none 0 0] := by kernel_rfl
theorem Fx.zero100 : zeroN Tryz.prog 100 = Option.some
 [Go.Value.string { data := { toList := [] } },Go.Value.int Go.IntKind.u8 (Int.ofNat 0),
  Go.Value.int Go.IntKind.i64 (Int.ofNat 0)] := by kernel_rfl
theorem Fx.zero103 : zeroN Tryz.prog 103 = Option.some [Go.Value.slice Option.none 0 0] := by kernel_rfl
theorem Fx.zero107 : zeroN Tryz.prog 107 = Option.some
 [Go.Value.string { data := { toList := [] } },Go.Value.slice Option.none 0 0,Go.Value.slice Option.none 0 0] := by kernel_rfl
set_option maxRecDepth 100000 in
theorem everyHandler_any (gf : FuncId) (q : Hd → Bool) (hg : HdFn gf q) (H : Hp) (G : Gl H) (f : Ft) (cs : List Value) (h : Rep H (dFt .u8 f) cs) (hok : evH okH f = true) (w : World) (hA : Agr H w) :
 Calls Tryz.prog 62 #[.agg cs.toArray,.func (.func gf) #[] #[]] w fun r w' => r = .returned (.bool (evH q f)) ∧ Ext w w' := by
 rw [evH_eq] at hok;obtain ⟨p1,c1,p2,c2,p3,c3,rfl,hnm,hs1,hs2,hs3⟩ := ft_open h;have hcap1 := hs1.cap;have hcap2 := hs2.cap;have hcap3 := hs3.cap;refine Sx.enter (H := H) Tryz.func62 rfl Tryz.ntmps62 rfl hA ?_;refine .sr<|.bx Z Z Z fun b2 => .a Z Z<|.nt<|.sq<|.sr<|.yv (.fieldAddr Z Fx.field37_3) Z<|.yv (.load Z Fx.agg35 (.head _) Z) Z<|.yv (.lenSl Fx.sl35 Z) Z<|.m Z Z<|.nt<|.bk<|.lp (X := Nat) [(1,_),(12,_),(13,_)] ⟨rfl,rfl,rfl,trivial⟩ [_] (fun k1 => [(14,.int .i64 (k1 : Nat))]) (fun k1 => H) (fun k1 => []) (fun k1 => k1 ≤ f.comps.length ∧ (f.comps.take k1).all (cpAll q) = true) (fun k1 => f.comps.length - k1) 0 (fun _ s => s) ⟨rfl,trivial⟩ ⟨by omega,rfl⟩ fun k1 hC => ?_
 obtain ⟨hq1,hal1⟩ := hC;refine .sr<|.yv (.lss Z Z) Z<|.nt<|.sq<|.cd Z (fun h15 => ?_) (fun h15 => ?_)
 ·try simp only [dt] at h15
  have hk1 : k1 < f.comps.length := by omega
  obtain ⟨bE1,oE1,cE1,hpE1,rE1,lE1,mE1⟩ := hs3.elem (map_at hk1);cases hpE1;have hok1 := lall_at hk1 hok;generalize hx1 : f.comps[k1] = x1 at rE1 hok1;obtain ⟨p4,c4,p5,c5,rfl,hn4,hs4,hs5⟩ := cp_open rE1;have hcap5 := hs5.cap;rw [cpAll] at hok1;refine .sk<|.tN<|.sq<|.bk<|.sr<|.yv (.indexSl Fx.sl35 Z Z Z (by omega) (q := oE1 + k1 * 3) Z) Z<|.yv (.loadMW Z Fx.agg96 mE1 Z) Z<|.al Fx.zero96 Z fun b6 => .sW .head Z Z Fx.size96 (by simp [Value.oneCell',strV]) Z<|.ns<|.yv (.fieldAddr Z Fx.field96_2) Z<|.yv (.load Z Fx.agg94 (.head _) Z) Z<|.yv (.lenSl Fx.sl94 Z) Z<|.m Z Z<|.nt<|.bk<|.lp (X := Nat) [(1,_),(12,_),(13,_),(14,_),(19,_),(20,_)] ⟨rfl,rfl,rfl,rfl,rfl,rfl,trivial⟩ [_,_] (fun k2 => [(21,.int .i64 (k2 : Nat))]) (fun k2 => H) (fun k2 => []) (fun k2 => k2 ≤ x1.vers.length ∧ (x1.vers.take k2).all (fun v => v.all q) = true) (fun k2 => x1.vers.length - k2) 0 (fun _ s => s) ⟨rfl,trivial⟩ ⟨by omega,rfl⟩ fun k2 hC => ?_
  obtain ⟨hq2,hal2⟩ := hC;refine .sr<|.yv (.lss Z Z) Z<|.nt<|.sq<|.cd Z (fun h22 => ?_) (fun h22 => ?_)
  ·try simp only [dt] at h22
   have hk2 : k2 < x1.vers.length := by omega
   obtain ⟨bE2,oE2,cE2,hpE2,rE2,lE2,mE2⟩ := hs5.elem (map_at hk2);cases hpE2;have hok2 := lall_at hk2 hok1;generalize hx2 : x1.vers[k2] = x2 at rE2 hok2;obtain ⟨p6,c6,rfl,hs6⟩ := vs_open rE2;have hcap6 := hs6.cap;refine .sk<|.tN<|.sq<|.bk<|.sr<|.yv (.indexSl Fx.sl94 Z Z Z (by omega) (q := oE2 + k2 * 1) Z) Z<|.yv (.loadMW Z Fx.agg103 mE2 Z) Z<|.al Fx.zero103 Z fun b8 => .sW .head Z Z Fx.size103 (by simp [Value.oneCell',strV]) Z<|.ns<|.yv (.fieldAddr Z Fx.field103_0) Z<|.yv (.load Z Fx.agg101 (.head _) Z) Z<|.yv (.lenSl Fx.sl101 Z) Z<|.m Z Z<|.nt<|.bk<|.lp (X := Nat) [(1,_),(12,_),(13,_),(14,_),(19,_),(20,_),(21,_),(26,_),(27,_)] ⟨rfl,rfl,rfl,rfl,rfl,rfl,rfl,rfl,rfl,trivial⟩ [_,_,_] (fun k3 => [(28,.int .i64 (k3 : Nat))]) (fun k3 => H) (fun k3 => []) (fun k3 => k3 ≤ x2.length ∧ (x2.take k3).all q = true) (fun k3 => x2.length - k3) 0 (fun _ s => s) ⟨rfl,trivial⟩ ⟨by omega,rfl⟩ fun k3 hC => ?_
   obtain ⟨hq3,hal3⟩ := hC;refine .sr<|.yv (.lss Z Z) Z<|.nt<|.sq<|.cd Z (fun h29 => ?_) (fun h29 => ?_)
   ·try simp only [dt] at h29
    have hk3 : k3 < x2.length := by omega
    obtain ⟨bE3,oE3,cE3,hpE3,rE3,lE3,mE3⟩ := hs6.elem (map_at hk3);cases hpE3;have hok3 := lall_at hk3 hok2;refine .sk<|.tN<|.sq<|.bk<|.sr<|.yv (.indexSl Fx.sl101 Z Z Z (by omega) (q := oE3 + k3 * 3) Z) Z<|.yv (.loadMW Z Fx.agg107 mE3 lE3) Z<|.al Fx.zero107 Z fun b10 => .sV .head Z Z Fx.size107 lE3 rE3.one Z<|.ns<|.m Z Z<|.yv (.loadW Z Fx.agg107 (.head _) lE3) Z<|.yv (.callV (fi := []) (ca := []) Z hg.1 Z (fun W s => hg.2 H G _ _ W rE3 hok3 s.agr)) Z<|.yv (.not Z) Z<|.nt<|.cd Z (fun h35 => ?_) (fun h35 => ?_)
    ·skip
     refine .sr<|.a Z Z<|.nt<|.rt<|.bR<|.tR<|.tR<|.bR<|.bR<|.tR<|.tR<|.bR<|.bR<|.tR<|.tR<|.bR<|.tR<|?_
     refine Sx.ret1 (.inl rfl) rfl (.tmp rfl) fun W s => ⟨retB ?_,s.ext⟩
     first
      | (rw [evH_eq,hal1])
      | (rw [evH_eq,lall_bad hk1 (by rw [hx1,cpAll];exact lall_bad hk2 (by rw [hx2];exact lall_bad hk3 (by simpa using h35)))])
    skip
    exact .sk<|.bN<|.tN<|.rg<|.yv (.add Z Z (w6 (by omega))) Z<|.m Z Z<|.nt<|.ag (k3 + 1) ⟨rfl,trivial⟩ ⟨rfl,rfl,rfl,rfl,rfl,rfl,rfl,rfl,rfl,trivial⟩ (fun _ s => s.pick [1,2,3] [_,_,_] Z Z) ⟨by omega,by rw [lall_succ hk3,hal3];simpa using h35⟩ (by omega)
   try simp only [df] at h29
   obtain rfl : k3 = x2.length := by omega
   rw [List.take_length] at hal3;exact .ex<|.tE<|.tE<|.bE<|.bN<|.tN<|.rg<|.yv (.add Z Z (w6 (by omega))) Z<|.m Z Z<|.nt<|.ag (k2 + 1) ⟨rfl,trivial⟩ ⟨rfl,rfl,rfl,rfl,rfl,rfl,trivial⟩ (fun _ s => s.pick [1,2] [_,_] Z Z) ⟨by omega,by rw [lall_succ hk2,hal2,hx2,hal3];rfl⟩ (by omega)
  try simp only [df] at h22
  obtain rfl : k2 = x1.vers.length := by omega
  rw [List.take_length] at hal2;exact .ex<|.tE<|.tE<|.bE<|.bN<|.tN<|.rg<|.yv (.add Z Z (w6 (by omega))) Z<|.m Z Z<|.nt<|.ag (k1 + 1) ⟨rfl,trivial⟩ ⟨rfl,rfl,rfl,trivial⟩ (fun _ s => s.pick [1] [_] Z Z) ⟨by omega,by rw [lall_succ hk1,hal1,hx1,cpAll,hal2];rfl⟩ (by omega)
 try simp only [df] at h15
 obtain rfl : k1 = f.comps.length := by omega
 rw [List.take_length] at hal1;refine .ex<|.tE<|.tE<|.bE<|.tN<|.sr<|.a Z Z<|.nt<|.rt<|?_
 refine Sx.ret1 (.inl rfl) rfl (.tmp rfl) fun W s => ⟨retB ?_,s.ext⟩
 first
  | (rw [evH_eq,hal1])
  | (rw [evH_eq,lall_bad hk1 (by rw [hx1,cpAll];exact lall_bad hk2 (by rw [hx2];exact lall_bad hk3 (by simpa using h35)))])
set_option maxRecDepth 100000 in
theorem formed_any (H : Hp) (G : Gl H) (f : Ft) (cs : List Value) (h : Rep H (dFt .u8 f) cs) (hok : evH okH f = true) (w : World) (hA : Agr H w) :
 Calls Tryz.prog 31 #[.agg cs.toArray] w fun r w' => r = .returned (.bool (frmF f)) ∧ Ext w w' := by
 obtain ⟨p1,c1,p2,c2,p3,c3,rfl,hnm,hs1,hs2,hs3⟩ := ft_open h;have hcap1 := hs1.cap;have hcap2 := hs2.cap;have hcap3 := hs3.cap;refine Sx.enter (H := H) Tryz.func31 rfl Tryz.ntmps31 rfl hA ?_;refine .sr<|.bx Z Z Z fun b1 => .a Z Z<|.nt<|.sq<|.sr<|.yv (.fieldAddr Z Fx.field37_2) Z<|.yv (.load Z Fx.agg34 (.head _) Z) Z<|.yv (.lenSl Fx.sl34 Z) Z<|.m Z Z<|.nt<|.bk<|.lp (X := Nat) [(1,_),(10,_),(11,_)] ⟨rfl,rfl,rfl,trivial⟩ [_] (fun k0 => [(12,.int .i64 (k0 : Nat))]) (fun k0 => H) (fun k0 => []) (fun k0 => k0 ≤ f.links.length ∧ (f.links.take k0).all lkB = true) (fun k0 => f.links.length - k0) 0 (fun _ s => s) ⟨rfl,trivial⟩ ⟨by omega,rfl⟩ fun k0 hC => ?_
 obtain ⟨hq0,hal0⟩ := hC;refine .sr<|.yv (.lss Z Z) Z<|.nt<|.sq<|.cd Z (fun h13 => ?_) (fun h13 => ?_)
 ·try simp only [dt] at h13
  have hk0 : k0 < f.links.length := by omega
  obtain ⟨bE0,oE0,cE0,hpE0,rE0,lE0,mE0⟩ := hs2.elem (map_at hk0);cases hpE0;obtain ⟨rfl,hn5,hn6⟩ := lk_open rE0;refine .sk<|.tN<|.sq<|.bk<|.sr<|.yv (.indexSl Fx.sl34 Z Z Z (by omega) (q := oE0 + k0 * 3) Z) Z<|.yv (.loadMW Z Fx.agg92 mE0 Z) Z<|.al Fx.zero92 Z fun b4 => .sW .head Z Z Fx.size92 (by simp [Value.oneCell',strV]) Z<|.ns<|.yv (.fieldAddr Z Fx.field92_2) Z<|.yv (.load Z Fx.agg3 (.head _) Z) Z<|.yv (.lss Z Z) Z<|.m Z Z<|.b2 (fun h19 => ?_) (fun h19 => ?_)
  ·try simp only [dt] at h19
   refine .gF Z Z Z Z<|.gF Z Z Z Z<|.gF Z Z Z Z<|.yv (.pickT Z Z) Z<|.nt<|.cT Z<|.sr<|.a Z Z<|.nt<|.rt<|.bR<|.tR<|.tR<|.bR<|.tR<|?_
   refine Sx.ret1 (.inl rfl) rfl (.tmp rfl) fun W s => ⟨retB ?_,s.ext⟩
   first
    | (rw [frmF,hal0,hal1];simp)
    | (rw [frmF,lall_bad hk0 (by simp [lkB];omega)];simp)
    | (rw [frmF,show f.comps.all (fun c => c.vars.all frmV) = false from lall_bad hk1 (by rw [hx1];exact lall_bad hk2 (by simpa using h41))];simp)
  try simp only [df] at h19
  refine .gd Z Z<|.yv (.fieldAddr Z Fx.field92_2) Z<|.gd Z Z<|.yv (.load Z Fx.agg3 (.head _) Z) Z<|.gd Z Z<|.yv (.gtr Z Z) Z<|.yv (.pickF Z Z) Z<|.nt<|.cd Z (fun h23 => ?_) (fun h23 => ?_)
  ·try simp only [dt] at h23
   refine .sr<|.a Z Z<|.nt<|.rt<|.bR<|.tR<|.tR<|.bR<|.tR<|?_
   refine Sx.ret1 (.inl rfl) rfl (.tmp rfl) fun W s => ⟨retB ?_,s.ext⟩
   first
    | (rw [frmF,hal0,hal1];simp)
    | (rw [frmF,lall_bad hk0 (by simp [lkB];omega)];simp)
    | (rw [frmF,show f.comps.all (fun c => c.vars.all frmV) = false from lall_bad hk1 (by rw [hx1];exact lall_bad hk2 (by simpa using h41))];simp)
  try simp only [df] at h23
  exact .sk<|.bN<|.tN<|.rg<|.yv (.add Z Z (w6 (by omega))) Z<|.m Z Z<|.nt<|.ag (k0 + 1) ⟨rfl,trivial⟩ ⟨rfl,rfl,rfl,trivial⟩ (fun _ s => s.pick [1] [_] Z Z) ⟨by omega,by rw [lall_succ hk0,hal0];simp [lkB];omega⟩ (by omega)
 try simp only [df] at h13
 obtain rfl : k0 = f.links.length := by omega
 rw [List.take_length] at hal0;refine .ex<|.tE<|.tE<|.bE<|.tN<|.sq<|.sr<|.yv (.fieldAddr Z Fx.field37_3) Z<|.yv (.load Z Fx.agg35 (.head _) Z) Z<|.yv (.lenSl Fx.sl35 Z) Z<|.m Z Z<|.nt<|.bk<|.lp (X := Nat) [(1,_),(26,_),(27,_)] ⟨rfl,rfl,rfl,trivial⟩ [_] (fun k1 => [(28,.int .i64 (k1 : Nat))]) (fun k1 => H) (fun k1 => []) (fun k1 => k1 ≤ f.comps.length ∧ (f.comps.take k1).all (fun c => c.vars.all frmV) = true) (fun k1 => f.comps.length - k1) 0 (fun _ s => s) ⟨rfl,trivial⟩ ⟨by omega,rfl⟩ fun k1 hC => ?_
 obtain ⟨hq1,hal1⟩ := hC;refine .sr<|.yv (.lss Z Z) Z<|.nt<|.sq<|.cd Z (fun h29 => ?_) (fun h29 => ?_)
 ·try simp only [dt] at h29
  have hk1 : k1 < f.comps.length := by omega
  obtain ⟨bE1,oE1,cE1,hpE1,rE1,lE1,mE1⟩ := hs3.elem (map_at hk1);cases hpE1;generalize hx1 : f.comps[k1] = x1 at rE1;obtain ⟨p4,c4,p5,c5,rfl,hn4,hs4,hs5⟩ := cp_open rE1;have hcap4 := hs4.cap;refine .sk<|.tN<|.sq<|.bk<|.sr<|.yv (.indexSl Fx.sl35 Z Z Z (by omega) (q := oE1 + k1 * 3) Z) Z<|.yv (.loadMW Z Fx.agg96 mE1 Z) Z<|.al Fx.zero96 Z fun b6 => .sW .head Z Z Fx.size96 (by simp [Value.oneCell',strV]) Z<|.ns<|.yv (.fieldAddr Z Fx.field96_1) Z<|.yv (.load Z Fx.agg93 (.head _) Z) Z<|.yv (.lenSl Fx.sl93 Z) Z<|.m Z Z<|.nt<|.bk<|.lp (X := Nat) [(1,_),(26,_),(27,_),(28,_),(33,_),(34,_)] ⟨rfl,rfl,rfl,rfl,rfl,rfl,trivial⟩ [_,_] (fun k2 => [(35,.int .i64 (k2 : Nat))]) (fun k2 => H) (fun k2 => []) (fun k2 => k2 ≤ x1.vars.length ∧ (x1.vars.take k2).all frmV = true) (fun k2 => x1.vars.length - k2) 0 (fun _ s => s) ⟨rfl,trivial⟩ ⟨by omega,rfl⟩ fun k2 hC => ?_
  obtain ⟨hq2,hal2⟩ := hC;refine .sr<|.yv (.lss Z Z) Z<|.nt<|.sq<|.cd Z (fun h36 => ?_) (fun h36 => ?_)
  ·try simp only [dt] at h36
   have hk2 : k2 < x1.vars.length := by omega
   obtain ⟨bE2,oE2,cE2,hpE2,rE2,lE2,mE2⟩ := hs4.elem (map_at hk2);cases hpE2

   refine .sk<|.tN<|.sq<|.bk<|.sr<|.yv (.indexSl Fx.sl93 Z Z Z (by omega) (q := oE2 + k2 * 3) Z) Z<|.yv (.loadMW Z Fx.agg100 mE2 lE2) Z<|.al Fx.zero100 Z fun b8 => .sV .head Z Z Fx.size100 lE2 rE2.one Z<|.ns<|.yv (.loadW Z Fx.agg100 (.head _) lE2) Z<|.yv (.call Fx.call68 Z (fun W s => formedVar_any H _ _ rE2 W s.agr)) Z<|.yv (.not Z) Z<|.nt<|.cd Z (fun h41 => ?_) (fun h41 => ?_)
   ·skip
    refine .sr<|.a Z Z<|.nt<|.rt<|.bR<|.tR<|.tR<|.bR<|.bR<|.tR<|.tR<|.bR<|.tR<|?_
    refine Sx.ret1 (.inl rfl) rfl (.tmp rfl) fun W s => ⟨retB ?_,s.ext⟩
    first
     | (rw [frmF,hal0,hal1];simp)
     | (rw [frmF,lall_bad hk0 (by simp [lkB];omega)];simp)
     | (rw [frmF,show f.comps.all (fun c => c.vars.all frmV) = false from lall_bad hk1 (by rw [hx1];exact lall_bad hk2 (by simpa using h41))];simp)
   skip
   exact .sk<|.bN<|.tN<|.rg<|.yv (.add Z Z (w6 (by omega))) Z<|.m Z Z<|.nt<|.ag (k2 + 1) ⟨rfl,trivial⟩ ⟨rfl,rfl,rfl,rfl,rfl,rfl,trivial⟩ (fun _ s => s.pick [1,2] [_,_] Z Z) ⟨by omega,by rw [lall_succ hk2,hal2];simpa using h41⟩ (by omega)
  try simp only [df] at h36
  obtain rfl : k2 = x1.vars.length := by omega
  rw [List.take_length] at hal2;exact .ex<|.tE<|.tE<|.bE<|.bN<|.tN<|.rg<|.yv (.add Z Z (w6 (by omega))) Z<|.m Z Z<|.nt<|.ag (k1 + 1) ⟨rfl,trivial⟩ ⟨rfl,rfl,rfl,trivial⟩ (fun _ s => s.pick [1] [_] Z Z) ⟨by omega,by rw [lall_succ hk1,hal1,hx1,hal2];rfl⟩ (by omega)
 try simp only [df] at h29
 obtain rfl : k1 = f.comps.length := by omega
 rw [List.take_length] at hal1;refine .ex<|.tE<|.tE<|.bE<|.tN<|.sr<|.yv (.loadW Z Fx.agg37 (.head _) Z) Z<|.yv (.call Fx.call62 Z (fun W s => everyHandler_any 69 frmH formedHandler_any H G f _ h hok W s.agr)) Z<|.a Z Z<|.nt<|.rt<|?_
 refine Sx.ret1 (.inl rfl) rfl (.tmp rfl) fun W s => ⟨retB ?_,s.ext⟩
 first
  | (rw [frmF,hal0,hal1];simp)
  | (rw [frmF,lall_bad hk0 (by simp [lkB];omega)];simp)
  | (rw [frmF,show f.comps.all (fun c => c.vars.all frmV) = false from lall_bad hk1 (by rw [hx1];exact lall_bad hk2 (by simpa using h41))];simp)
set_option maxRecDepth 100000 in
theorem named_any (H : Hp) (G : Gl H) (f : Ft) (cs : List Value) (h : Rep H (dFt .u8 f) cs) (hok : evH okH f = true) (w : World) (hA : Agr H w) :
 Calls Tryz.prog 30 #[.agg cs.toArray] w fun r w' => r = .returned (.bool (namF f)) ∧ Ext w w' := by
 obtain ⟨p1,c1,p2,c2,p3,c3,rfl,hnm,hs1,hs2,hs3⟩ := ft_open h;have hcap1 := hs1.cap;have hcap2 := hs2.cap;have hcap3 := hs3.cap;refine Sx.enter (H := H) Tryz.func30 rfl Tryz.ntmps30 rfl hA ?_;refine .sr<|.bx Z Z Z fun b1 => .a Z Z<|.ns<|.yv (.fieldAddr Z Fx.field37_0) Z<|.yv (.load Z Fx.agg9 (.head _) Z) Z<|.yv (.call Fx.call64 Z (fun W s => isName_any H G _ (by omega) W s.agr)) Z<|.a Z Z<|.nt<|.sq<|.sr<|.yv (.fieldAddr Z Fx.field37_1) Z<|.yv (.load Z Fx.agg33 (.head _) Z) Z<|.yv (.lenSl Fx.sl33 Z) Z<|.m Z Z<|.nt<|.bk<|.lp (X := Nat) [(1,_),(16,_),(17,_)] ⟨rfl,rfl,rfl,trivial⟩ [_] (fun k0 => [(18,.int .i64 (k0 : Nat)),(3,.bool (nameB f.nm && (f.flags.take k0).all (fun x => nameB x.nm)))]) (fun k0 => H) (fun k0 => []) (fun k0 => k0 ≤ f.flags.length) (fun k0 => f.flags.length - k0) 0 (fun _ s => s) ⟨rfl,(by rw [List.take_zero,List.all_nil,Bool.and_true];rfl),trivial⟩ (by omega) fun k0 hC => ?_
 refine .sr<|.yv (.lss Z Z) Z<|.nt<|.sq<|.cd Z (fun h19 => ?_) (fun h19 => ?_)
 ·try simp only [dt] at h19
  have hk0 : k0 < f.flags.length := by omega
  obtain ⟨bE0,oE0,cE0,hpE0,rE0,lE0,mE0⟩ := hs1.elem (map_at hk0);cases hpE0;obtain ⟨rfl,hn5⟩ := fg_open rE0;refine .sk<|.tN<|.sq<|.bk<|.sr<|.yv (.indexSl Fx.sl33 Z Z Z (by omega) (q := oE0 + k0 * 2) Z) Z<|.yv (.loadMW Z Fx.agg89 mE0 Z) Z<|.al Fx.zero89 Z fun b5 => .sW .head Z Z Fx.size89 (by simp [Value.oneCell',strV]) Z<|.nt<|.rg<|.m Z Z<|.m Z Z<|.b2 (fun h23 => ?_) (fun h23 => ?_)
  ·skip
   exact .gd Z Z<|.yv (.fieldAddr Z Fx.field89_0) Z<|.gd Z Z<|.yv (.load Z Fx.agg9 (.head _) Z) Z<|.gd Z Z<|.yv (.call Fx.call64 Z (fun W s => isName_any H G _ (by omega) W s.agr)) Z<|.yv (.pickT Z Z) Z<|.a Z Z<|.nl<|.bN<|.tN<|.rg<|.yv (.add Z Z (w6 (by omega))) Z<|.m Z Z<|.nt<|.ag (k0 + 1) ⟨rfl,(by rw [lall_succ hk0,← Bool.and_assoc,h23];rfl),trivial⟩ ⟨rfl,rfl,rfl,trivial⟩ (fun _ s => s.pick [1] [_] Z Z) (by omega) (by omega)
  skip
  exact .gF Z Z Z Z<|.gF Z Z Z Z<|.gF Z Z Z Z<|.yv (.pickF Z Z) Z<|.a Z Z<|.nl<|.bN<|.tN<|.rg<|.yv (.add Z Z (w6 (by omega))) Z<|.m Z Z<|.nt<|.ag (k0 + 1) ⟨rfl,(by rw [lall_succ hk0,← Bool.and_assoc,h23];rfl),trivial⟩ ⟨rfl,rfl,rfl,trivial⟩ (fun _ s => s.pick [1] [_] Z Z) (by omega) (by omega)
 try simp only [df] at h19
 obtain rfl : k0 = f.flags.length := by omega
 rw [List.take_length];refine .ex<|.tE<|.tE<|.bE<|.tN<|.sq<|.sr<|.yv (.fieldAddr Z Fx.field37_2) Z<|.yv (.load Z Fx.agg34 (.head _) Z) Z<|.yv (.lenSl Fx.sl34 Z) Z<|.m Z Z<|.nt<|.bk<|.lp (X := Nat) [(1,_),(30,_),(31,_)] ⟨rfl,rfl,rfl,trivial⟩ [_] (fun k1 => [(32,.int .i64 (k1 : Nat)),(3,.bool (nameB f.nm && f.flags.all (fun x => nameB x.nm) && (f.links.take k1).all (fun x => nameB x.fr && nameB x.to)))]) (fun k1 => H) (fun k1 => []) (fun k1 => k1 ≤ f.links.length) (fun k1 => f.links.length - k1) 0 (fun _ s => s) ⟨rfl,(by rw [List.take_zero,List.all_nil,Bool.and_true];rfl),trivial⟩ (by omega) fun k1 hC => ?_
 refine .sr<|.yv (.lss Z Z) Z<|.nt<|.sq<|.cd Z (fun h33 => ?_) (fun h33 => ?_)
 ·try simp only [dt] at h33
  have hk1 : k1 < f.links.length := by omega
  obtain ⟨bE1,oE1,cE1,hpE1,rE1,lE1,mE1⟩ := hs2.elem (map_at hk1);cases hpE1;obtain ⟨rfl,hn5,hn6⟩ := lk_open rE1;refine .sk<|.tN<|.sq<|.bk<|.sr<|.yv (.indexSl Fx.sl34 Z Z Z (by omega) (q := oE1 + k1 * 3) Z) Z<|.yv (.loadMW Z Fx.agg92 mE1 Z) Z<|.al Fx.zero92 Z fun b7 => .sW .head Z Z Fx.size92 (by simp [Value.oneCell',strV]) Z<|.nt<|.rg<|.m Z Z<|.m Z Z<|.b2 (fun h37 => ?_) (fun h37 => ?_)
  ·skip
   refine .gd Z Z<|.yv (.fieldAddr Z Fx.field92_0) Z<|.gd Z Z<|.yv (.load Z Fx.agg9 (.head _) Z) Z<|.gd Z Z<|.yv (.call Fx.call64 Z (fun W s => isName_any H G _ (by omega) W s.agr)) Z<|.yv (.pickT Z Z) Z<|.m Z Z<|.b2 (fun h42 => ?_) (fun h42 => ?_)
   ·skip
    exact .gd Z Z<|.yv (.fieldAddr Z Fx.field92_1) Z<|.gd Z Z<|.yv (.load Z Fx.agg9 (.head _) Z) Z<|.gd Z Z<|.yv (.call Fx.call64 Z (fun W s => isName_any H G _ (by omega) W s.agr)) Z<|.yv (.pickT Z Z) Z<|.a Z Z<|.nl<|.bN<|.tN<|.rg<|.yv (.add Z Z (w6 (by omega))) Z<|.m Z Z<|.nt<|.ag (k1 + 1) ⟨rfl,(by rw [lall_succ hk1,← Bool.and_assoc,h37];first | rfl | (rw [Bool.true_and,h42];rfl)),trivial⟩ ⟨rfl,rfl,rfl,trivial⟩ (fun _ s => s.pick [1] [_] Z Z) (by omega) (by omega)
   skip
   exact .gF Z Z Z Z<|.gF Z Z Z Z<|.gF Z Z Z Z<|.yv (.pickF Z Z) Z<|.a Z Z<|.nl<|.bN<|.tN<|.rg<|.yv (.add Z Z (w6 (by omega))) Z<|.m Z Z<|.nt<|.ag (k1 + 1) ⟨rfl,(by rw [lall_succ hk1,← Bool.and_assoc,h37];first | rfl | (rw [Bool.true_and,h42];rfl)),trivial⟩ ⟨rfl,rfl,rfl,trivial⟩ (fun _ s => s.pick [1] [_] Z Z) (by omega) (by omega)
  skip
  exact .gF Z Z Z Z<|.gF Z Z Z Z<|.gF Z Z Z Z<|.yv (.pickF Z Z) Z<|.m Z Z<|.gF Z Z Z Z<|.gF Z Z Z Z<|.gF Z Z Z Z<|.yv (.pickF Z Z) Z<|.a Z Z<|.nl<|.bN<|.tN<|.rg<|.yv (.add Z Z (w6 (by omega))) Z<|.m Z Z<|.nt<|.ag (k1 + 1) ⟨rfl,(by rw [lall_succ hk1,← Bool.and_assoc,h37];first | rfl | (rw [Bool.true_and,h42];rfl)),trivial⟩ ⟨rfl,rfl,rfl,trivial⟩ (fun _ s => s.pick [1] [_] Z Z) (by omega) (by omega)
 try simp only [df] at h33
 obtain rfl : k1 = f.links.length := by omega
 rw [List.take_length];refine .ex<|.tE<|.tE<|.bE<|.tN<|.sq<|.sr<|.yv (.fieldAddr Z Fx.field37_3) Z<|.yv (.load Z Fx.agg35 (.head _) Z) Z<|.yv (.lenSl Fx.sl35 Z) Z<|.m Z Z<|.nt<|.bk<|.lp (X := Nat) [(1,_),(49,_),(50,_)] ⟨rfl,rfl,rfl,trivial⟩ [_] (fun k2 => [(51,.int .i64 (k2 : Nat)),(3,.bool (nameB f.nm && f.flags.all (fun x => nameB x.nm) && f.links.all (fun x => nameB x.fr && nameB x.to) && (f.comps.take k2).all (fun c : Cp => nameB c.nm && c.vars.all fun v => nameB v.nm)))]) (fun k2 => H) (fun k2 => []) (fun k2 => k2 ≤ f.comps.length) (fun k2 => f.comps.length - k2) 0 (fun _ s => s) ⟨rfl,(by rw [List.take_zero,List.all_nil,Bool.and_true];rfl),trivial⟩ (by omega) fun k2 hC => ?_
 refine .sr<|.yv (.lss Z Z) Z<|.nt<|.sq<|.cd Z (fun h52 => ?_) (fun h52 => ?_)
 ·try simp only [dt] at h52
  have hk2 : k2 < f.comps.length := by omega
  obtain ⟨bE2,oE2,cE2,hpE2,rE2,lE2,mE2⟩ := hs3.elem (map_at hk2);cases hpE2;generalize hx2 : f.comps[k2] = x2 at rE2;obtain ⟨p4,c4,p5,c5,rfl,hn4,hs4,hs5⟩ := cp_open rE2;have hcap4 := hs4.cap;refine .sk<|.tN<|.sq<|.bk<|.sr<|.yv (.indexSl Fx.sl35 Z Z Z (by omega) (q := oE2 + k2 * 3) Z) Z<|.yv (.loadMW Z Fx.agg96 mE2 Z) Z<|.al Fx.zero96 Z fun b9 => .sW .head Z Z Fx.size96 (by simp [Value.oneCell',strV]) Z<|.ns<|.m Z Z<|.m Z Z<|.b2 (fun h56 => ?_) (fun h56 => ?_)
  ·skip
   refine .gd Z Z<|.yv (.fieldAddr Z Fx.field96_0) Z<|.gd Z Z<|.yv (.load Z Fx.agg9 (.head _) Z) Z<|.gd Z Z<|.yv (.call Fx.call64 Z (fun W s => isName_any H G _ (by omega) W s.agr)) Z<|.yv (.pickT Z Z) Z<|.a Z Z<|.ns<|.yv (.fieldAddr Z Fx.field96_1) Z<|.yv (.load Z Fx.agg93 (.head _) Z) Z<|.yv (.lenSl Fx.sl93 Z) Z<|.m Z Z<|.nt<|.bk<|.lp (X := Nat) [(1,_),(49,_),(50,_),(51,_),(62,_),(63,_)] ⟨rfl,rfl,rfl,rfl,rfl,rfl,trivial⟩ [_,_] (fun k3 => [(64,.int .i64 (k3 : Nat)),(3,.bool (nameB f.nm && f.flags.all (fun x => nameB x.nm) && f.links.all (fun x => nameB x.fr && nameB x.to) && (f.comps.take k2).all (fun c : Cp => nameB c.nm && c.vars.all fun v => nameB v.nm) && nameB x2.nm && (x2.vars.take k3).all (fun v => nameB v.nm)))]) (fun k3 => H) (fun k3 => []) (fun k3 => k3 ≤ x2.vars.length) (fun k3 => x2.vars.length - k3) 0 (fun _ s => s) ⟨rfl,(by rw [List.take_zero,List.all_nil,Bool.and_true,h56];rfl),trivial⟩ (by omega) fun k3 hC => ?_
   refine .sr<|.yv (.lss Z Z) Z<|.nt<|.sq<|.cd Z (fun h65 => ?_) (fun h65 => ?_)
   ·try simp only [dt] at h65
    have hk3 : k3 < x2.vars.length := by omega
    obtain ⟨bE3,oE3,cE3,hpE3,rE3,lE3,mE3⟩ := hs4.elem (map_at hk3);cases hpE3;obtain ⟨rfl,hn7⟩ := vr_open rE3;refine .sk<|.tN<|.sq<|.bk<|.sr<|.yv (.indexSl Fx.sl93 Z Z Z (by omega) (q := oE3 + k3 * 3) Z) Z<|.yv (.loadMW Z Fx.agg100 mE3 Z) Z<|.al Fx.zero100 Z fun b11 => .sW .head Z Z Fx.size100 (by simp [Value.oneCell',strV]) Z<|.nt<|.rg<|.m Z Z<|.m Z Z<|.b2 (fun h69 => ?_) (fun h69 => ?_)
    ·skip
     exact .gd Z Z<|.yv (.fieldAddr Z Fx.field100_0) Z<|.gd Z Z<|.yv (.load Z Fx.agg9 (.head _) Z) Z<|.gd Z Z<|.yv (.call Fx.call64 Z (fun W s => isName_any H G _ (by omega) W s.agr)) Z<|.yv (.pickT Z Z) Z<|.a Z Z<|.nl<|.bN<|.tN<|.rg<|.yv (.add Z Z (w6 (by omega))) Z<|.m Z Z<|.nt<|.ag (k3 + 1) ⟨rfl,(by rw [lall_succ hk3,← Bool.and_assoc,h69];rfl),trivial⟩ ⟨rfl,rfl,rfl,rfl,rfl,rfl,trivial⟩ (fun _ s => s.pick [1,2] [_,_] Z Z) (by omega) (by omega)
    skip
    exact .gF Z Z Z Z<|.gF Z Z Z Z<|.gF Z Z Z Z<|.yv (.pickF Z Z) Z<|.a Z Z<|.nl<|.bN<|.tN<|.rg<|.yv (.add Z Z (w6 (by omega))) Z<|.m Z Z<|.nt<|.ag (k3 + 1) ⟨rfl,(by rw [lall_succ hk3,← Bool.and_assoc,h69];rfl),trivial⟩ ⟨rfl,rfl,rfl,rfl,rfl,rfl,trivial⟩ (fun _ s => s.pick [1,2] [_,_] Z Z) (by omega) (by omega)
   try simp only [df] at h65
   obtain rfl : k3 = x2.vars.length := by omega
   rw [List.take_length];exact .ex<|.tE<|.tE<|.bE<|.bN<|.tN<|.rg<|.yv (.add Z Z (w6 (by omega))) Z<|.m Z Z<|.nt<|.ag (k2 + 1) ⟨rfl,(by rw [lall_succ hk2,← Bool.and_assoc,hx2,← Bool.and_assoc];rfl),trivial⟩ ⟨rfl,rfl,rfl,trivial⟩ (fun _ s => s.pick [1] [_] Z Z) (by omega) (by omega)
  skip
  refine .gF Z Z Z Z<|.gF Z Z Z Z<|.gF Z Z Z Z<|.yv (.pickF Z Z) Z<|.a Z Z<|.ns<|.yv (.fieldAddr Z Fx.field96_1) Z<|.yv (.load Z Fx.agg93 (.head _) Z) Z<|.yv (.lenSl Fx.sl93 Z) Z<|.m Z Z<|.nt<|.bk<|.lp (X := Nat) [(1,_),(49,_),(50,_),(51,_),(62,_),(63,_)] ⟨rfl,rfl,rfl,rfl,rfl,rfl,trivial⟩ [_,_] (fun k3 => [(64,.int .i64 (k3 : Nat)),(3,.bool (nameB f.nm && f.flags.all (fun x => nameB x.nm) && f.links.all (fun x => nameB x.fr && nameB x.to) && (f.comps.take k2).all (fun c : Cp => nameB c.nm && c.vars.all fun v => nameB v.nm) && nameB x2.nm && (x2.vars.take k3).all (fun v => nameB v.nm)))]) (fun k3 => H) (fun k3 => []) (fun k3 => k3 ≤ x2.vars.length) (fun k3 => x2.vars.length - k3) 0 (fun _ s => s) ⟨rfl,(by rw [List.take_zero,List.all_nil,Bool.and_true,h56];rfl),trivial⟩ (by omega) fun k3 hC => ?_
  refine .sr<|.yv (.lss Z Z) Z<|.nt<|.sq<|.cd Z (fun h65 => ?_) (fun h65 => ?_)
  ·try simp only [dt] at h65
   have hk3 : k3 < x2.vars.length := by omega
   obtain ⟨bE3,oE3,cE3,hpE3,rE3,lE3,mE3⟩ := hs4.elem (map_at hk3);cases hpE3;obtain ⟨rfl,hn7⟩ := vr_open rE3;refine .sk<|.tN<|.sq<|.bk<|.sr<|.yv (.indexSl Fx.sl93 Z Z Z (by omega) (q := oE3 + k3 * 3) Z) Z<|.yv (.loadMW Z Fx.agg100 mE3 Z) Z<|.al Fx.zero100 Z fun b11 => .sW .head Z Z Fx.size100 (by simp [Value.oneCell',strV]) Z<|.nt<|.rg<|.m Z Z<|.m Z Z<|.b2 (fun h69 => ?_) (fun h69 => ?_)
   ·skip
    exact .gd Z Z<|.yv (.fieldAddr Z Fx.field100_0) Z<|.gd Z Z<|.yv (.load Z Fx.agg9 (.head _) Z) Z<|.gd Z Z<|.yv (.call Fx.call64 Z (fun W s => isName_any H G _ (by omega) W s.agr)) Z<|.yv (.pickT Z Z) Z<|.a Z Z<|.nl<|.bN<|.tN<|.rg<|.yv (.add Z Z (w6 (by omega))) Z<|.m Z Z<|.nt<|.ag (k3 + 1) ⟨rfl,(by rw [lall_succ hk3,← Bool.and_assoc,h69];rfl),trivial⟩ ⟨rfl,rfl,rfl,rfl,rfl,rfl,trivial⟩ (fun _ s => s.pick [1,2] [_,_] Z Z) (by omega) (by omega)
   skip
   exact .gF Z Z Z Z<|.gF Z Z Z Z<|.gF Z Z Z Z<|.yv (.pickF Z Z) Z<|.a Z Z<|.nl<|.bN<|.tN<|.rg<|.yv (.add Z Z (w6 (by omega))) Z<|.m Z Z<|.nt<|.ag (k3 + 1) ⟨rfl,(by rw [lall_succ hk3,← Bool.and_assoc,h69];rfl),trivial⟩ ⟨rfl,rfl,rfl,rfl,rfl,rfl,trivial⟩ (fun _ s => s.pick [1,2] [_,_] Z Z) (by omega) (by omega)
  try simp only [df] at h65
  obtain rfl : k3 = x2.vars.length := by omega
  rw [List.take_length];exact .ex<|.tE<|.tE<|.bE<|.bN<|.tN<|.rg<|.yv (.add Z Z (w6 (by omega))) Z<|.m Z Z<|.nt<|.ag (k2 + 1) ⟨rfl,(by rw [lall_succ hk2,← Bool.and_assoc,hx2,← Bool.and_assoc];rfl),trivial⟩ ⟨rfl,rfl,rfl,trivial⟩ (fun _ s => s.pick [1] [_] Z Z) (by omega) (by omega)
 try simp only [df] at h52
 obtain rfl : k2 = f.comps.length := by omega
 rw [List.take_length];refine .ex<|.tE<|.tE<|.bE<|.tN<|.sr<|.m Z Z<|.m Z Z<|.b2 (fun h77 => ?_) (fun h77 => ?_)
 ·skip
  refine .gd Z Z<|.yv (.loadW Z Fx.agg37 (.head _) Z) Z<|.gd Z Z<|.yv (.call Fx.call62 Z (fun W s => everyHandler_any 65 namH namedHandler_any H G f _ h hok W s.agr)) Z<|.yv (.pickT Z Z) Z<|.a Z Z<|.nt<|.rt<|?_
  refine Sx.ret1 (.inl rfl) rfl (.tmp rfl) fun W s => ⟨retB ?_,s.ext⟩
  first
   | (rw [namF,h77];simp)
   | (rw [namF,h77];rfl)
 skip
 refine .gF Z Z Z Z<|.gF Z Z Z Z<|.yv (.pickF Z Z) Z<|.a Z Z<|.nt<|.rt<|?_
 refine Sx.ret1 (.inl rfl) rfl (.tmp rfl) fun W s => ⟨retB ?_,s.ext⟩
 first
  | (rw [namF,h77];simp)
  | (rw [namF,h77];rfl)
theorem Fx.call29 : callN Tryz.prog 29 = Bool.true := by kernel_rfl
theorem Fx.call30 : callN Tryz.prog 30 = Bool.true := by kernel_rfl
theorem Fx.call31 : callN Tryz.prog 31 = Bool.true := by kernel_rfl
theorem Fx.map164 : mapN Tryz.prog 164 = Bool.true := by kernel_rfl
set_option maxRecDepth 100000 in
theorem small_any (H : Hp) (G : Gl H) (f : Ft) (cs : List Value) (h : Rep H (dFt .u8 f) cs) (hok : evH okH f = true) (w : World) (hA : Agr H w) :
 Calls Tryz.prog 29 #[.agg cs.toArray] w fun r w' => r = .returned (.bool (smlF f)) ∧ Ext w w' := by
 obtain ⟨p1,c1,p2,c2,p3,c3,rfl,hnm,hs1,hs2,hs3⟩ := ft_open h;have hcap1 := hs1.cap;have hcap2 := hs2.cap;have hcap3 := hs3.cap;refine Sx.enter (H := H) Tryz.func29 rfl Tryz.ntmps29 rfl hA ?_;refine .sr<|.bx Z Z Z fun b1 => .a Z Z<|.ns<|.yv (.fieldAddr Z Fx.field37_3) Z<|.yv (.load Z Fx.agg35 (.head _) Z) Z<|.yv (.lenSl Fx.sl35 Z) Z<|.a Z Z<|.nt<|.sq<|.sr<|.m Z Z<|.yv (.eql Z Z) Z<|.m Z Z<|.b2 (fun h17 => ?_) (fun h17 => ?_)
 ·try simp only [dt] at h17
  refine .gF Z Z Z Z<|.gF Z Z Z Z<|.yv (.pickT Z Z) Z<|.m Z Z<|.gF Z Z Z Z<|.gF Z Z Z Z<|.gF Z Z Z Z<|.gF Z Z Z Z<|.yv (.pickT Z Z) Z<|.m Z Z<|.gF Z Z Z Z<|.gF Z Z Z Z<|.gF Z Z Z Z<|.gF Z Z Z Z<|.yv (.pickT Z Z) Z<|.nt<|.cT Z<|.sr<|.a Z Z<|.nt<|.rt<|.tR<|?_
  refine Sx.ret1 (.inl rfl) rfl (.tmp rfl) fun W s => ⟨retB ?_,s.ext⟩
  first
   | (rw [smlF,hal1,show limF f = true by simp only [limF,Bool.and_eq_true,decide_eq_true_eq];omega];simp)
   | (rw [smlF,show limF f = false by simp only [limF,Bool.and_eq_false_iff,decide_eq_false_iff_not];omega];rfl)
   | (rw [smlF,show f.comps.all smlC = false from lall_bad hk1 (by rw [hx1];simp only [smlC,Bool.and_eq_false_iff,decide_eq_false_iff_not];omega)];simp)
 try simp only [df] at h17
 refine .gd Z Z<|.yv (.move Z) Z<|.gd Z Z<|.yv (.gtr Z Z) Z<|.yv (.pickF Z Z) Z<|.m Z Z<|.b2 (fun h21 => ?_) (fun h21 => ?_)
 ·try simp only [dt] at h21
  refine .gF Z Z Z Z<|.gF Z Z Z Z<|.gF Z Z Z Z<|.gF Z Z Z Z<|.yv (.pickT Z Z) Z<|.m Z Z<|.gF Z Z Z Z<|.gF Z Z Z Z<|.gF Z Z Z Z<|.gF Z Z Z Z<|.yv (.pickT Z Z) Z<|.nt<|.cT Z<|.sr<|.a Z Z<|.nt<|.rt<|.tR<|?_
  refine Sx.ret1 (.inl rfl) rfl (.tmp rfl) fun W s => ⟨retB ?_,s.ext⟩
  first
   | (rw [smlF,hal1,show limF f = true by simp only [limF,Bool.and_eq_true,decide_eq_true_eq];omega];simp)
   | (rw [smlF,show limF f = false by simp only [limF,Bool.and_eq_false_iff,decide_eq_false_iff_not];omega];rfl)
   | (rw [smlF,show f.comps.all smlC = false from lall_bad hk1 (by rw [hx1];simp only [smlC,Bool.and_eq_false_iff,decide_eq_false_iff_not];omega)];simp)
 try simp only [df] at h21
 refine .gd Z Z<|.yv (.fieldAddr Z Fx.field37_1) Z<|.gd Z Z<|.yv (.load Z Fx.agg33 (.head _) Z) Z<|.gd Z Z<|.yv (.lenSl Fx.sl33 Z) Z<|.gd Z Z<|.yv (.gtr Z Z) Z<|.yv (.pickF Z Z) Z<|.m Z Z<|.b2 (fun h27 => ?_) (fun h27 => ?_)
 ·try simp only [dt] at h27
  refine .gF Z Z Z Z<|.gF Z Z Z Z<|.gF Z Z Z Z<|.gF Z Z Z Z<|.yv (.pickT Z Z) Z<|.nt<|.cT Z<|.sr<|.a Z Z<|.nt<|.rt<|.tR<|?_
  refine Sx.ret1 (.inl rfl) rfl (.tmp rfl) fun W s => ⟨retB ?_,s.ext⟩
  first
   | (rw [smlF,hal1,show limF f = true by simp only [limF,Bool.and_eq_true,decide_eq_true_eq];omega];simp)
   | (rw [smlF,show limF f = false by simp only [limF,Bool.and_eq_false_iff,decide_eq_false_iff_not];omega];rfl)
   | (rw [smlF,show f.comps.all smlC = false from lall_bad hk1 (by rw [hx1];simp only [smlC,Bool.and_eq_false_iff,decide_eq_false_iff_not];omega)];simp)
 try simp only [df] at h27
 refine .gd Z Z<|.yv (.fieldAddr Z Fx.field37_2) Z<|.gd Z Z<|.yv (.load Z Fx.agg34 (.head _) Z) Z<|.gd Z Z<|.yv (.lenSl Fx.sl34 Z) Z<|.gd Z Z<|.yv (.gtr Z Z) Z<|.yv (.pickF Z Z) Z<|.nt<|.cd Z (fun h32 => ?_) (fun h32 => ?_)
 ·try simp only [dt] at h32
  refine .sr<|.a Z Z<|.nt<|.rt<|.tR<|?_
  refine Sx.ret1 (.inl rfl) rfl (.tmp rfl) fun W s => ⟨retB ?_,s.ext⟩
  first
   | (rw [smlF,hal1,show limF f = true by simp only [limF,Bool.and_eq_true,decide_eq_true_eq];omega];simp)
   | (rw [smlF,show limF f = false by simp only [limF,Bool.and_eq_false_iff,decide_eq_false_iff_not];omega];rfl)
   | (rw [smlF,show f.comps.all smlC = false from lall_bad hk1 (by rw [hx1];simp only [smlC,Bool.and_eq_false_iff,decide_eq_false_iff_not];omega)];simp)
 try simp only [df] at h32
 refine .sk<|.tN<|.sq<|.sr<|.yv (.fieldAddr Z Fx.field37_3) Z<|.yv (.load Z Fx.agg35 (.head _) Z) Z<|.yv (.lenSl Fx.sl35 Z) Z<|.m Z Z<|.nt<|.bk<|.lp (X := Nat) [(1,_),(34,_),(35,_)] ⟨rfl,rfl,rfl,trivial⟩ [_] (fun k1 => [(36,.int .i64 (k1 : Nat))]) (fun k1 => H) (fun k1 => []) (fun k1 => k1 ≤ f.comps.length ∧ (f.comps.take k1).all smlC = true) (fun k1 => f.comps.length - k1) 0 (fun _ s => s) ⟨rfl,trivial⟩ ⟨by omega,rfl⟩ fun k1 hC => ?_
 obtain ⟨hq1,hal1⟩ := hC;refine .sr<|.yv (.lss Z Z) Z<|.nt<|.sq<|.cd Z (fun h37 => ?_) (fun h37 => ?_)
 ·try simp only [dt] at h37
  have hk1 : k1 < f.comps.length := by omega
  obtain ⟨bE1,oE1,cE1,hpE1,rE1,lE1,mE1⟩ := hs3.elem (map_at hk1);cases hpE1;generalize hx1 : f.comps[k1] = x1 at rE1;obtain ⟨p4,c4,p5,c5,rfl,hn4,hs4,hs5⟩ := cp_open rE1;have hcap5 := hs5.cap;refine .sk<|.tN<|.sq<|.bk<|.sr<|.yv (.indexSl Fx.sl35 Z Z Z (by omega) (q := oE1 + k1 * 3) Z) Z<|.yv (.loadMW Z Fx.agg96 mE1 Z) Z<|.al Fx.zero96 Z fun b5 => .sW .head Z Z Fx.size96 (by simp [Value.oneCell',strV]) Z<|.nt<|.sq<|.sr<|.yv (.fieldAddr Z Fx.field96_2) Z<|.yv (.load Z Fx.agg94 (.head _) Z) Z<|.yv (.lenSl Fx.sl94 Z) Z<|.a Z Z<|.ns<|.yv (.fieldAddr Z Fx.field96_1) Z<|.yv (.load Z Fx.agg93 (.head _) Z) Z<|.yv (.lenSl Fx.sl93 Z) Z<|.yv (.gtr Z Z) Z<|.m Z Z<|.b2 (fun h47 => ?_) (fun h47 => ?_)
  ·try simp only [dt] at h47
   refine .gF Z Z Z Z<|.gF Z Z Z Z<|.yv (.pickT Z Z) Z<|.m Z Z<|.gF Z Z Z Z<|.gF Z Z Z Z<|.yv (.pickT Z Z) Z<|.nt<|.cT Z<|.sr<|.a Z Z<|.nt<|.rt<|.tR<|.bR<|.tR<|.tR<|.bR<|.tR<|?_
   refine Sx.ret1 (.inl rfl) rfl (.tmp rfl) fun W s => ⟨retB ?_,s.ext⟩
   first
    | (rw [smlF,hal1,show limF f = true by simp only [limF,Bool.and_eq_true,decide_eq_true_eq];omega];simp)
    | (rw [smlF,show limF f = false by simp only [limF,Bool.and_eq_false_iff,decide_eq_false_iff_not];omega];rfl)
    | (rw [smlF,show f.comps.all smlC = false from lall_bad hk1 (by rw [hx1];simp only [smlC,Bool.and_eq_false_iff,decide_eq_false_iff_not];omega)];simp)
  try simp only [df] at h47
  refine .gd Z Z<|.yv (.move Z) Z<|.gd Z Z<|.yv (.eql Z Z) Z<|.yv (.pickF Z Z) Z<|.m Z Z<|.b2 (fun h51 => ?_) (fun h51 => ?_)
  ·try simp only [dt] at h51
   refine .gF Z Z Z Z<|.gF Z Z Z Z<|.yv (.pickT Z Z) Z<|.nt<|.cT Z<|.sr<|.a Z Z<|.nt<|.rt<|.tR<|.bR<|.tR<|.tR<|.bR<|.tR<|?_
   refine Sx.ret1 (.inl rfl) rfl (.tmp rfl) fun W s => ⟨retB ?_,s.ext⟩
   first
    | (rw [smlF,hal1,show limF f = true by simp only [limF,Bool.and_eq_true,decide_eq_true_eq];omega];simp)
    | (rw [smlF,show limF f = false by simp only [limF,Bool.and_eq_false_iff,decide_eq_false_iff_not];omega];rfl)
    | (rw [smlF,show f.comps.all smlC = false from lall_bad hk1 (by rw [hx1];simp only [smlC,Bool.and_eq_false_iff,decide_eq_false_iff_not];omega)];simp)
  try simp only [df] at h51
  refine .gd Z Z<|.yv (.move Z) Z<|.gd Z Z<|.yv (.gtr Z Z) Z<|.yv (.pickF Z Z) Z<|.nt<|.cd Z (fun h54 => ?_) (fun h54 => ?_)
  ·try simp only [dt] at h54
   refine .sr<|.a Z Z<|.nt<|.rt<|.tR<|.bR<|.tR<|.tR<|.bR<|.tR<|?_
   refine Sx.ret1 (.inl rfl) rfl (.tmp rfl) fun W s => ⟨retB ?_,s.ext⟩
   first
    | (rw [smlF,hal1,show limF f = true by simp only [limF,Bool.and_eq_true,decide_eq_true_eq];omega];simp)
    | (rw [smlF,show limF f = false by simp only [limF,Bool.and_eq_false_iff,decide_eq_false_iff_not];omega];rfl)
    | (rw [smlF,show f.comps.all smlC = false from lall_bad hk1 (by rw [hx1];simp only [smlC,Bool.and_eq_false_iff,decide_eq_false_iff_not];omega)];simp)
  try simp only [df] at h54
  refine .sk<|.tN<|.sr<|.mm Fx.map164 Z fun b55 => .a Z Z<|.nt<|.sq<|.sr<|.yv (.fieldAddr Z Fx.field96_2) Z<|.yv (.load Z Fx.agg94 (.tail _<|.head _) Z) Z<|.yv (.lenSl Fx.sl94 Z) Z<|.m Z Z<|.nt<|.bk<|.lp (X := Nat) [(1,_),(7,_),(34,_),(35,_),(36,_),(57,_),(58,_)] ⟨rfl,rfl,rfl,rfl,rfl,rfl,rfl,trivial⟩ [_,_] (fun k2 => [(59,.int .i64 (k2 : Nat))]) (fun k2 => H) (fun k2 => [(.obj b55 (mo ((x1.vers.take k2).foldl stepV [])))]) (fun k2 => k2 ≤ x1.vers.length) (fun k2 => x1.vers.length - k2) 0 (fun _ s => s) ⟨rfl,trivial⟩ (by omega) fun k2 hC => ?_
  refine .sr<|.yv (.lss Z Z) Z<|.nt<|.sq<|.cd Z (fun h60 => ?_) (fun h60 => ?_)
  ·try simp only [dt] at h60
   have hk2 : k2 < x1.vers.length := by omega
   obtain ⟨bE2,oE2,cE2,hpE2,rE2,lE2,mE2⟩ := hs5.elem (map_at hk2);cases hpE2;generalize hx2 : x1.vers[k2] = x2 at rE2;obtain ⟨p6,c6,rfl,hs6⟩ := vs_open rE2;have hcap6 := hs6.cap;refine .sk<|.tN<|.sq<|.bk<|.sr<|.yv (.indexSl Fx.sl94 Z Z Z (by omega) (q := oE2 + k2 * 1) Z) Z<|.yv (.loadMW Z Fx.agg103 mE2 Z) Z<|.al Fx.zero103 Z fun b9 => .sW .head Z Z Fx.size103 (by simp [Value.oneCell',strV]) Z<|.ns<|.yv (.fieldAddr Z Fx.field103_0) Z<|.yv (.load Z Fx.agg101 (.head _) Z) Z<|.yv (.lenSl Fx.sl101 Z) Z<|.m Z Z<|.nt<|.bk<|.pm [1,0,2,3] [_,_,_,_] Z Z<|.lp (X := Nat) [(1,_),(7,_),(34,_),(35,_),(36,_),(57,_),(58,_),(59,_),(64,_),(65,_)] ⟨rfl,rfl,rfl,rfl,rfl,rfl,rfl,rfl,rfl,rfl,trivial⟩ [_,_,_] (fun k3 => [(66,.int .i64 (k3 : Nat))]) (fun k3 => H) (fun k3 => [(.obj b55 (mo ((x2.take k3).foldl stepH ((x1.vers.take k2).foldl stepV []))))]) (fun k3 => k3 ≤ x2.length) (fun k3 => x2.length - k3) 0 (fun _ s => s) ⟨rfl,trivial⟩ (by omega) fun k3 hC => ?_
   refine .sr<|.yv (.lss Z Z) Z<|.nt<|.sq<|.cd Z (fun h67 => ?_) (fun h67 => ?_)
   ·try simp only [dt] at h67
    have hk3 : k3 < x2.length := by omega
    obtain ⟨bE3,oE3,cE3,hpE3,rE3,lE3,mE3⟩ := hs6.elem (map_at hk3);cases hpE3;generalize hx3 : x2[k3] = x3 at rE3;obtain ⟨p7,c7,p8,c8,rfl,hn7,hs7,hs8⟩ := hd_open rE3;exact .sk<|.tN<|.sq<|.bk<|.sr<|.yv (.indexSl Fx.sl101 Z Z Z (by omega) (q := oE3 + k3 * 3) Z) Z<|.yv (.loadMW Z Fx.agg107 mE3 Z) Z<|.al Fx.zero107 Z fun b11 => .sW .head Z Z Fx.size107 (by simp [Value.oneCell',strV]) Z<|.nt<|.rg<|.m Z Z<|.yv (.fieldAddr Z Fx.field107_0) Z<|.yv (.load Z Fx.agg9 (.head _) Z) Z<|.mu (.tail<|.head) Fx.map164 Z Z Z<|.nl<|.bN<|.tN<|.rg<|.yv (.add Z Z (w6 (by omega))) Z<|.m Z Z<|.nt<|.ag (k3 + 1) ⟨rfl,trivial⟩ ⟨rfl,rfl,rfl,rfl,rfl,rfl,rfl,rfl,rfl,rfl,trivial⟩ (fun W s => by rw [fold_succ hk3,hx3];exact (s.pick [1,2,3,4] _ Z Z)) (by omega) (by omega)
   try simp only [df] at h67
   obtain rfl : k3 = x2.length := by omega
   rw [List.take_length];exact .ex<|.tE<|.tE<|.bE<|.bN<|.tN<|.rg<|.yv (.add Z Z (w6 (by omega))) Z<|.m Z Z<|.nt<|.ag (k2 + 1) ⟨rfl,trivial⟩ ⟨rfl,rfl,rfl,rfl,rfl,rfl,rfl,trivial⟩ (fun W s => by rw [show (x1.vers.take (k2 + 1)).foldl stepV [] = x2.foldl stepH ((x1.vers.take k2).foldl stepV []) by rw [fold_succ hk2,hx2];rfl];exact (s.pick [0,2,3] _ Z Z)) (by omega) (by omega)
  try simp only [df] at h60
  obtain rfl : k2 = x1.vers.length := by omega
  rw [List.take_length];have hnm1 : (x1.vers.foldl stepV []).length = (namesOf x1).length := rfl;refine .ex<|.tE<|.tE<|.bE<|.tN<|.sr<|.m Z Z<|.yv (.lenM Fx.map164 (.head _) Z) Z<|.yv (.gtr Z Z) Z<|.nt<|.cd Z (fun h77 => ?_) (fun h77 => ?_)
  ·try simp only [dt] at h77
   refine .sr<|.a Z Z<|.nt<|.rt<|.bR<|.tR<|.tR<|.bR<|.tR<|?_
   refine Sx.ret1 (.inl rfl) rfl (.tmp rfl) fun W s => ⟨retB ?_,s.ext⟩
   first
    | (rw [smlF,hal1,show limF f = true by simp only [limF,Bool.and_eq_true,decide_eq_true_eq];omega];simp)
    | (rw [smlF,show limF f = false by simp only [limF,Bool.and_eq_false_iff,decide_eq_false_iff_not];omega];rfl)
    | (rw [smlF,show f.comps.all smlC = false from lall_bad hk1 (by rw [hx1];simp only [smlC,Bool.and_eq_false_iff,decide_eq_false_iff_not];omega)];simp)
  try simp only [df] at h77
  exact .sk<|.bN<|.tN<|.rg<|.yv (.add Z Z (w6 (by omega))) Z<|.m Z Z<|.nt<|.ag (k1 + 1) ⟨rfl,trivial⟩ ⟨rfl,rfl,rfl,trivial⟩ (fun _ s => s.pick [2] [_] Z Z) ⟨by omega,by rw [lall_succ hk1,hal1,hx1];simp only [smlC,Bool.true_and,Bool.and_eq_true,decide_eq_true_eq];omega⟩ (by omega)
 try simp only [df] at h37
 obtain rfl : k1 = f.comps.length := by omega
 rw [List.take_length] at hal1;refine .ex<|.tE<|.tE<|.bE<|.tN<|.sr<|.yv (.loadW Z Fx.agg37 (.head _) Z) Z<|.yv (.call Fx.call62 Z (fun W s => everyHandler_any 63 smaH smallHandler_any H G f _ h hok W s.agr)) Z<|.a Z Z<|.nt<|.rt<|?_
 refine Sx.ret1 (.inl rfl) rfl (.tmp rfl) fun W s => ⟨retB ?_,s.ext⟩
 first
  | (rw [smlF,hal1,show limF f = true by simp only [limF,Bool.and_eq_true,decide_eq_true_eq];omega];simp)
  | (rw [smlF,show limF f = false by simp only [limF,Bool.and_eq_false_iff,decide_eq_false_iff_not];omega];rfl)
  | (rw [smlF,show f.comps.all smlC = false from lall_bad hk1 (by rw [hx1];simp only [smlC,Bool.and_eq_false_iff,decide_eq_false_iff_not];omega)];simp)
set_option maxRecDepth 100000 in
theorem check_any (H : Hp) (G : Gl H) (f : Ft) (cs : List Value) (h : Rep H (dFt .u8 f) cs) (hok : evH okH f = true) (w : World) (hA : Agr H w) :
 Calls Tryz.prog 10 #[.agg cs.toArray] w fun r w' => r = .returned (.int .i64 (checkF f : Nat)) ∧ Ext w w' := by
 obtain ⟨p1,c1,p2,c2,p3,c3,rfl,hnm,hs1,hs2,hs3⟩ := ft_open h;have hcap1 := hs1.cap;have hcap2 := hs2.cap;have hcap3 := hs3.cap;refine Sx.enter (H := H) Tryz.func10 rfl Tryz.ntmps10 rfl hA ?_;refine .sr<|.bx Z Z Z fun b1 => .a Z Z<|.nt<|.sq<|.bk<|.sr<|.yv (.loadW Z Fx.agg37 (.head _) Z) Z<|.yv (.call Fx.call29 Z (fun W s => small_any H G f _ h hok W s.agr)) Z<|.yv (.not Z) Z<|.a Z Z<|.nt<|.cd Z (fun h3 => ?_) (fun h3 => ?_)
 ·skip
  refine .sr<|.a Z Z<|.nt<|.rt<|.bR<|.tR<|?_
  refine Sx.ret1 (.inl rfl) rfl (.tmp rfl) fun W s => ⟨?_,s.ext⟩
  first
   | (rw [checkF,if_pos (by simpa using h3)];rfl)
   | (rw [checkF,if_neg (by simpa using h3),if_pos (by simpa using h7)];rfl)
   | (rw [checkF,if_neg (by simpa using h3),if_neg (by simpa using h7),if_pos (by simpa using h11)];rfl)
   | (rw [checkF,if_neg (by simpa using h3),if_neg (by simpa using h7),if_neg (by simpa using h11)];rfl)
 skip
 refine .sr<|.yv (.loadW Z Fx.agg37 (.head _) Z) Z<|.yv (.call Fx.call30 Z (fun W s => named_any H G f _ h hok W s.agr)) Z<|.yv (.not Z) Z<|.a Z Z<|.nt<|.cd Z (fun h7 => ?_) (fun h7 => ?_)
 ·skip
  refine .sr<|.a Z Z<|.nt<|.rt<|.bR<|.tR<|?_
  refine Sx.ret1 (.inl rfl) rfl (.tmp rfl) fun W s => ⟨?_,s.ext⟩
  first
   | (rw [checkF,if_pos (by simpa using h3)];rfl)
   | (rw [checkF,if_neg (by simpa using h3),if_pos (by simpa using h7)];rfl)
   | (rw [checkF,if_neg (by simpa using h3),if_neg (by simpa using h7),if_pos (by simpa using h11)];rfl)
   | (rw [checkF,if_neg (by simpa using h3),if_neg (by simpa using h7),if_neg (by simpa using h11)];rfl)
 skip
 refine .sr<|.yv (.loadW Z Fx.agg37 (.head _) Z) Z<|.yv (.call Fx.call31 Z (fun W s => formed_any H G f _ h hok W s.agr)) Z<|.yv (.not Z) Z<|.a Z Z<|.nt<|.cd Z (fun h11 => ?_) (fun h11 => ?_)
 ·skip
  refine .sr<|.a Z Z<|.nt<|.rt<|.bR<|.tR<|?_
  refine Sx.ret1 (.inl rfl) rfl (.tmp rfl) fun W s => ⟨?_,s.ext⟩
  first
   | (rw [checkF,if_pos (by simpa using h3)];rfl)
   | (rw [checkF,if_neg (by simpa using h3),if_pos (by simpa using h7)];rfl)
   | (rw [checkF,if_neg (by simpa using h3),if_neg (by simpa using h7),if_pos (by simpa using h11)];rfl)
   | (rw [checkF,if_neg (by simpa using h3),if_neg (by simpa using h7),if_neg (by simpa using h11)];rfl)
 skip
 refine .sk<|.bN<|.tN<|.sr<|.a Z Z<|.nt<|.rt<|?_
 refine Sx.ret1 (.inl rfl) rfl (.tmp rfl) fun W s => ⟨?_,s.ext⟩
 first
  | (rw [checkF,if_pos (by simpa using h3)];rfl)
  | (rw [checkF,if_neg (by simpa using h3),if_pos (by simpa using h7)];rfl)
  | (rw [checkF,if_neg (by simpa using h3),if_neg (by simpa using h7),if_pos (by simpa using h11)];rfl)
  | (rw [checkF,if_neg (by simpa using h3),if_neg (by simpa using h7),if_neg (by simpa using h11)];rfl)
end Go.Proofs.YtohfacbajcenoaaGreatDoor
