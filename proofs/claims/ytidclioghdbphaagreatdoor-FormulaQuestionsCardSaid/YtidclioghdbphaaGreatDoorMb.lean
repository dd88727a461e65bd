/- Texts of the proof, one behind the other. -/
import Derived.Test.YtidclioghdbphaaGreatDoorMa
import Derived.Lib.ItoaNum
import Derived.Lib.Join
import Derived.Lib.ItoaLen
import Derived.ProofKit
import Derived.Lib.LaidTab
import Derived.Deep.Slices
import Derived.Deep.Fields
import Derived.OpenShut
import Derived.ChangeKeysEq
import Derived.RangeFuncNested
import Derived.RangeFuncLeaves
import Derived.RangeFuncCalls
import Derived.OwnWalkIn
import Derived.TacticsIn
import Derived.OrdersIn
import Derived.Test.YtidclioghdbphaaGreatDoorProg
set_option linter.all false
set_option maxRecDepth 100000
namespace Go
noncomputable abbrev prg:=Proofs.Tryz.prog
end Go
namespace Go.Proofs.YtidclioghdbphaaGreatDoor
open Go.RowKit Go.Par Go.Sx
abbrev Str:=List UInt8
def bJ (l:Str):Value:=.string ⟨l.toArray⟩
inductive Ex where
 | mk (op:UInt8) (nm:Str) (n:Int64) (args:List Ex)
inductive Sm where
 | mk (kind:UInt8) (nm hd:Str) (ex:List Ex) (th el:List Sm)
def Ex.op:Ex->UInt8 | .mk op _ _ _=>op
def Ex.nm:Ex->Str | .mk _ nm _ _=>nm
def Ex.n:Ex->Int64 | .mk _ _ n _=>n
def Ex.args:Ex->List Ex | .mk _ _ _ args=>args
mutual
def dEx (k:IntKind):Ex->D
 | .mk op nm n args=>.str [.val (.int k op.toNat),.val (bJ nm),.val (.int .i64 n.toInt),.seq 4 (bZ8 k args)]
def bZ8 (k:IntKind):List Ex->List D
 | []=>[]
 | e::r=>dEx k e::bZ8 k r
end
theorem YW (k:IntKind):∀ l,bZ8 k l=l.map (dEx k)
 | []=>rfl
 | e::r=>by rw [bZ8,YW k r];rfl
theorem bL4 (k:IntKind) (op:UInt8) (nm:Str) (n:Int64) (args:List Ex):dEx k (.mk op nm n args)=.str [.val (.int k op.toNat),.val (bJ nm),.val (.int .i64 n.toInt),.seq 4 (args.map (dEx k))]:=by rw [dEx,YW]
mutual
def dSm (k:IntKind):Sm->D
 | .mk kd nm hd ex th el=>.str [.val (.int k kd.toNat),.val (bJ nm),.val (bJ hd),.seq 4 (ex.map (dEx k)),.seq 6 (bL1 k th),.seq 6 (bL1 k el)]
def bL1 (k:IntKind):List Sm->List D
 | []=>[]
 | e::r=>dSm k e::bL1 k r
end
theorem PF (k:IntKind):∀ l,bL1 k l=l.map (dSm k)
 | []=>rfl
 | e::r=>by rw [bL1,PF k r];rfl
theorem bL2 (k:IntKind) (kd:UInt8) (nm hd:Str) (ex:List Ex) (th el:List Sm):dSm k (.mk kd nm hd ex th el)=.str [.val (.int k kd.toNat),.val (bJ nm),.val (bJ hd),.seq 4 (ex.map (dEx k)),.seq 6 (th.map (dSm k)),.seq 6 (el.map (dSm k))]:=by rw [dSm,PF,PF]
theorem Ex.ind {C:Ex->Prop} (h:∀ op nm n args,(∀ a∈args,C a)->C (.mk op nm n args)):∀ e,C e
 | .mk op nm n args=>h op nm n args λa ha=>Ex.ind h a
termination_by e=>SizeOf.sizeOf e
decreasing_by
 have:=tF ha;simp;omega
structure Hd where
 nm:Str
 ps:List Str
 body:List Sm
structure Vr where
 nm:Str
 ty:UInt8
 init:Int64
structure Cp where
 nm:Str
 vars:List Vr
 vers:List (List Hd)
structure Fg where
 nm:Str
 init:Bool
structure Lk where
 fr:Str
 to:Str
 lat:Int64
structure Ft where
 nm:Str
 flags:List Fg
 links:List Lk
 comps:List Cp
def zU (s:Str):D:=.val (bJ s)
def dPs (k:IntKind) (l:List Str):D:=if k=.i64 then .ps (l.map bJ) else .seq 1 (l.map zU)
def dHd (k:IntKind) (h:Hd):D:=.str [.val (bJ h.nm),dPs k h.ps,.seq 6 (h.body.map (dSm k))]
def dVr (k:IntKind) (v:Vr):D:=.str [.val (bJ v.nm),.val (.int k v.ty.toNat),.val (.int .i64 v.init.toInt)]
def dVs (k:IntKind) (v:List Hd):D:=.seq 3 (v.map (dHd k))
def dCp (k:IntKind) (c:Cp):D:=.str [.val (bJ c.nm),.seq 3 (c.vars.map (dVr k)),.seq 1 (c.vers.map (dVs k))]
def dFg (f:Fg):D:=.str [.val (bJ f.nm),.val (.bool f.init)]
def dLk (l:Lk):D:=.str [.val (bJ l.fr),.val (bJ l.to),.val (.int .i64 l.lat.toInt)]
def dFt (k:IntKind) (f:Ft):D:=.str [.val (bJ f.nm),.seq 2 (f.flags.map dFg),.seq 3 (f.links.map dLk),.seq 3 (f.comps.map (dCp k))]
/-! ### Structs opened and shut -/
section
variable {H:Hp}
theorem cF4 {v:Value} (h:v.oneCell'=true) (k:okV v):Rep H (.val v) [v]:=by unfold Rep;exact ⟨Z,h,k⟩
theorem okS {l:Str}:okV (bJ l)↔l.length<=1000000:=by simp [okV,bJ,ByteArray.size]
theorem CV {v:Value} {l:List Value} (h:Rep H (.val v) l):l=[v]:=by unfold Rep at h;exact h.1
theorem jK {d:D} {ds:List D} {l:List Value}:sZ H (d::ds) l↔∃ x y,l=x++y/\Rep H d x/\sZ H ds y:=by
 constructor
 ·intro h;unfold sZ at h;exact h
 ·intro h;unfold sZ;exact h
theorem iT {l:List Value}:sZ H [] l↔l=[]:=by
 constructor
 ·intro h;unfold sZ at h;exact h
 ·intro h;unfold sZ;exact h
theorem xF {ds:List D} {l:List Value}:Rep H (.str ds) l↔sZ H ds l:=by
 constructor
 ·intro h;unfold Rep at h;exact h
 ·intro h;unfold Rep;exact h
theorem dY {v:Value} {ds:List D} {l:List Value}:sZ H (.val v::ds) l↔∃ y,l=v::y/\v.oneCell'=true/\okV v/\sZ H ds y:=by
 rw [jK]
 constructor
 ·rintro ⟨x,y,rfl,hx,hy⟩;unfold Rep at hx;obtain ⟨rfl,h,k⟩:=hx;exact ⟨y,Z,h,k,hy⟩
 ·rintro ⟨y,rfl,h,k,hy⟩;exact ⟨[v],y,Z,cF4 h k,hy⟩
theorem lT {z:Nat} {es ds:List D} {l:List Value}:sZ H (.seq z es::ds) l↔∃ p c y,l=.slice p es.length c::y/\Rep H (.seq z es) [.slice p es.length c]/\sZ H ds y:=by
 rw [jK]
 constructor
 ·rintro ⟨x,y,rfl,hx,hy⟩;obtain ⟨p,c,rfl,_⟩:=hx.sl;exact ⟨p,c,y,Z,hx,hy⟩
 ·rintro ⟨p,c,y,rfl,hx,hy⟩;exact ⟨_,y,Z,hx,hy⟩
theorem eR {α β:Type} {f:α->β} {l:List α} {k:Nat} (h:k<l.length):(l.map f)[k]? = some (f l[k]):=by simp [h]
theorem eV {k:IntKind} {op:UInt8} {nm:Str} {n:Int64} {args:List Ex} {cs:List Value} (h:Rep H (dEx k (.mk op nm n args)) cs) :
 ∃ p c,cs=[.int k op.toNat,bJ nm,.int .i64 n.toInt,.slice p args.length c]/\Rep H (.seq 4 (args.map (dEx k))) [.slice p args.length c]/\nm.length<=1000000:=by
 rw [bL4,xF] at h;obtain ⟨_,rfl,_,_,h⟩:=dY.1 h;obtain ⟨_,rfl,_,hn,h⟩:=dY.1 h;obtain ⟨_,rfl,_,_,h⟩:=dY.1 h;obtain ⟨p,c,_,rfl,hs,h⟩:=lT.1 h;rw [iT] at h;subst h;rw [aP] at hs|-;exact ⟨p,c,Z,hs,okS.1 hn⟩
theorem kK {k:IntKind} {op:UInt8} {nm:Str} {n:Int64} {args:List Ex} {s:Value} (hn:nm.length<=1000000) (h:Rep H (.seq 4 (args.map (dEx k))) [s]) :
 Rep H (dEx k (.mk op nm n args)) [.int k op.toNat,bJ nm,.int .i64 n.toInt,s]:=by
 rw [bL4,xF];exact dY.2 ⟨_,Z,Z,Jt,dY.2 ⟨_,Z,Z,okS.2 hn,dY.2 ⟨_,Z,Z,Jt,jK.2 ⟨[s],[],Z,h,iT.2 rfl⟩⟩⟩⟩
theorem bS5 {k:IntKind} {kd:UInt8} {nm hd:Str} {ex:List Ex} {th el:List Sm} {cs:List Value} (h:Rep H (dSm k (.mk kd nm hd ex th el)) cs) :
 ∃ p c p1 c1 p2 c2,cs=[.int k kd.toNat,bJ nm,bJ hd,.slice p ex.length c,.slice p1 th.length c1,.slice p2 el.length c2]/\Rep H (.seq 4 (ex.map (dEx k))) [.slice p ex.length c]/\Rep H (.seq 6 (th.map (dSm k))) [.slice p1 th.length c1]/\Rep H (.seq 6 (el.map (dSm k))) [.slice p2 el.length c2]/\nm.length<=1000000/\hd.length<=1000000:=by
 rw [bL2,xF] at h;obtain ⟨_,rfl,_,_,h⟩:=dY.1 h;obtain ⟨_,rfl,_,hn,h⟩:=dY.1 h;obtain ⟨_,rfl,_,hm,h⟩:=dY.1 h;obtain ⟨p,c,_,rfl,hs,h⟩:=lT.1 h;obtain ⟨p1,c1,_,rfl,hs1,h⟩:=lT.1 h;obtain ⟨p2,c2,_,rfl,hs2,h⟩:=lT.1 h;rw [iT] at h;subst h;rw [aP] at hs hs1 hs2;exact ⟨p,c,p1,c1,p2,c2,by rw [aP,aP,aP],hs,hs1,hs2,okS.1 hn,okS.1 hm⟩
theorem nL {k:IntKind} {kd:UInt8} {nm hd:Str} {ex:List Ex} {th el:List Sm} {s s1 s2:Value} (hn:nm.length<=1000000) (hm:hd.length<=1000000) (h:Rep H (.seq 4 (ex.map (dEx k))) [s]) (h1:Rep H (.seq 6 (th.map (dSm k))) [s1]) (h2:Rep H (.seq 6 (el.map (dSm k))) [s2]) :
 Rep H (dSm k (.mk kd nm hd ex th el)) [.int k kd.toNat,bJ nm,bJ hd,s,s1,s2]:=by
 rw [bL2,xF];exact dY.2 ⟨_,Z,Z,Jt,dY.2 ⟨_,Z,Z,okS.2 hn,dY.2 ⟨_,Z,Z,okS.2 hm,jK.2 ⟨[s],_,Z,h,jK.2 ⟨[s1],_,Z,h1,jK.2 ⟨[s2],[],Z,h2,iT.2 rfl⟩⟩⟩⟩⟩⟩
theorem aM5 {k:IntKind} {l:List Str} {cs:List Value} (h:Rep H (dPs k l) cs):Rep H (.seq 1 (l.map zU)) cs:=by
 unfold dPs at h
 split at h
 ·have:=h.ps_seq;rw [tM] at this;exact this
 ·exact h
theorem bU7 {k:IntKind} {es:List Str} {ds:List D} {l:List Value}:sZ H (dPs k es::ds) l↔∃ p c y,l=.slice p es.length c::y/\Rep H (dPs k es) [.slice p es.length c]/\sZ H ds y:=by
 rw [jK]
 constructor
 ·rintro ⟨x,y,rfl,hx,hy⟩;obtain ⟨p,c,rfl,_⟩:=(aM5 hx).sl;rw [aP] at hx|-;exact ⟨p,c,y,Z,hx,hy⟩
 ·rintro ⟨p,c,y,rfl,hx,hy⟩;exact ⟨_,y,Z,hx,hy⟩
theorem bI2 {k:IntKind} {x:Hd} {cs:List Value} (h:Rep H (dHd k x) cs) :
 ∃ p1 c1 p2 c2,cs=[bJ x.nm,.slice p1 x.ps.length c1,.slice p2 x.body.length c2]/\x.nm.length<=1000000/\Rep H (dPs k x.ps) [.slice p1 x.ps.length c1]/\Rep H (.seq 6 (x.body.map (dSm k))) [.slice p2 x.body.length c2]:=by
 rw [dHd,xF] at h;obtain ⟨_,rfl,_,k0,h⟩:=dY.1 h;obtain ⟨p1,c1,_,rfl,k1,h⟩:=bU7.1 h;obtain ⟨p2,c2,_,rfl,k2,h⟩:=lT.1 h;rw [iT] at h;subst h;exact ⟨p1,c1,p2,c2,by simp,okS.1 k0,k1,(by simpa using k2)⟩
theorem aK9 {k:IntKind} {x:Hd} {cs:List Value} (h:Rep H (dHd k x) cs) :
 ∃ p1 c1 p2 c2,cs=[bJ x.nm,.slice p1 x.ps.length c1,.slice p2 x.body.length c2]/\x.nm.length<=1000000/\Rep H (.seq 1 (x.ps.map zU)) [.slice p1 x.ps.length c1]/\Rep H (.seq 6 (x.body.map (dSm k))) [.slice p2 x.body.length c2]:=by
 obtain ⟨p1,c1,p2,c2,e,h1,h2,h3⟩:=bI2 h;exact ⟨p1,c1,p2,c2,e,h1,aM5 h2,h3⟩
theorem bW3 {k:IntKind} {x:Hd} (k0:x.nm.length<=1000000) {s1:Value} (k1:Rep H (dPs k x.ps) [s1]) {s2:Value} (k2:Rep H (.seq 6 (x.body.map (dSm k))) [s2]):Rep H (dHd k x) [bJ x.nm,s1,s2]:=by
 rw [dHd,xF];exact dY.2 ⟨_,Z,Z,okS.2 k0,jK.2 ⟨[s1],_,Z,k1,jK.2 ⟨[s2],_,Z,k2,iT.2 rfl⟩⟩⟩
theorem TW {k:IntKind} {x:Vr} {cs:List Value} (h:Rep H (dVr k x) cs) :
 cs=[bJ x.nm,.int k x.ty.toNat,.int .i64 x.init.toInt]/\x.nm.length<=1000000:=by
 rw [dVr,xF] at h;obtain ⟨_,rfl,_,k0,h⟩:=dY.1 h;obtain ⟨_,rfl,_,_,h⟩:=dY.1 h;obtain ⟨_,rfl,_,_,h⟩:=dY.1 h;rw [iT] at h;subst h;exact ⟨by simp,okS.1 k0⟩
theorem TV {k:IntKind} {x:Vr} (k0:x.nm.length<=1000000):Rep H (dVr k x) [bJ x.nm,.int k x.ty.toNat,.int .i64 x.init.toInt]:=by
 rw [dVr,xF];exact dY.2 ⟨_,Z,Z,okS.2 k0,dY.2 ⟨_,Z,Z,Jt,dY.2 ⟨_,Z,Z,Jt,iT.2 rfl⟩⟩⟩
theorem IG {k:IntKind} {x:Cp} {cs:List Value} (h:Rep H (dCp k x) cs) :
 ∃ p1 c1 p2 c2,cs=[bJ x.nm,.slice p1 x.vars.length c1,.slice p2 x.vers.length c2]/\x.nm.length<=1000000/\Rep H (.seq 3 (x.vars.map (dVr k))) [.slice p1 x.vars.length c1]/\Rep H (.seq 1 (x.vers.map (dVs k))) [.slice p2 x.vers.length c2]:=by
 rw [dCp,xF] at h;obtain ⟨_,rfl,_,k0,h⟩:=dY.1 h;obtain ⟨p1,c1,_,rfl,k1,h⟩:=lT.1 h;obtain ⟨p2,c2,_,rfl,k2,h⟩:=lT.1 h;rw [iT] at h;subst h;exact ⟨p1,c1,p2,c2,by simp,okS.1 k0,(by simpa using k1),(by simpa using k2)⟩
theorem cA0 {k:IntKind} {x:Cp} (k0:x.nm.length<=1000000) {s1:Value} (k1:Rep H (.seq 3 (x.vars.map (dVr k))) [s1]) {s2:Value} (k2:Rep H (.seq 1 (x.vers.map (dVs k))) [s2]):Rep H (dCp k x) [bJ x.nm,s1,s2]:=by
 rw [dCp,xF];exact dY.2 ⟨_,Z,Z,okS.2 k0,jK.2 ⟨[s1],_,Z,k1,jK.2 ⟨[s2],_,Z,k2,iT.2 rfl⟩⟩⟩
theorem bX5 {x:Fg} {cs:List Value} (h:Rep H (dFg x) cs) :
 cs=[bJ x.nm,.bool x.init]/\x.nm.length<=1000000:=by
 rw [dFg,xF] at h;obtain ⟨_,rfl,_,k0,h⟩:=dY.1 h;obtain ⟨_,rfl,_,_,h⟩:=dY.1 h;rw [iT] at h;subst h;exact ⟨by simp,okS.1 k0⟩
theorem bX4 {x:Fg} (k0:x.nm.length<=1000000):Rep H (dFg x) [bJ x.nm,.bool x.init]:=by
 rw [dFg,xF];exact dY.2 ⟨_,Z,Z,okS.2 k0,dY.2 ⟨_,Z,Z,Jt,iT.2 rfl⟩⟩
theorem bV9 {x:Lk} (k0:x.fr.length<=1000000) (k1:x.to.length<=1000000):Rep H (dLk x) [bJ x.fr,bJ x.to,.int .i64 x.lat.toInt]:=by
 rw [dLk,xF];exact dY.2 ⟨_,Z,Z,okS.2 k0,dY.2 ⟨_,Z,Z,okS.2 k1,dY.2 ⟨_,Z,Z,Jt,iT.2 rfl⟩⟩⟩
theorem bW8 {k:IntKind} {x:Ft} {cs:List Value} (h:Rep H (dFt k x) cs) :
 ∃ p1 c1 p2 c2 p3 c3,cs=[bJ x.nm,.slice p1 x.flags.length c1,.slice p2 x.links.length c2,.slice p3 x.comps.length c3]/\x.nm.length<=1000000/\Rep H (.seq 2 (x.flags.map dFg)) [.slice p1 x.flags.length c1]/\Rep H (.seq 3 (x.links.map dLk)) [.slice p2 x.links.length c2]/\Rep H (.seq 3 (x.comps.map (dCp k))) [.slice p3 x.comps.length c3]:=by
 rw [dFt,xF] at h;obtain ⟨_,rfl,_,k0,h⟩:=dY.1 h;obtain ⟨p1,c1,_,rfl,k1,h⟩:=lT.1 h;obtain ⟨p2,c2,_,rfl,k2,h⟩:=lT.1 h;obtain ⟨p3,c3,_,rfl,k3,h⟩:=lT.1 h;rw [iT] at h;subst h;exact ⟨p1,c1,p2,c2,p3,c3,by simp,okS.1 k0,(by simpa using k1),(by simpa using k2),(by simpa using k3)⟩
theorem bW7 {k:IntKind} {x:Ft} (k0:x.nm.length<=1000000) {s1:Value} (k1:Rep H (.seq 2 (x.flags.map dFg)) [s1]) {s2:Value} (k2:Rep H (.seq 3 (x.links.map dLk)) [s2]) {s3:Value} (k3:Rep H (.seq 3 (x.comps.map (dCp k))) [s3]):Rep H (dFt k x) [bJ x.nm,s1,s2,s3]:=by
 rw [dFt,xF];exact dY.2 ⟨_,Z,Z,okS.2 k0,jK.2 ⟨[s1],_,Z,k1,jK.2 ⟨[s2],_,Z,k2,jK.2 ⟨[s3],_,Z,k3,iT.2 rfl⟩⟩⟩⟩
theorem bA2 {x:Str} {cs:List Value} (h:Rep H (zU x) cs):cs=[bJ x]/\x.length<=1000000:=by
 unfold zU Rep at h;exact ⟨h.1,okS.1 h.2.2⟩
end
mutual
def Ex.depth:Ex->Nat
 | .mk _ _ _ args=>Ex.deeps args+1
def Ex.deeps:List Ex->Nat
 | []=>0
 | e::r=>max (Ex.depth e) (Ex.deeps r)
end
variable {k:Nat}
theorem tX {α:Type} {l:List α} (h:k<l.length):l.take (k+1)=l.take k++[l[k]]:=by simp
theorem SS (a b:List Ex):Ex.deeps (a++b)=max (Ex.deeps a) (Ex.deeps b):=by
 induction a with
 | nil=>simp [Ex.deeps]
 | cons e r ih=>simp only [bY,Ex.deeps,ih];omega
theorem PE {l:List Ex} (h:k<l.length):Ex.deeps (l.take (k+1))=max (Ex.deeps (l.take k)) (Ex.depth l[k]):=by
 rw [tX h,SS];simp [Ex.deeps]
theorem PD (l:List Ex) (k:Nat):Ex.deeps (l.take k)<=Ex.deeps l:=by
 have:=SS (l.take k) (l.drop k);rw [eW] at this;omega
theorem aS8 {l:List Ex} {e:Ex} (h:e∈l):Ex.depth e<=Ex.deeps l:=by
 induction l with
 | nil=>cases h
 | cons a r ih =>
  simp only [Ex.deeps];rcases bM.1 h with rfl | h
  ·omega
  ·have:=ih h;omega
theorem YU {l:List Ex} (h:k<l.length):Ex.depth l[k]<=Ex.deeps l:=aS8 (aX h)
theorem wK (op:UInt8) (nm:Str) (n:Int64) (args:List Ex):Ex.depth (.mk op nm n args)=Ex.deeps args+1:=by rw [Ex.depth]
def pO (c:UInt8):Bool:=(decide (97<=c.toNat) && decide (c.toNat<=122)) || (decide (65<=c.toNat) && decide (c.toNat<=90))
def iZ (c:UInt8):Bool:=decide (48<=c.toNat) && decide (c.toNat<=57)
def kT (c:UInt8):Bool:=pO c || iZ c || decide (c.toNat=95)
def words:List Str:=[[97,102,116,101,114],[97,108,119,97,121,115],[97,110,100],[97,114,114,105,118,101,115],[98,111,111,108],[99,111,109,112,111,110,101,110,116],[99,111,117,110,116],[100,101,108,101,116,101],[100,111],[101,108,115,101],[101,120,105,115,116,115],[102,97,108,115,101],[102,101,116,99,104],[102,108,97,103],[102,108,101,101,116],[102,111,114,97,108,108],[104,97,115],[105,102],[105,109,112,108,105,101,115],[105,110],[105,110,116],[108,97,116,101,110,99,121],[108,105,110,107],[110,111,116],[110,111,119],[111,110],[111,110,99,101],[111,114],[112,114,101,118,105,111,117,115],[115,101,110,100],[115,105,110,99,101],[115,105,122,101],[115,116,111,112],[115,116,111,114,101],[116,97,98,108,101],[116,114,117,101],[118,97,114],[118,101,114,115,105,111,110],[119,104,105,108,101]]
def symbols:List Str:=[[46,46],[61,61],[33,61],[60,61],[62,61],[45,62],[123],[125],[40],[41],[91],[93],[44],[59],[58],[46],[61],[60],[62],[43],[45],[42],[47],[37],[95]]
def pre (q:UInt8->Bool) (l:Str):Nat:=(l.takeWhile q).length
theorem uM (q:UInt8->Bool) (l:Str):pre q l<=l.length:=by
 unfold pre;induction l with
 | nil=>simp
 | cons a r ih=>rw [fI];split <;> simp;omega
theorem rR {q:UInt8->Bool}:∀ {l:Str} {k:Nat} (h:k<l.length),k<=pre q l->q l[k]=true->k+1<=pre q l
 | [],k,h,_,_=>by simp at h
 | a::r,0,h,_,hq=>by
  unfold pre;rw [fI];simp at hq;simp [hq]
 | a::r,k+1,h,hk,hq=>by
  unfold pre at hk|-;rw [fI] at hk|-;cases ha:q a with
  | false=>rw [ha] at hk;simp at hk
  | true =>
   rw [ha] at hk;simp at hk hq;have:=rR (l:=r) (k:=k) (by simpa using h) hk hq;unfold pre at this;simp;omega
theorem yD {q:UInt8->Bool}:∀ {l:Str} {k:Nat} (h:k<l.length),k<=pre q l->q l[k]=false->k=pre q l
 | [],k,h,_,_=>by simp at h
 | a::r,0,h,_,hq=>by
  unfold pre;rw [fI];simp at hq;simp [hq]
 | a::r,k+1,h,hk,hq=>by
  unfold pre at hk|-;rw [fI] at hk|-;cases ha:q a with
  | false=>rw [ha] at hk;simp at hk
  | true =>
   rw [ha] at hk;simp at hk hq;have:=yD (l:=r) (k:=k) (by simpa using h) hk hq;unfold pre at this;simp;omega
def dD (l:Str):UInt8 × Nat :=
 let c:=l.headD 0
 if pO c then
  if words.contains (l.take (pre kT l)) then (2,pre kT l) else if pre kT l<=12 then (1,pre kT l) else (5,l.length)
 else if iZ c then
  if pre iZ l=1\/c≠48 then (3,pre iZ l) else (5,l.length)
 else match symbols.find? (λx=>x.isPrefixOf l) with
  | some x=>(4,x.length)
  | none=>(5,l.length)
def gL (l:Str):Bool:=decide (l≠[]) && (dD l).1 == 1 && decide ((dD l).2=l.length)
def yZ (l m:Str):Bool:=decide (m.length<=l.length) && decide (l.take m.length=m)
theorem DC (l m:Str):yZ l m=m.isPrefixOf l:=by
 rw [aQ];simp only [yZ,aE,aB,iH]
 constructor
 ·rintro ⟨_,h⟩;have:=eW m.length l;rw [h] at this;exact ⟨_,this⟩
 ·rintro ⟨t,rfl⟩;simp
theorem nY {α:Type} {l:List α} (h:k<l.length) (d:α):l.getD k d=l[k]:=by simp [h]
theorem tI {α β:Type} {f:α->β} {l:List α} (h:k<l.length) (d:α):(l.map f)[k]? = some (f (l.getD k d)):=by simp [h]
structure Shp where
 n:Nat
 nm:Bool
 lv:Nat
 tx:Str
def shapes:List Shp:=[⟨0,false,0,[]⟩,⟨0,false,7,[]⟩,⟨0,false,7,[116,114,117,101]⟩,⟨0,false,7,[102,97,108,115,101]⟩,⟨0,false,7,[110,111,119]⟩,⟨0,true,7,[]⟩,⟨1,true,7,[]⟩,⟨1,true,7,[104,97,115,32]⟩,⟨0,true,7,[115,105,122,101,32]⟩,⟨1,false,6,[45]⟩,⟨1,false,6,[110,111,116,32]⟩,⟨2,false,5,[32,42,32]⟩,⟨2,false,5,[32,47,32]⟩,⟨2,false,5,[32,37,32]⟩,⟨2,false,4,[32,43,32]⟩,⟨2,false,4,[32,45,32]⟩,⟨2,false,3,[32,61,61,32]⟩,⟨2,false,3,[32,33,61,32]⟩,⟨2,false,3,[32,60,32]⟩,⟨2,false,3,[32,60,61,32]⟩,⟨2,false,3,[32,62,32]⟩,⟨2,false,3,[32,62,61,32]⟩,⟨2,false,2,[32,97,110,100,32]⟩,⟨2,false,1,[32,111,114,32]⟩]
def aC8 (op:UInt8):Bool:=decide (1<=op.toNat) && decide (op.toNat<=23)
def dM (op:UInt8):Shp:=if aC8 op then shapes.getD op.toNat ⟨0,false,0,[]⟩ else ⟨0,false,0,[]⟩
theorem aL8 {α:Type} {f:α->List Value} {z:Nat} (hz:∀ a,(f a).length=z):∀ {l:List α} {i:Nat} (d:α),i<l.length->∀ (j:Nat) u,(f (l.getD i d))[j]? = some u->(l.flatMap f)[i * z+j]? = some u
 | [],i,d,h,j,u,e=>by simp at h
 | a::r,0,d,h,j,u,e=>by
  simp only [List.flatMap_cons,nU,dO];simp at e;rw [List.getElem?_append_left (List.getElem?_eq_some_iff.1 e).1];exact e
 | a::r,i+1,d,h,j,u,e=>by
  simp only [List.flatMap_cons];rw [List.getElem?_append_right (by rw [hz,hU];omega),hz,show (i+1) * z+j - z=i * z+j by rw [hU];omega];exact aL8 hz d (by simpa using h) j u (by simpa using e)
structure Gl (H:Hp):Prop where
 words:lW H 5 0 (words.map bJ)
 symbols:lW H 3 0 (symbols.map bJ)
variable {H H':Hp}
theorem Gl.up (g:Gl H) (u:Up H H'):Gl H':=⟨g.words.up u,g.symbols.up u⟩
mutual
def Ex.all (q:Ex->Bool):Ex->Bool
 | .mk op nm n args=>q (.mk op nm n args) && Ex.alls q args
def Ex.alls (q:Ex->Bool):List Ex->Bool
 | []=>true
 | e::r=>Ex.all q e && Ex.alls q r
end
theorem ZC (q:Ex->Bool) (a b:List Ex):Ex.alls q (a++b)=(Ex.alls q a && Ex.alls q b):=by
 induction a with
 | nil=>simp [Ex.alls]
 | cons e r ih=>simp only [bY,Ex.alls,ih,IY]
theorem aU1 {q:Ex->Bool} {l:List Ex} (h:k<l.length):Ex.alls q (l.take (k+1))=(Ex.alls q (l.take k) && Ex.all q l[k]):=by
 rw [tX h,ZC];simp [Ex.alls]
theorem bN9 {q:Ex->Bool} {l:List Ex} (h:k<l.length) (hb:Ex.all q l[k]=false):Ex.alls q l=false:=by
 have h1:=ZC q (l.take (k+1)) (l.drop (k+1));rw [eW,aU1 h,hb] at h1;simpa using h1
theorem uR (q:Ex->Bool) (op:UInt8) (nm:Str) (n:Int64) (args:List Ex):Ex.all q (.mk op nm n args)=(q (.mk op nm n args) && Ex.alls q args):=by rw [Ex.all]
def OY:Ex->Bool
 | .mk op nm n args=>aC8 op && decide (args.length=(dM op).n) && ((dM op).nm || decide (nm=[])) && (if op=1 then decide (0<=n.toInt) else decide (n.toInt=0))
def opT (least:Nat) (x:Nat × Str):Str:=if x.1<least then [40]++x.2++[41] else x.2
def EZ (lv:Nat):Nat:=if lv=3 then lv+1 else lv
def txt (op:UInt8) (nm:Str) (n:Int64) (ls:List (Nat × Str)):Str :=
 if op=1 then Lib.itoa n.toInt
 else if op=5\/op=8 then (dM op).tx++nm
 else if op=6\/op=7 then (dM op).tx++nm++[91]++(ls.getD 0 (0,[])).2++[93]
 else if op=9\/op=10 then (dM op).tx++opT (dM op).lv (ls.getD 0 (0,[]))
 else if (dM op).n=0 then (dM op).tx
 else opT (EZ (dM op).lv) (ls.getD 0 (0,[]))++(dM op).tx++opT ((dM op).lv+1) (ls.getD 1 (0,[]))
mutual
def Ex.text:Ex->Str
 | .mk op nm n args=>txt op nm n (Ex.texts args)
def Ex.texts:List Ex->List (Nat × Str)
 | []=>[]
 | e::r=>((dM e.op).lv,Ex.text e)::Ex.texts r
end
theorem RH:∀ l:List Ex,Ex.texts l=l.map λe=>((dM e.op).lv,Ex.text e)
 | []=>rfl
 | e::r=>by rw [Ex.texts,RH r];rfl
theorem lK (op:UInt8) (nm:Str) (n:Int64) (args:List Ex):Ex.text (.mk op nm n args)=txt op nm n (args.map λe=>((dM e.op).lv,Ex.text e)):=by rw [Ex.text,RH]
theorem AK {α β:Type} {f:α->β} {l:List α} (h:k<l.length) (d:β):(l.map f).getD k d=f l[k]:=by simp [h]
theorem EL (k:Nat) (x:Nat × Str):x.2.length<=(opT k x).length/\(opT k x).length<=x.2.length+2:=by unfold opT;split <;> simp <;> omega
theorem lU (n:Int64):(Lib.itoa n.toInt).length<=21:=Lib.itoa_length_le n.toInt (by have:=n.le_toInt;omega) (by have:=n.toInt_lt;omega)
theorem bF4 {l:Str} (h:gL l=true):l.length<=12:=by
 simp only [gL,aE,aB,eJ] at h;obtain ⟨⟨_,h1⟩,h2⟩:=h;unfold dD at h1 h2;dsimp only at h1 h2
 split at h1
 ·split at h1
  ·simp at h1
  ·split at h1
   ·rename_i a b c;simp only [a,b,c,dC,aM,cZ] at h2;omega
   ·simp at h1
 ·split at h1
  ·split at h1 <;> simp at h1
  ·split at h1 <;> simp at h1
variable {z b c:Nat}
theorem XF {off n lo:Nat} {ds:List D} (h:Rep H (.seq z ds) [.slice (some ⟨b,off,none⟩) n c]) (hl:lo<=n):Rep H (.seq z (ds.drop lo)) [.slice (some (if c=lo then ⟨b,off,none⟩ else ⟨b,off+lo * z,none⟩)) (n - lo) (c - lo)]:=by
 have hn:=h.len
 by_cases hc:c=lo
 ·rw [aK hc];rw [show ds.drop lo=[] from fY aD,show n - lo=0 by omega];exact .empty aD
 ·rw [aA hc];unfold Rep at h;obtain ⟨p',c',h1,h2,h3,h4⟩:=h;injection h1 with h1 _
  injection h1 with h5 h6 h7
  subst h5 h7;rcases h4 with h4 | ⟨b',off',cs,h8,h9,h10,h11⟩
  ·subst h4;rw [List.drop_nil,show n - lo=0 by simp only [aH] at h6;omega];exact .empty aD
  ·cases h8
   exact .mkM (h9.drop (lo * z)) (h10.drop lo) (by rw [dA];omega) aD aD λe=>by
    obtain ⟨k1,k2⟩:=h11 (D.txtL_sub (λx=>List.mem_of_mem_drop) e);exact ⟨k1,by rw [Nat.add_mul_mod_self_right];exact k2⟩
def arR (k:Nat):Int:=if k<1\/23<k then -1 else if k<=5\/k=8 then 0 else if k=6\/k=7\/k=9\/k=10 then 1 else 2
def OD (e:Ex):Bool:=decide (e.args.length<=3)
theorem SB (op:UInt8) (nm:Str) (n:Int64) (args:List Ex):OD (.mk op nm n args)=decide (args.length<=3):=rfl
def mS (c:UInt8):Bool:=decide (c=32) || decide (c=9) || decide (c=10) || decide (c=13)
def eU:Bool->Str->Str
 | _,[]=>[]
 | true,c::r=>if c=10 then eU false r else eU true r
 | false,c::r=>if mS c then eU false r else if c=47/\r.head? = some 47 then eU true r else c::r
theorem sA (b:Bool):eU b []=[]:=by cases b <;> rfl
variable {r:Str}
theorem RQ {c:UInt8} (h:¬ c=10):eU true (c::r)=eU true r:=by rw [eU,aA h]
theorem RP (r:Str):eU true (10::r)=eU false (10::r):=by rw [eU,aK rfl,eU,aK aS]
theorem JI {c:UInt8} (h:mS c=true):eU false (c::r)=eU false r:=by rw [eU,aK h]
theorem RO (r:Str):eU false (47::47::r)=eU true (47::47::r):=by simp [eU,mS]
theorem tP {c:UInt8} (h:mS c=false) (h2:¬ (c=47/\r.head? = some 47)):eU false (c::r)=c::r:=by rw [eU,aA (by simp [h]),aA h2]
theorem xO:∀ (l:Str) (b:Bool),∃ p,l=p++eU b l
 | [],b=>⟨[],by rw [sA];rfl⟩
 | c::r,true=>by
  rw [eU]
  split
  ·obtain ⟨p,h⟩:=xO r false;exact ⟨c::p,by rw [bY,<-h]⟩
  ·obtain ⟨p,h⟩:=xO r true;exact ⟨c::p,by rw [bY,<-h]⟩
 | c::r,false=>by
  rw [eU]
  split
  ·obtain ⟨p,h⟩:=xO r false;exact ⟨c::p,by rw [bY,<-h]⟩
  ·split
   ·obtain ⟨p,h⟩:=xO r true;exact ⟨c::p,by rw [bY,<-h]⟩
   ·exact ⟨[],Z⟩
theorem pJ (b:Bool) (l:Str):(eU b l).length<=l.length:=by
 obtain ⟨p,h⟩:=xO l b;have:=congrArg List.length h;rw [aC] at this;omega
theorem BF (b:Bool) (l:Str):l.drop (l.length - (eU b l).length)=eU b l:=by
 obtain ⟨p,h⟩:=xO l b;generalize eU b l=q at h;subst h;rw [show (p++q).length - q.length=p.length by rw [aC];omega,List.drop_left]
theorem tZ {l:Str} (h:l≠[]):1<=(dD l).2/\(dD l).2<=l.length:=by
 match l,h with
 | c::r,_ =>
  have hp:∀ q:UInt8->Bool,q c=true->1<=pre q (c::r):=λq hq=>by unfold pre;rw [fI,hq];simp
  cases h1:pO c with
  | true =>
   have h2:=hp kT (by simp [kT,h1]);have h3:=uM kT (c::r);cases h4:words.contains ((c::r).take (pre kT (c::r))) with
   | true=>simp only [dD,bU,h1,h4,dC];exact ⟨h2,h3⟩
   | false =>
    by_cases h5:pre kT (c::r)<=12
    ·simp only [dD,bU,h1,h4,h5,dC,aM,cZ];exact ⟨h2,h3⟩
    ·simp only [dD,bU,h1,h4,h5,dC,aM,cZ];simp
  | false =>
   cases h4:iZ c with
   | true =>
    have h2:=hp iZ h4;have h3:=uM iZ (c::r)
    by_cases h5:pre iZ (c::r)=1\/c≠48
    ·simp only [dD,bU,h1,h4,h5,dC,aM,cZ];exact ⟨h2,h3⟩
    ·simp only [dD,bU,h1,h4,h5,dC,aM,cZ];simp
   | false =>
    cases hx:symbols.find? (λx=>x.isPrefixOf (c::r)) with
    | none=>simp only [dD,bU,h1,h4,hx,aM,cZ];simp
    | some x =>
     have hm:=List.mem_of_find?_eq_some hx;have hpx:=List.find?_some hx
     have hl:x.length<=(c::r).length:=by
      obtain ⟨t,ht⟩:=iH.1 hpx;rw [<-ht];simp
     have key:∀ y∈symbols,1<=y.length:=aS
     simp only [dD,bU,h1,h4,hx,aM,cZ];exact ⟨key x hm,hl⟩
theorem RV {c:UInt8} (h:(dD (c::r)).1=1):pO c=true:=by
 cases h1:pO c with
 | true=>rfl
 | false =>
  cases h4:iZ c with
  | true =>
   by_cases h5:pre iZ (c::r)=1\/c≠48
   ·simp only [dD,bU,h1,h4,h5,dC,aM,cZ] at h;simp at h
   ·simp only [dD,bU,h1,h4,h5,dC,aM,cZ] at h;simp at h
  | false =>
   cases hx:symbols.find? (λx=>x.isPrefixOf (c::r)) <;> simp only [dD,bU,h1,h4,hx,aM,cZ] at h <;> simp at h
structure Tk where
 k:UInt8
 t:Str
 o:Nat
def dTk (k:IntKind) (x:Tk):D:=.str [.val (.int k x.k.toNat),.val (bJ x.t),.val (iN x.o)]
def cTk (k:IntKind) (x:Tk):List Value:=[.int k x.k.toNat,bJ x.t,iN x.o]
variable {cs:List Value}
theorem MA {k:IntKind} {x:Tk} (h:Rep H (dTk k x) cs):cs=cTk k x/\x.t.length<=1000000:=by
 rw [dTk,xF] at h;obtain ⟨_,rfl,_,_,h⟩:=dY.1 h;obtain ⟨_,rfl,_,k0,h⟩:=dY.1 h;obtain ⟨_,rfl,_,_,h⟩:=dY.1 h;rw [iT] at h;subst h;exact ⟨Z,okS.1 k0⟩
theorem LZ {k:IntKind} {x:Tk} (h:x.t.length<=1000000):Rep H (dTk k x) (cTk k x):=by
 rw [dTk,xF];exact dY.2 ⟨_,Z,Z,Jt,dY.2 ⟨_,Z,Z,okS.2 h,dY.2 ⟨_,Z,Z,Jt,iT.2 rfl⟩⟩⟩
def CL:Nat->Nat->Str->List Tk
 | 0,_,_=>[]
 | f+1,o,m=>if m=[] then [] else ⟨(dD m).1,m.take (dD m).2,o⟩::CL f (o+(m.length - (eU false (m.drop (dD m).2)).length)) (eU false (m.drop (dD m).2))
def pL (s:Str):List Tk:=CL (s.length+1) (s.length - (eU false s).length) (eU false s)
theorem nQ {f o:Nat} {m:Str} (h:m≠[]):CL (f+1) o m=⟨(dD m).1,m.take (dD m).2,o⟩::CL f (o+(m.length - (eU false (m.drop (dD m).2)).length)) (eU false (m.drop (dD m).2)):=by rw [CL,aA h]
theorem qJ (f o:Nat):CL f o []=[]:=by cases f <;> simp [CL]
theorem EG:∀ (f g o:Nat) (m:Str),m.length<f->m.length<g->CL f o m=CL g o m
 | 0,_,_,_,h,_=>by omega
 | _,0,_,_,_,h=>by omega
 | f+1,g+1,o,m,h,k=>by
  by_cases h0:m=[]
  ·subst h0;rw [qJ,qJ]
  ·rw [nQ h0,nQ h0];have hr:=tZ h0;have hs:=pJ false (m.drop (dD m).2);rw [dA] at hs;rw [EG f g _ _ aD aD]
theorem OI (s:Str):gL s=true↔∃ o,pL s=[⟨1,s,o⟩]:=by
 constructor
 ·intro h;simp only [gL,aE,aB,eJ] at h;obtain ⟨⟨h0,h1⟩,h2⟩:=h
  match s,h0 with
  | c::r,h0 =>
   have hl:pO c=true:=RV h1
   have hs:eU false (c::r)=c::r:=tP (by
    have key:∀ i∈List.range 256,pO (UInt8.ofNat i)=true->mS (UInt8.ofNat i)=false:=by decide +kernel
    have:=key c.toNat (bZ.2 c.toNat_lt);rw [fU] at this;exact this hl) (by rintro ⟨rfl,_⟩;revert hl;decide)
   refine ⟨0,?_⟩;rw [pL,hs,nQ h0,h2,bW,List.drop_length,sA,qJ,hZ,h1]
 ·rintro ⟨o,h⟩;rw [pL] at h
  by_cases h0:eU false s=[]
  ·rw [h0,qJ] at h;cases h
  ·rw [nQ h0] at h;injection h with h _
   injection h with h1 h2 h3
   have hl:=pJ false s;have hr:=tZ h0;have h4:=congrArg List.length h2;rw [dG] at h4
   have h5:eU false s=s:=by
    have:=BF false s;rw [show s.length - (eU false s).length=0 by omega,oQ] at this;exact this.symm
   rw [h5] at h0 h1 h4 hr;simp only [gL,aE,aB,eJ];exact ⟨⟨h0,h1⟩,aD⟩
abbrev Bs:=List UInt8
def dU8 (c:UInt8):D:=.val (.int .u8 c.toNat)
def VK (n:Nat):D:=.val (iN n)
def dAr (l:List Nat):D:=.seq 1 (l.map VK)
structure Mk where
 ints:Nat
 tables:Nat
 flags:Nat
 own:Nat
 ars:List (List Nat)
 params:Nat
def cC (b:Bs) (n:Nat):Nat × Bs:=match b with | []=>(0,[]) | c::r=>(c.toNat % n,r)
theorem mQ (b:Bs) {n:Nat} (h:0<n):(cC b n).1<n:=by
 cases b with
 | nil=>exact h
 | cons c r=>exact rC _ h
def nmB (c:UInt8) (k:Nat):Str:=[c,UInt8.ofNat (48+k)]
def kZ (c:UInt8) (n:Nat):List Str:=(List.range n).map (nmB c)
theorem XR (c:UInt8) (n:Nat):kZ c (n+1)=kZ c n++[nmB c n]:=by simp [kZ,kC]
theorem jY (c:UInt8) (n:Nat):(kZ c n).length=n:=by simp [kZ]
theorem aR0 {c:UInt8} {n:Nat} (h:k<n):(kZ c n)[k]? = some (nmB c k):=by simp [kZ,h]
def CX (M:Mk) (d:Nat) (rec:Bs->Ex × Bs) (k:Nat) (b:Bs):Ex × Bs :=
 if k<2\/(2<d/\5<k) then (.mk 1 [] (Int64.ofNat (cC b 9).1) [],(cC b 9).2)
 else if k<4\/(k=4/\M.params=0) then (.mk 5 (nmB 120 (cC b M.ints).1) 0 [],(cC b M.ints).2)
 else if k=4 then (.mk 5 (nmB 112 (cC b M.params).1) 0 [],(cC b M.params).2)
 else if k=5 then (.mk 4 [] 0 [],b)
 else if k=6/\0<M.tables then (.mk 6 [116,48] 0 [(rec b).1],(rec b).2)
 else if k=7/\0<M.tables then (.mk 8 [116,48] 0 [],b)
 else if k=8 then (.mk 9 [] 0 [(rec b).1],(rec b).2)
 else (.mk (([14,15,11,12,13,14]:List UInt8).getD (cC b 6).1 14) [] 0 [(rec (cC b 6).2).1,(rec (rec (cC b 6).2).2).1],(rec (rec (cC b 6).2).2).2)
def bV4 (M:Mk) (d:Nat) (rec:Bs->Ex × Bs) (b0:Bs):Ex × Bs:=CX M d rec (cC b0 12).1 (cC b0 12).2
def qK (M:Mk):Nat->Bs->Ex × Bs
 | 0=>bV4 M 3 λb=>(.mk 1 [] 0 [],b)
 | f+1=>bV4 M (2 - f) (qK M f)
def AJ (M:Mk):Nat->Bs->List Ex × Bs
 | 0,b=>([],b)
 | n+1,b=>((qK M 2 b).1::(AJ M n (qK M 2 b).2).1,(AJ M n (qK M 2 b).2).2)
def GF (M:Mk) (d:Nat) (rec:Bs->Ex × Bs) (k:Nat) (b:Bs):Ex × Bs :=
 if k=0 then (.mk (2+UInt8.ofNat (cC b 2).1) [] 0 [],(cC b 2).2)
 else if k=1\/(1<d/\4<k) then (.mk 5 [98,48] 0 [],b)
 else if k=2/\0<M.flags then (.mk 5 (nmB 102 (cC b M.flags).1) 0 [],(cC b M.flags).2)
 else if k=3/\0<M.tables then (.mk 7 [116,48] 0 [(qK M 2 b).1],(qK M 2 b).2)
 else if k=5 then (.mk 10 [] 0 [(rec b).1],(rec b).2)
 else if k=6\/k=7 then (.mk (16+UInt8.ofNat k) [] 0 [(rec b).1,(rec (rec b).2).1],(rec (rec b).2).2)
 else (.mk (16+UInt8.ofNat (cC b 6).1) [] 0 [(qK M 2 (cC b 6).2).1,(qK M 2 (qK M 2 (cC b 6).2).2).1],(qK M 2 (qK M 2 (cC b 6).2).2).2)
def bQ8 (M:Mk) (d:Nat) (rec:Bs->Ex × Bs) (b0:Bs):Ex × Bs:=GF M d rec (cC b0 10).1 (cC b0 10).2
def GG (M:Mk):Nat->Bs->Ex × Bs
 | 0=>bQ8 M 2 λb=>(.mk 1 [] 0 [],b)
 | f+1=>bQ8 M (1 - f) (GG M f)
def arN (M:Mk) (c h:Nat):Nat:=(M.ars.getD c []).getD h 0
def arL (M:Mk) (c:Nat):Nat:=(M.ars.getD c []).length
def aB8 (M:Mk) (lf c h:Nat) (b:Bs):Sm × (Bs × Nat):=(.mk 6 [UInt8.ofNat (97+c)] (nmB 104 h) (AJ M (arN M c h) b).1 [] [],((AJ M (arN M c h) b).2,lf))
def aG6 (M:Mk) (lf h:Nat) (e:Ex × Bs):Sm × (Bs × Nat):=(.mk 7 [] (nmB 104 h) (e.1::(AJ M (arN M M.own h) e.2).1) [] [],((AJ M (arN M M.own h) e.2).2,lf))
def bJ4 (bd:Bs × Nat->List Sm × (Bs × Nat)) (lf x:Nat) (e:Ex × Bs):Sm × (Bs × Nat):=(.mk 9 (nmB 120 x) [] [e.1] [] (bd (e.2,lf)).1,(bd (e.2,lf)).2)
def cL7 (M:Mk) (lf:Nat) (b:Bs):Sm × (Bs × Nat):=(.mk 1 (nmB 120 (cC b M.ints).1) [] [(qK M 3 (cC b M.ints).2).1] [] [],((qK M 3 (cC b M.ints).2).2,lf))
def iF (M:Mk) (k d:Nat) (bd:Bs × Nat->List Sm × (Bs × Nat)) (b:Bs) (lf:Nat):Sm × (Bs × Nat) :=
 if k=2 then (.mk 1 [98,48] [] [(GG M 2 b).1] [] [],((GG M 2 b).2,lf))
 else if k=3/\0<M.tables then (.mk 2 [116,48] [] [(qK M 3 b).1,(qK M 3 (qK M 3 b).2).1] [] [],((qK M 3 (qK M 3 b).2).2,lf))
 else if k=4/\0<M.tables then (.mk 3 [116,48] [] [(qK M 3 b).1] [] [],((qK M 3 b).2,lf))
 else if (k=5\/k=6)/\d<3 then
  (.mk 4 [] [] [(GG M 2 b).1] (bd ((GG M 2 b).2,lf)).1 (bd (bd ((GG M 2 b).2,lf)).2).1,(bd (bd ((GG M 2 b).2,lf)).2).2)
 else if k=7/\d<2 then (.mk 5 [] [] [(GG M 2 b).1] (bd ((GG M 2 b).2,lf)).1 [],(bd ((GG M 2 b).2,lf)).2)
 else if k=8\/k=9 then aB8 M lf (cC b M.ars.length).1 (cC (cC b M.ars.length).2 (arL M (cC b M.ars.length).1)).1 (cC (cC b M.ars.length).2 (arL M (cC b M.ars.length).1)).2
 else if k=10 then aG6 M lf (cC b (arL M M.own)).1 (qK M 2 (cC b (arL M M.own)).2)
 else if k=11/\d<3 then
  if (cC b 2).1=0 then (.mk 8 [] [] (AJ M 2 (cC b 2).2).1 [] (bd ((AJ M 2 (cC b 2).2).2,lf)).1,(bd ((AJ M 2 (cC b 2).2).2,lf)).2)
  else bJ4 bd lf (cC (cC b 2).2 M.ints).1 (qK M 3 (cC (cC b 2).2 M.ints).2)
 else if k=12/\(cC b 3).1=0 then (.mk 10 [] [] [] [] [],((cC b 3).2,lf))
 else cL7 M lf (if k=12 then (cC b 3).2 else b)
def DQ (st:Nat->Bs->Nat->Sm × (Bs × Nat)):Nat->Bs × Nat->List Sm × (Bs × Nat)
 | 0,x=>([],x)
 | f+1,(b,lf) =>
  if b=[]\/lf=0 then ([],(b,lf))
  else if (cC b 14).1=13 then ([],((cC b 14).2,lf))
  else ((st (cC b 14).1 (cC b 14).2 (lf - 1)).1::(DQ st f (st (cC b 14).1 (cC b 14).2 (lf - 1)).2).1,(DQ st f (st (cC b 14).1 (cC b 14).2 (lf - 1)).2).2)
def ZA (M:Mk):Nat->Bs × Nat->List Sm × (Bs × Nat)
 | 0=>DQ (λk=>iF M k 3 λx=>([],x)) 13
 | f+1=>DQ (λk=>iF M k (2 - f) (ZA M f)) 13
structure Cd where
 ps:UInt8
 bytes:Bs
def dCd (c:Cd):D:=.str [.val (.int .u8 c.ps.toNat),.seq 1 (c.bytes.map dU8)]
theorem VL {x:Cd} (h:Rep H (dCd x) cs):∃ p c,cs=[.int .u8 x.ps.toNat,.slice p x.bytes.length c]/\Rep H (.seq 1 (x.bytes.map dU8)) [.slice p x.bytes.length c]:=by
 rw [dCd,xF] at h;obtain ⟨_,rfl,_,_,h⟩:=dY.1 h;obtain ⟨p,c,_,rfl,hs,h⟩:=lT.1 h;rw [iT] at h;subst h;rw [aP] at hs|-;exact ⟨p,c,Z,hs⟩
def Mk.at (M:Mk) (k:Nat):Mk:={ M with params:=arN M M.own k }
def hdS (M:Mk) (k:Nat) (c:Cd):Hd:=⟨nmB 104 k,kZ 112 (arN M M.own k),(ZA (M.at k) 3 (c.bytes.take 40,12)).1⟩
def wR (M:Mk):Nat->List Cd->List Hd
 | _,[]=>[]
 | k,c::r=>hdS M k c::wR M (k+1) r
theorem YD (M:Mk):∀ (a:List Cd) (k:Nat) (b:List Cd),wR M k (a++b)=wR M k a++wR M (k+a.length) b
 | [],k,b=>by simp [wR]
 | c::r,k,b=>by
  simp only [bY,wR,YD M r (k+1) b,aF];rw [show k+1+r.length=k+(r.length+1) by omega]
variable {M:Mk}
theorem aR9 {l:List Cd} (h:k<l.length):wR M 0 (l.take (k+1))=wR M 0 (l.take k)++[hdS M k l[k]]:=by
 rw [tX h,YD,dG,iK aD];simp [wR]
theorem AN (M:Mk):∀ (l:List Cd) (k:Nat),(wR M k l).length=l.length
 | [],_=>rfl
 | c::r,k=>by simp [wR,AN M r (k+1)]
end Go.Proofs.YtidclioghdbphaaGreatDoor
namespace Go.Sx
open Go.RowKit Go.Par
section
variable {dfs:List Deferred} {P:Program} {n:Nat} {L:Sl} {H:Hp} {w0:World} {bs:List Res} {Q:Exit->Act->World->Prop} {ops:Array Oper} {K:Act->World->Prop}
theorem At.ae {listed:Array Bool} (hr:Region.ready .any ops listed=[]) (h:At dfs n L H w0 bs (Q .normal)):At dfs n L H w0 bs (wpAny P .any ops Q 0 listed):=cL9 hr h
theorem Yl.cutHi2 {d:Option Tmp} {ty:TypeId} {pos:String} {aft:Array Edge} {g:Option (Nat × Bool)} {x y:Operand} {T:TypeId} {p:Option Addr} {len c z h:Nat} {k:IntKind} {i:Int} (hT:slN P T=some z) (hx:ev L x=some (.slice p len c)) (hy:ev L y=some (.int k i)) (e:i=(h:Int)) (hh:h<=c) :
 Yl P L H w0 bs ⟨d,.slice T x none (some y) none,ty,pos,aft,g⟩ (.slice (if c=0 then p else p.map λq=>q.add 0) h c):=.of_run λa W f _=>by
 subst e;obtain ⟨el,hu,hz⟩:=NS hT;unfold execOp;simp [f x _ hx,f y _ hy,Instr.sliceAt,Instr.slice,underlying,program,Sem.run,Result.andThen,hu,Instr.sliceBounds,Instr.sliceBound,asIntOf,hh,nB hz]
theorem AH {z n c hi:Nat} {ds:List D} {p:Option Addr} (h:Rep H (.seq z ds) [.slice p n c]) (hl:hi<=n):Rep H (.seq z (ds.take hi)) [.slice (if c=0 then p else p.map λq=>q.add 0) hi c]:=by
 have hn:=h.len
 by_cases hc:c=0
 ·have h0:ds=[]:=bK aD;rw [aK hc,h0,List.take_nil,show hi=0 by omega];exact .empty aD
 rw [aA hc];unfold Rep at h;obtain ⟨p',c',h1,h2,h3,h4⟩:=h;injection h1 with h1 _
 injection h1 with h5 h6 h7
 subst h5 h7;rcases h4 with h4 | ⟨b',off',cs,rfl,h9,h10,h11⟩
 ·subst h4;obtain rfl:hi=0:=by simp only [aH] at h6;omega
  exact .empty aD
 ·exact .mkM (h9.take (hi * z)) (h10.take hi) (by rw [dG];omega) aD aD λe=>h11 (D.txtL_sub (λx=>mJ) e)
end
inductive Ty where
 | int (k:IntKind)
 | bool
 | strg
 | seq (τ:Ty)
 | str (fs:List Ty)
 | arr (n:Nat) (τ:Ty)
mutual
def Ty.cells:Ty->Nat
 | .int _=>1
 | .bool=>1
 | .strg=>1
 | .seq _=>1
 | .str fs=>Ty.cellsL fs
 | .arr n τ=>n * Ty.cells τ
def Ty.cellsL:List Ty->Nat
 | []=>0
 | τ::r=>Ty.cells τ+Ty.cellsL r
end
mutual
def Ty.at (P:Program):Ty->TypeId->Bool
 | .int k,t=>match P.underlying t with | some (.int k')=>decide (k'=k) | _=>false
 | .bool,t=>match P.underlying t with | some .bool=>true | _=>false
 | .strg,t=>match P.underlying t with | some .string=>true | _=>false
 | .seq τ,t=>match P.underlying t with | some (.slice e)=>Ty.at P τ e && decide (P.cellsOf e=Ty.cells τ) && decide (0<Ty.cells τ) | _=>false
 | .str fs,t=>match P.underlying t with | some (.struct g)=>decide (P.cellsOf t=Ty.cellsL fs) && Ty.atL P fs g.toList 0 | _=>false
 | .arr n τ,t=>match P.underlying t with | some (.array m e)=>decide (m=n) && Ty.at P τ e && decide (P.cellsOf e=Ty.cells τ) && decide (P.cellsOf t=n * Ty.cells τ) | _=>false
def Ty.atL (P:Program):List Ty->List Field->Nat->Bool
 | [],[],_=>true
 | τ::r,f::g,o=>Ty.at P τ f.type && decide (f.offset=o) && decide (P.cellsOf f.type=Ty.cells τ) && Ty.atL P r g (o+Ty.cells τ)
 | _,_,_=>false
end
mutual
def Ty.has:Ty->D->Prop
 | .int k,d=>∃ n,d=.val (.int k n)/\(Lit.int k n).wf=true
 | .bool,d=>∃ b,d=.val (.bool b)
 | .strg,d=>∃ s:ByteArray,d=.any (.string s)
 | .seq τ,d=>∃ ds,d=.seq (Ty.cells τ) ds/\∀ x∈ds,Ty.has τ x
 | .str fs,d=>∃ ds,d=.str ds/\Ty.hasL fs ds
 | .arr _ _,_=>False
def Ty.hasL:List Ty->List D->Prop
 | [],ds=>ds=[]
 | τ::r,ds=>∃ d q,ds=d::q/\Ty.has τ d/\Ty.hasL r q
end
mutual
def Ty.opn:Ty->Bool
 | .int _=>true
 | .bool=>true
 | .strg=>true
 | .seq τ=>Ty.opn τ
 | .str fs=>Ty.opnL fs
 | .arr _ _=>false
def Ty.opnL:List Ty->Bool
 | []=>true
 | τ::r=>Ty.opn τ && Ty.opnL r
end
mutual
def Ty.pln:Ty->Bool
 | .int _=>true
 | .bool=>true
 | .strg=>true
 | .seq _=>false
 | .str fs=>Ty.plnL fs
 | .arr _ τ=>Ty.pln τ
def Ty.plnL:List Ty->Bool
 | []=>true
 | τ::r=>Ty.pln τ && Ty.plnL r
end
def PM (W:World):Hp:=⟨λb=>W.heap[b]?,0⟩
theorem bO1 (W:World):Agr (PM W) W:=⟨λ_ _ h=>h,aN _⟩
variable {W:World} {v:Value}
theorem PJ {a:Addr} (h:W.cell? a=some v):∃ cs t m,W.heap[a.block]? = some (.cells cs t m)/\a.spot=Option.none/\cs[a.off]? = some v:=by
 unfold World.cell? at h
 split at h
 ·rename_i cs t m e
  split at h
  ·cases h
  ·rename_i hs;exact ⟨cs,t,m,e,by simpa using hs,h⟩
 ·cases h
theorem cB2 (a:Addr) (x y:Nat):(a.add x).add y=a.add (x+y):=by
 by_cases hx:x=0
 ·subst hx;simp [Addr.add]
 ·by_cases hy:y=0
  ·subst hy;simp [Addr.add]
  ·simp [Addr.add,hx,hy,fP]
mutual
theorem Ty.plain:∀ (τ:Ty) (d:D),Ty.has τ d->d.txt=false
 | .int k,d,h=>by
  unfold Ty.has at h;obtain ⟨n,rfl,_⟩:=h
  rfl
 | .bool,d,h=>by
  unfold Ty.has at h;obtain ⟨n,rfl⟩:=h
  rfl
 | .strg,d,h=>by
  unfold Ty.has at h;obtain ⟨n,rfl⟩:=h
  rfl
 | .seq τ,d,h=>by
  unfold Ty.has at h;obtain ⟨ds,rfl,h⟩:=h;show D.txtL ds=false;rw [D.txtL_any,List.any_eq_false];intro x hx;rw [Ty.plain τ x (h x hx)]
  decide
 | .str fs,d,h=>by
  unfold Ty.has at h;obtain ⟨ds,rfl,h⟩:=h;exact Ty.plainL fs ds h
 | .arr n τ,d,h=>by
  unfold Ty.has at h;exact h.elim
theorem Ty.plainL:∀ (fs:List Ty) (ds:List D),Ty.hasL fs ds->D.txtL ds=false
 | [],ds,h=>by
  unfold Ty.hasL at h;subst h
  rfl
 | τ::r,ds,h=>by
  unfold Ty.hasL at h;obtain ⟨d,q,rfl,h1,h2⟩:=h;rw [D.txtL,Ty.plain τ d h1,Ty.plainL r q h2]
  rfl
end
section
variable {H:Type} {enc:TypeId × Value->H} {P:Program} {base:Nat} {sp:Nat->Bool} {held:Bool}
mutual
theorem Ty.opens (W:World):∀ (τ:Ty) (t:TypeId) (fuel:Nat) (cs:List Value) (x:DataW H × List MemPlace),Ty.at P τ t=true->Ty.opn τ=true->DataW.trod enc P W base sp held fuel t cs=some x->∃ d,Ty.has τ d/\Rep (PM W) d cs
 | .int k,t,fuel,cs,x,ha,_,h=>by
  unfold Ty.at at ha
  split at ha
  ·rename_i k' hu;obtain rfl:k'=k:=by simpa using ha
   obtain ⟨n,rfl,_,hw⟩:=DataW.trod_int hu h;refine ⟨.val (.int k' n),?_,?_⟩
   ·unfold Ty.has;exact ⟨n,Z,hw⟩
   ·unfold Rep;exact ⟨Z,Z,Jt⟩
  ·cases ha
 | .bool,t,fuel,cs,x,ha,_,h=>by
  unfold Ty.at at ha
  split at ha
  ·rename_i hu;obtain ⟨b,rfl,_⟩:=DataW.trod_bool hu h;refine ⟨.val (.bool b),?_,?_⟩
   ·unfold Ty.has;exact ⟨b,Z⟩
   ·unfold Rep;exact ⟨Z,Z,Jt⟩
  ·cases ha
 | .strg,t,fuel,cs,x,ha,_,h=>by
  unfold Ty.at at ha
  split at ha
  ·rename_i hu;obtain ⟨s,rfl,_⟩:=DataW.trod_string hu h;refine ⟨.any (.string s),?_,?_⟩
   ·unfold Ty.has;exact ⟨s,Z⟩
   ·unfold Rep;exact ⟨Z,Z⟩
  ·cases ha
 | .arr _ _,_,_,_,_,_,ho,_=>by simp [Ty.opn] at ho
 | .str fs,t,fuel,cs,x,ha,ho,h=>by
  unfold Ty.at at ha
  split at ha
  ·rename_i g hu;simp only [aE,aB] at ha;unfold Ty.opn at ho;obtain ⟨xs,n,_,rfl,hl,hlen,hf⟩:=DataW.trod_struct hu h
   obtain ⟨ds,h1,h2⟩:=Ty.opensL W fs g.toList 0 n cs ha.2 ho (by rw [hl,ha.1];omega) (λi f hi=>by
    have hi2:g[i]? = some f:=by simpa using hi
    have:=hf i f hi2;have hlt:i<xs.length:=by rw [hlen];exact (Array.getElem?_eq_some_iff.1 hi2).1
    rw [List.getElem?_eq_getElem hlt] at this;exact ⟨_,this⟩)
   refine ⟨.str ds,?_,?_⟩
   ·unfold Ty.has;exact ⟨ds,Z,h1⟩
   ·unfold Rep;simpa using h2
  ·cases ha
 | .seq τ,t,fuel,cs,x,ha,ho,h=>by
  unfold Ty.at at ha
  split at ha
  ·rename_i e hu;simp only [aE,aB] at ha;obtain ⟨⟨ha,hz⟩,h0⟩:=ha;unfold Ty.opn at ho;rcases Go.Deep.open_slice hu h with ⟨rfl,-⟩ | ⟨a,len,cap,m,n,D,Pl,rfl,-,hl,hm,hmm,-,hi⟩
   ·refine ⟨.seq (Ty.cells τ) [],?_,.empty (by simp [maxLen])⟩;unfold Ty.has;exact ⟨[],Z,by simp⟩
   have hlm:len<=m:=by rw [hmm];split <;> omega
   have key:∀ q,q<=len->∃ ds l,ds.length=q/\(∀ x∈ds,Ty.has τ x)/\dT (PM W) (Ty.cells τ) ds l/\l.length=q * Ty.cells τ/\∀ (j:Nat) u,l[j]? = some u->W.cell? (a.add j)=some u:=by
    intro q;induction q with
    | zero=>intro _;exact ⟨[],[],Z,by simp,dT.nil,by simp,by simp⟩
    | succ q ih =>
     intro hq;obtain ⟨ds,l,h1,h2,h3,h4,h5⟩:=ih aD;obtain ⟨cs',hc,ht⟩:=hi q aD;rw [hz] at hc;obtain ⟨_,hcl,hat⟩:=World.cells?_some hc;obtain ⟨d,hd,hr⟩:=Ty.opens W τ e n cs' _ ha ho ht;refine ⟨ds++[d],l++cs',by simp [h1],?_,h3.snoc hr hcl,by rw [aC,h4,hcl,hU],?_⟩
     ·intro x hx;rcases cJ.1 hx with hx | hx
      ·exact h2 x hx
      ·rw [bS.1 hx];exact hd
     ·intro j u hj
      by_cases hjl:j<l.length
      ·rw [List.getElem?_append_left hjl] at hj;exact h5 j u hj
      ·rw [List.getElem?_append_right aD] at hj;have hjc:=(List.getElem?_eq_some_iff.1 hj).1;have:=hat (j - l.length) aD;rw [hj] at this;have h9:q * Ty.cells τ+(j - l.length)=j:=aD
       have h10:(a.add (q * Ty.cells τ)).add (j - l.length)=a.add j:=by rw [cB2,h9]
       rw [<-h10];exact this
   obtain ⟨ds,l,h1,h2,h3,h4,h5⟩:=key len (aY _);refine ⟨.seq (Ty.cells τ) ds,?_,?_⟩
   ·unfold Ty.has;exact ⟨ds,Z,h2⟩
   by_cases hl0:len=0
   ·subst hl0;obtain rfl:=bK h1;exact .empty hm
   ·have hlp:0<l.length:=by rw [h4];exact Nat.mul_pos aD h0
    have hc0:=h5 0 _ (List.getElem?_eq_getElem hlp);rw [show a.add 0=a by simp [Addr.add]] at hc0;obtain ⟨arr,t',mk,hb,hs,_⟩:=PJ hc0;obtain ⟨ab,ao,ap⟩:=a;simp only at hs hb;subst hs
    refine .mkM ⟨arr,t',mk,hb,λj u hu=>?_⟩ h3 h1 hl hm λe=>by
     have hp:=Ty.plain (.seq τ) (.seq (Ty.cells τ) ds) (by unfold Ty.has;exact ⟨ds,Z,h2⟩);rw [show Go.Sx.D.txtL ds=false from hp] at e;cases e
    have h6:=h5 j u hu;rw [Addr.add_lit] at h6;obtain ⟨arr',t'',mk',hb',_,h7⟩:=PJ h6;have e2:=bL (hb.symm.trans hb');injection e2 with e3
    subst e3;exact h7
  ·cases ha
theorem Ty.opensL (W:World):∀ (fs:List Ty) (g:List Field) (o n:Nat) (cs:List Value),Ty.atL P fs g o=true->Ty.opnL fs=true->cs.length=o+Ty.cellsL fs ->
 (∀ (i:Nat) f,g[i]? = some f->∃ y,DataW.trod enc P W base sp held n f.type ((cs.drop f.offset).take (P.cellsOf f.type))=some y)->∃ ds,Ty.hasL fs ds/\sZ (PM W) ds (cs.drop o)
 | [],[],o,n,cs,_,_,hl,_=>by
  refine ⟨[],by unfold Ty.hasL;rfl,?_⟩;unfold sZ;exact fY (by simp only [Ty.cellsL] at hl;omega)
 | [],_::_,_,_,_,ha,_,_,_=>by simp [Ty.atL] at ha
 | _::_,[],_,_,_,ha,_,_,_=>by simp [Ty.atL] at ha
 | τ::r,f::g,o,n,cs,ha,ho,hl,hf=>by
  unfold Ty.atL at ha;unfold Ty.opnL at ho;simp only [aE,aB] at ha ho;obtain ⟨⟨⟨a1,a2⟩,a3⟩,a4⟩:=ha;obtain ⟨y,hy⟩:=hf 0 f rfl;rw [a2,a3] at hy;obtain ⟨d,h1,h2⟩:=Ty.opens W τ f.type n _ y a1 ho.1 hy;unfold Ty.cellsL at hl;obtain ⟨ds,h3,h4⟩:=Ty.opensL W r g (o+Ty.cells τ) n cs a4 ho.2 aD (λi f' hi=>hf (i+1) f' (by simpa using hi));refine ⟨d::ds,by unfold Ty.hasL;exact ⟨d,ds,Z,h1,h3⟩,?_⟩;unfold sZ;exact ⟨_,_,by rw [<-fO,eW],h2,h4⟩
end
mutual
def LH:DataW H->List Value
 | .lit (.int k n)=>[.int k n]
 | .lit (.bool b)=>[.bool b]
 | .lit (.string l)=>[.string ⟨l.toArray⟩]
 | .agg ps=>DK ps
 | _=>[]
def DK:List (DataW H)->List Value
 | []=>[]
 | d::r=>LH d++DK r
end
mutual
theorem Ty.flat (W:World):∀ (τ:Ty) (t:TypeId) (fuel:Nat) (cs:List Value) (x:DataW H × List MemPlace),Ty.at P τ t=true->Ty.pln τ=true->DataW.trod enc P W base sp held fuel t cs=some x->cs=LH x.1
 | .int k,t,fuel,cs,x,ha,_,h=>by
  unfold Ty.at at ha
  split at ha
  ·rename_i k' hu;obtain ⟨n,rfl,rfl,hw⟩:=DataW.trod_int hu h;simp only [LH]
  ·cases ha
 | .bool,t,fuel,cs,x,ha,_,h=>by
  unfold Ty.at at ha
  split at ha
  ·rename_i hu;obtain ⟨b,rfl,rfl⟩:=DataW.trod_bool hu h;simp only [LH]
  ·cases ha
 | .strg,t,fuel,cs,x,ha,_,h=>by
  unfold Ty.at at ha
  split at ha
  ·rename_i hu;obtain ⟨s,rfl,rfl,_⟩:=DataW.trod_string hu h;simp only [LH]
  ·cases ha
 | .seq _,_,_,_,_,_,ho,_=>by simp [Ty.pln] at ho
 | .str fs,t,fuel,cs,x,ha,ho,h=>by
  unfold Ty.at at ha
  split at ha
  ·rename_i g hu;simp only [aE,aB] at ha;unfold Ty.pln at ho;obtain ⟨xs,n,_,rfl,hl,hlen,hf⟩:=DataW.trod_struct hu h;have h2:=Ty.flatL W fs g.toList 0 n cs xs ha.2 ho (by rw [hl,ha.1];omega) (by simpa using hlen) (λi f hi=>hf i f (by simpa using hi));simpa [LH] using h2
  ·cases ha
 | .arr k τ,t,fuel,cs,x,ha,ho,h=>by
  unfold Ty.at at ha
  split at ha
  ·rename_i m e hu;simp only [aE,aB] at ha;obtain ⟨⟨⟨hm,ha⟩,hz⟩,hct⟩:=ha;subst hm;unfold Ty.pln at ho;obtain ⟨xs,n,_,rfl,hl,hlen,hf⟩:=DataW.trod_array hu h
   have key:∀ (xs:List (DataW H × List MemPlace)) (cs:List Value),cs.length=xs.length * Ty.cells τ->(∀ i,i<xs.length->DataW.trod enc P W base sp held n e ((cs.drop (i * Ty.cells τ)).take (Ty.cells τ))=xs[i]?)->cs=DK (xs.map (·.1)):=by
    intro xs;induction xs with
    | nil=>intro cs hc _;simp at hc;simp [hc,DK]
    | cons y r ih =>
     intro cs hc hi;have h0:=hi 0 fG;simp only [nU,oQ,List.getElem?_cons_zero] at h0;have e0:=Ty.flat W τ e n _ y ha ho h0
     have e1:=ih (cs.drop (Ty.cells τ)) (by rw [dA,hc,aF,hU];omega) (λi hlt=>by
      have:=hi (i+1) (by simp;omega);rw [List.getElem?_cons_succ] at this;rw [<-this,fO,show Ty.cells τ+i * Ty.cells τ=(i+1) * Ty.cells τ by rw [hU];omega])
     simp only [eP,DK];rw [<-e0,<-e1,eW]
   have h2:=key xs cs (by rw [hl,hct,hlen]) (λi hlt=>by
    have:=hf i aD;rw [hz] at this;exact this)
   simpa [LH] using h2
  ·cases ha
theorem Ty.flatL (W:World):∀ (fs:List Ty) (g:List Field) (o n:Nat) (cs:List Value) (xs:List (DataW H × List MemPlace)),Ty.atL P fs g o=true->Ty.plnL fs=true->cs.length=o+Ty.cellsL fs->xs.length=g.length ->
 (∀ (i:Nat) f,g[i]? = some f->DataW.trod enc P W base sp held n f.type ((cs.drop f.offset).take (P.cellsOf f.type))=xs[i]?)->cs.drop o=DK (xs.map (·.1))
 | [],[],o,n,cs,xs,_,_,hl,hx,_=>by
  obtain rfl:=bK hx;simp only [tL,DK];exact fY (by simp only [Ty.cellsL] at hl;omega)
 | [],_::_,_,_,_,_,ha,_,_,_,_=>by simp [Ty.atL] at ha
 | _::_,[],_,_,_,_,ha,_,_,_,_=>by simp [Ty.atL] at ha
 | τ::r,f::g,o,n,cs,[],ha,ho,hl,hx,hf=>by simp at hx
 | τ::r,f::g,o,n,cs,y::xs,ha,ho,hl,hx,hf=>by
  unfold Ty.atL at ha;unfold Ty.plnL at ho;simp only [aE,aB] at ha ho;obtain ⟨⟨⟨a1,a2⟩,a3⟩,a4⟩:=ha;have hy:=hf 0 f rfl;rw [a2,a3,List.getElem?_cons_zero] at hy;have e0:=Ty.flat W τ f.type n _ y a1 ho.1 hy;unfold Ty.cellsL at hl
  have e1:=Ty.flatL W r g (o+Ty.cells τ) n cs xs a4 ho.2 aD (by simpa using hx) (λi f' hi=>by
   have:=hf (i+1) f' (by simpa using hi);rw [List.getElem?_cons_succ] at this;exact this)
  simp only [eP,DK];rw [<-e0,<-e1,<-fO,eW]
end
end
variable {t:TypeId}
theorem DA {P:Program} {name:String} {dat:DataW Unit} {rest:List (String × DataW Unit)} {g:Nat} (τ:Ty) (cs:List Value)
 (hg:P.globalNamed name=some g) (hty:(P.globals[g]?).map (·.type)=some t) (ha:Ty.at P τ t=true) (hp:Ty.pln τ=true) (hc:LH dat=cs) (h:laidMet P ((name,dat)::rest) W):lW (PM W) g 0 cs:=by
 obtain ⟨ps,⟨g',t',cs',fuel,p,q,hg',ht',hvar,hd,_,_⟩,_⟩:=h;obtain rfl:=bL (hg.symm.trans hg');obtain rfl:=bL (hty.symm.trans ht');have e:=Ty.flat W τ t fuel cs'.toList _ ha hp hd;dsimp only at e;rw [hc] at e;unfold World.var? at hvar;rw [hg] at hvar;simp only [iR] at hvar
 split at hvar
 ·rename_i arr T m hb;refine ⟨arr,T,m,hb,λj u hu=>?_⟩;obtain rfl:=bL hvar;rw [dO];rw [<-e] at hu;simpa using hu
 ·cases hvar
theorem aK6 {α β:Type} {f:α->β}:∀ {ds:List β},(∀ x∈ds,∃ y,x=f y)->∃ l:List α,ds=l.map f
 | [],_=>⟨[],Z⟩
 | d::r,h=>by
  obtain ⟨y,rfl⟩:=h d Hm;obtain ⟨l,rfl⟩:=aK6 (ds:=r) λx hx=>h x (.tail _ hx);exact ⟨y::l,Z⟩
theorem cI5 {n:Int} (h:(Lit.int .u8 n).wf=true):∃ x:UInt8,n=x.toNat:=by
 have e1:IntKind.u8.min=0:=rfl;have e2:IntKind.u8.max=255:=rfl;simp only [Lit.wf,e1,e2,aE,aB] at h;exact ⟨UInt8.ofNat n.toNat,by simp [rJ];omega⟩
end Go.Sx
/- Drawn regions with several heavy operations that do not wait for one another: the light ones are decided as early as they can, the heavy ones in every order. -/
namespace Go.Sx
open Go.RowKit Go.Par
inductive Pi0 where
 | done
 | no
 | light (i:Nat) (r:Pi0)
 | alt (i k:Nat) (r q:Pi0)
inductive PlT where
 | done
 | no
 | light (i:Nat) (o:Oper) (r:PlT)
 | alt (i k:Nat) (o:Oper) (r q:PlT)
def xB (l:List Oper):Pi0->PlT
 | .done=>.done
 | .no=>.no
 | .light i r=>.light i l[i]! (xB l r)
 | .alt i k r q=>.alt i k l[i]! (xB l r) (xB l q)
def okT (ops:Array Oper) (n:Nat):List Nat->List Nat->Pi0->Bool
 | D,A,.done=>A.isEmpty && (List.range n).all λj=>D.contains j
 | D,A,.no=>!A.isEmpty && (List.range n).all λj=>D.contains j || A.contains j || A.any λi=>mW ops n j i
 | D,A,.light i r=>A.isEmpty && decide (i<n) && !D.contains i && ((List.range n).all λj=>!Region.waitsFor .any ops i j || D.contains j) && okT ops n (i::D) [] r
 | D,A,.alt i k r q=>decide (i<n) && !D.contains i && ((List.range n).all λj=>!Region.waitsFor .any ops i j || D.contains j) && (!(k == 1) || D.all λj=>mW ops n i j) && okT ops n (i::D) [] r && okT ops n D (i::A) q
section
variable {dfs:List Deferred} {P:Program} {ops:Array Oper} {w0:World} {n N:Nat}
def fZ (dfs:List Deferred) (P:Program) (ops:Array Oper) (n:Nat) (w0:World) (N:Nat) (E:Sl->Hp->List Res->Prop):PlT->List (Nat × Oper × Value)->Sl->Hp->List Res->Prop
 | .done,_,L,H,bs=>E L H bs
 | .no,_,_,_,_=>True
 | .light i o r,pa,L,H,bs=>∃ v,(∀ a W,Fr dfs N L a->St H w0 bs W->Yq P ops o v a W)/\(∀ t,o.dst=some t->t<N)/\fZ dfs P ops n w0 N E r ((i,o,v)::pa) (putL o.dst v L) H bs
 | .alt i k o r q,pa,L,H,bs=>((∀ t,o.dst=some t->t<N)/\At dfs N L H w0 bs (one P ops (λ_ _ _=>False) o λa' W'=>∃ v H' bs',Fr dfs N (putL o.dst v L) a'/\St H' w0 bs' W'/\(k=1\/(∀ W,St H' w0 bs' W->St H w0 bs W)\/iV dfs P ops n w0 N L H' bs' i pa)/\fZ dfs P ops n w0 N E r pa (putL o.dst v L) H' bs'))/\fZ dfs P ops n w0 N E q pa L H bs
structure GT (dfs:List Deferred) (P:Program) (ops:Array Oper) (l:List Oper) (w0:World) (n N:Nat) (a0:Act) (E:Sl->Hp->List Res->Prop) (listed:Array Bool) (a:Act) (W:World) (val:Nat->Value) (dec:Nat->Bool) (D:List Nat) (L:Sl) (H:Hp) (bs:List Res) (pa:List (Nat × Oper × Value)):Prop where
 head:HeadInv .any ops n listed
 frame:a=frm ops val (st listed) n a0
 full:Fr dfs N L (frm ops val dec n a0)
 sub:∀ i,i<n->st listed i=true->dec i=true
 world:St H w0 bs W
 light:∀ i o,i<n->ops[i]? = some o->dec i=true->st listed i=false->∀ W,St H w0 bs W->Yq P ops o (val i) (frm ops val dec n a0) W
 past:∀ i o,i<n->ops[i]? = some o->dec i=true->st listed i=false->(i,o,val i)∈pa
 set:∀ j,dec j=D.contains j
 deps:∀ i j,i<n->j<n->dec i=true->Region.waitsFor .any ops i j=true->dec j=true
variable {l:List Oper} {a0:Act} {E:Sl->Hp->List Res->Prop} {Q:Exit->Act->World->Prop} {listed:Array Bool} {a:Act} {W:World} {val:Nat->Value} {dec:Nat->Bool} {D A:List Nat} {L:Sl} {H:Hp} {bs:List Res} {pa:List (Nat × Oper × Value)}
theorem LY {i:Nat} (h:∀ j,dec j=D.contains j):∀ j,upd dec i true j=(i::D).contains j:=λj=>by
 by_cases e:j=i
 ·subst e;rw [gY];simp
 ·rw [eO _ _ e,h j,List.contains_cons];have:(j == i)=false:=by simpa using e
  rw [this];simp
theorem HI {i:Nat} (h:((List.range n).all λj=>!Region.waitsFor .any ops i j || D.contains j)=true) {j:Nat} (hj:j<n) (hw:Region.waitsFor .any ops i j=true):D.contains j=true:=by
 have:=bD.1 h j (bZ.2 hj);rw [hw] at this;simpa using this
theorem GT.decide (F:Fit ops n []) {i:Nat} {o:Oper} (I:GT dfs P ops l w0 n N a0 E listed a W val dec D L H bs pa) (hi:i<n) (ho:ops[i]? = some o) (hiD:D.contains i=false) (hwt:((List.range n).all λj=>!Region.waitsFor .any ops i j || D.contains j)=true)
 {v:Value} (hy:∀ a W,Fr dfs N L a->St H w0 bs W->Yq P ops o v a W) (hN:∀ t,o.dst=some t->t<N) :
 GT dfs P ops l w0 n N a0 E listed a W (upd val i v) (upd dec i true) (i::D) (putL o.dst v L) H bs ((i,o,v)::pa):=by
 have hdi:dec i=false:=(I.set i).trans hiD;have hdeps:∀ j,j<n->Region.waitsFor .any ops i j=true->dec j=true:=λj hj hw=>(I.set j).trans (HI hwt hj hw)
 have hii:∀ j,j<n->Region.waitsFor .any ops i j=true->j≠i:=λj hj hw e=>by
  have:=hdeps j hj hw;rw [e,hdi] at this;cases this
 have hli:st listed i=false:=by
  cases h:st listed i with
  | false=>rfl
  | true=>have:=I.sub i hi h;rw [hdi] at this;cases this
 have hput:=MQ (a0:=a0) (val:=val) (v:=v) F hi ho hdi;refine ⟨I.head,?_,?_,?_,I.world,?_,?_,LY I.set,?_⟩
 ·rw [I.frame];refine kP _ _ _ _ a0 n λk _=>⟨Z,λhk=>(eO _ _ λe=>?_).symm⟩;subst e;rw [hli] at hk;cases hk
 ·rw [hput];exact I.full.putL v hN
 ·intro j hj hs
  by_cases e:j=i
  ·subst e;exact gY _ _ _
  ·rw [eO _ _ e];exact I.sub j hj hs
 ·intro j oj hj hoj hd hs W hW
  by_cases e:j=i
  ·subst e;obtain rfl:oj=o:=bL (hoj.symm.trans ho);rw [gY];refine Yq.same (λcs b=>F.sel j oj cs b ho) (λt ht=>?_) (hy _ W I.full hW);refine sB F hj ho (λk hk hw=>?_) t ht;have hkd:=hdeps k hk hw;have hki:=hii k hk hw;exact ⟨by rw [eO _ _ hki];exact hkd,hkd,eO _ _ hki⟩
  ·rw [eO _ _ e] at hd|-;refine Yq.same (λcs b=>F.sel j oj cs b hoj) (λt ht=>?_) (I.light j oj hj hoj hd hs W hW);refine sB F hj hoj (λk hk hw=>?_) t ht;have hkd:=I.deps j k hj hk hd hw;have hki:k≠i:=λe=>by subst e;rw [hdi] at hkd;cases hkd
   exact ⟨by rw [eO _ _ hki];exact hkd,hkd,eO _ _ hki⟩
 ·intro j oj hj hoj hd hs
  by_cases e:j=i
  ·subst e;obtain rfl:oj=o:=bL (hoj.symm.trans ho);rw [gY];exact .head _
  ·rw [eO _ _ e] at hd|-;exact .tail _ (I.past j oj hj hoj hd hs)
 ·intro j k hj hk hd hw
  by_cases e:j=i
  ·subst e;rw [eO _ _ (hii k hk hw)];exact hdeps k hk hw
  ·rw [eO _ _ e] at hd;have:=I.deps j k hj hk hd hw
   by_cases e2:k=i
   ·subst e2;exact gY _ _ _
   ·rw [eO _ _ e2];exact this
theorem GT.step (F:Fit ops n []) {i:Nat} {o:Oper} {W':World} (I:GT dfs P ops l w0 n N a0 E listed a W val dec D L H bs pa) (hi:i<n) (ho:ops[i]? = some o) (hr:i∈Region.ready .any ops listed) (hd:dec i=true) (hx:Ext W W') :
 GT dfs P ops l w0 n N a0 E (listed.setIfInBounds i true) (a.put o.dst (val i)) W' val dec D L H bs pa:=by
 have hun:st listed i=false:=(mem_ready.1 hr).1;have e1:kL ops i=o.dst:=by simp [kL,ho]
 refine ⟨I.head.set hr hi,?_,I.full,?_,I.world.more hx,?_,?_,I.set,I.deps⟩
 ·rw [I.frame,uP val (st listed) (st (listed.setIfInBounds i true)) a0 i fW hun (λk hk=>kU hk) n hi F.apart,e1]
 ·intro j hj hs
  by_cases e:j=i
  ·subst e;exact hd
  ·rw [kU e] at hs;exact I.sub j hj hs
 ·intro j oj hj hoj hdj hs;have e:j≠i:=λe=>by subst e;rw [fW] at hs;cases hs
  rw [kU e] at hs;exact I.light j oj hj hoj hdj hs
 ·intro j oj hj hoj hdj hs;have e:j≠i:=λe=>by subst e;rw [fW] at hs;cases hs
  rw [kU e] at hs;exact I.past j oj hj hoj hdj hs
theorem GT.heavy (F:Fit ops n []) {i k:Nat} {o:Oper} {v:Value} {W':World} {H':Hp} {bs':List Res} (I:GT dfs P ops l w0 n N a0 E listed a W val dec D L H bs pa) (hi:i<n) (ho:ops[i]? = some o) (hiD:D.contains i=false) (hwt:((List.range n).all λj=>!Region.waitsFor .any ops i j || D.contains j)=true) (hk1:(!(k == 1) || D.all λj=>mW ops n i j)=true) (hN:∀ t,o.dst=some t->t<N) (hr:i∈Region.ready .any ops listed)
 (hs:St H' w0 bs' W') (hws:k=1\/(∀ W,St H' w0 bs' W->St H w0 bs W)\/iV dfs P ops n w0 N L H' bs' i pa) :
 GT dfs P ops l w0 n N a0 E (listed.setIfInBounds i true) (a.put o.dst v) W' (upd val i v) (upd dec i true) (i::D) (putL o.dst v L) H' bs' pa:=by
 have hdi:dec i=false:=(I.set i).trans hiD;have hdeps:∀ j,j<n->Region.waitsFor .any ops i j=true->dec j=true:=λj hj hw=>(I.set j).trans (HI hwt hj hw)
 have hii:∀ j,j<n->Region.waitsFor .any ops i j=true->j≠i:=λj hj hw e=>by
  have:=hdeps j hj hw;rw [e,hdi] at this;cases this
 have hun:st listed i=false:=(mem_ready.1 hr).1;have e1:kL ops i=o.dst:=by simp [kL,ho]
 have hput:=MQ (a0:=a0) (val:=val) (v:=v) F hi ho hdi;refine ⟨I.head.set hr hi,?_,?_,?_,hs,?_,?_,LY I.set,?_⟩
 ·rw [I.frame,uP (upd val i v) (st listed) (st (listed.setIfInBounds i true)) a0 i fW hun (λk hk=>kU hk) n hi F.apart,e1,gY]
  congr 1
  refine kP _ _ _ _ a0 n λk _=>⟨Z,λhk=>(eO _ _ λe=>?_).symm⟩;subst e;rw [hun] at hk;cases hk
 ·rw [hput];exact I.full.putL v hN
 ·intro j hj hs
  by_cases e:j=i
  ·subst e;exact gY _ _ _
  ·rw [eO _ _ e];rw [kU e] at hs;exact I.sub j hj hs
 ·intro j oj hj hoj hd hs W hW;have e:j≠i:=λe=>by subst e;rw [fW] at hs;cases hs
  rw [kU e] at hs;rw [eO _ _ e] at hd|-
  have hdone:mW ops n i j=true->False:=λh1=>by
   obtain ⟨_,oi,hoi,hall⟩:=mem_ready.1 hr
   have h2:=pY I.head n i j h1 (λok hok x hx hb=>by
    obtain rfl:ok=oi:=bL (hok.symm.trans hoi);exact hall x hx hb)
   rw [getD_both hs] at h2;cases h2
  have hy:Yq P ops oj (val j) (frm ops val dec n a0) W:=by
   rcases hws with hk | hw | hw
   ·subst hk;have hjD:j∈D:=by have:=(I.set j).symm.trans hd;simpa using this
    simp only [beq_self_eq_true,BC,aT] at hk1;exact (hdone (bD.1 hk1 j hjD)).elim
   ·exact I.light j oj hj hoj hd hs W (hw W hW)
   ·rcases hw.at (I.past j oj hj hoj hd hs) with h1 | h1
    ·exact (hdone h1).elim
    ·exact h1 _ W I.full hW
  refine Yq.same (λcs b=>F.sel j oj cs b hoj) (λt ht=>?_) hy;refine sB F hj hoj (λk hk hw=>?_) t ht;have hkd:=I.deps j k hj hk hd hw;have hki:k≠i:=λe=>by subst e;rw [hdi] at hkd;cases hkd
  exact ⟨by rw [eO _ _ hki];exact hkd,hkd,eO _ _ hki⟩
 ·intro j oj hj hoj hd hs;have e:j≠i:=λe=>by subst e;rw [fW] at hs;cases hs
  rw [kU e] at hs;rw [eO _ _ e] at hd|-;exact I.past j oj hj hoj hd hs
 ·intro j k hj hk hd hw
  by_cases e:j=i
  ·subst e;rw [eO _ _ (hii k hk hw)];exact hdeps k hk hw
  ·rw [eO _ _ e] at hd;have:=I.deps j k hj hk hd hw
   by_cases e2:k=i
   ·subst e2;exact gY _ _ _
   ·rw [eO _ _ e2];exact this
theorem PI (hl:ops=l.toArray) {j:Nat} (hj:j<n) (hjD:D.contains j=false) (hnr:∀ i,D.contains i=false->i<n->mW ops n j i=false) :
 ∀ (q:Pi0) (A:List Nat),(q=.no\/∃ i k r q',q=.alt i k r q')->okT ops n D A q=true->(∀ i∈A,D.contains i=false/\i<n/\i≠j)->fZ dfs P ops n w0 N E (xB l q) pa L H bs ->
  ∃ k r,((List.range n).all λx=>!Region.waitsFor .any ops j x || D.contains x)=true/\(!(k == 1) || D.all λx=>mW ops n j x)=true/\okT ops n (j::D) [] r=true/\(∀ t,(l[j]!).dst=some t->t<N) /\
   At dfs N L H w0 bs (one P ops (λ_ _ _=>False) l[j]! λa' W'=>∃ v H' bs',Fr dfs N (putL (l[j]!).dst v L) a'/\St H' w0 bs' W'/\(k=1\/(∀ W,St H' w0 bs' W->St H w0 bs W)\/iV dfs P ops n w0 N L H' bs' j pa)/\fZ dfs P ops n w0 N E (xB l r) pa (putL (l[j]!).dst v L) H' bs'):=by
 intro q;induction q with
 | done=>rintro A (h | ⟨_,_,_,_,h⟩) <;> cases h
 | light i r=>rintro A (h | ⟨_,_,_,_,h⟩) <;> cases h
 | no =>
  intro A _ hok hA _
  exfalso
  simp only [okT,aE] at hok;have:=bD.1 hok.2 j (bZ.2 hj);simp only [aW] at this;rcases this with (h | h) | h
  ·rw [hjD] at h;cases h
  ·exact (hA j (by simpa using h)).2.2 rfl
  ·obtain ⟨i,hi,hre⟩:=gA.1 h;rw [hnr i (hA i hi).1 (hA i hi).2.1] at hre;cases hre
 | alt i k r q' ihr ihq =>
  intro A _ hok hA hF;simp only [okT,aE,aB,eT] at hok;obtain ⟨⟨⟨⟨⟨h1,h2⟩,h3⟩,h4⟩,h5⟩,h6⟩:=hok;unfold xB fZ at hF
  by_cases e:i=j
  ·subst e;exact ⟨k,r,h3,h4,h5,hF.1.1,hF.1.2⟩
  ·have hq:q'=.no\/∃ i k r q'',q'=.alt i k r q'':=by
    cases q' with
    | done=>simp [okT] at h6
    | light i r=>simp [okT] at h6
    | no=>exact .inl rfl
    | alt i k r q=>exact .inr ⟨_,_,_,_,Z⟩
   refine ihq (i::A) hq h6 (λx hx=>?_) hF.2;rcases bM.1 hx with rfl | hx
   ·exact ⟨h2,h1,e⟩
   ·exact hA x hx
theorem aE5 (hl:ops=l.toArray) (F:Fit ops n []) (hend:∀ L H bs,E L H bs->At dfs N L H w0 bs (wpList P ops Q (ops.toList.drop n))) :
 ∀ (m:Nat) (p:Pi0) (listed:Array Bool) (a:Act) (W:World) (val:Nat->Value) (dec:Nat->Bool) (D:List Nat) (L:Sl) (H:Hp) (bs:List Res) (pa:List (Nat × Oper × Value)),cnt (st listed) n=m->okT ops n D [] p=true ->
  fZ dfs P ops n w0 N E (xB l p) pa L H bs->GT dfs P ops l w0 n N a0 E listed a W val dec D L H bs pa->wpAny P .any ops Q (m+(ops.size - n)) listed a W:=by
 have hop:∀ i,i<n->ops[i]? = some l[i]! := λi hi=>by
  have h1:i<ops.size:=by have:=F.lt;omega
  subst hl;have h2:i<l.length:=by simpa using h1
  simp [h2]
 intro m;induction m with
 | zero =>
  intro p;induction p with
  | done =>
   intro listed a W val dec D L H bs pa hm hok hF I;have hall:=sT _ n hm
   have hcan:listed=((List.range ops.size).map λk=>Decidable.decide (k<n)).toArray:=by
    apply IZ
    ·simp [I.head.size]
    ·intro k h1 h2;have hk:k<ops.size:=by rw [<-I.head.size];exact h1
     simp only [uC,pI,vI]
     by_cases hkn:k<n
     ·have:=hall k hkn;simp [st,h1] at this;simp [this,hkn]
     ·have:=I.head.tail k aD hk;simp [h1] at this;simp [this,hkn]
   rw [dO];have hlen:(ops.toList.drop n).length=ops.size - n:=by simp
   rw [<-hlen];refine wpAny_of_seq (ops.toList.drop n) n listed a W (λj=>by simp [List.getElem?_drop]) (by rw [hlen,hcan];exact F.seq) ?_
   have hfr:a=frm ops val dec n a0:=by
    rw [I.frame];exact kP _ _ _ _ a0 n (λk hk=>⟨by rw [hall k hk,I.sub k hk (hall k hk)],λ_=>rfl⟩)
   rw [hfr];exact hend L H bs hF _ W I.full I.world
  | no =>
   intro listed a W val dec D L H bs pa hm hok hF I;simp [okT] at hok
  | light i r ih =>
   intro listed a W val dec D L H bs pa hm hok hF I;have hall:=sT _ n hm;simp only [okT,aE,aB,eT] at hok;have:=I.sub i hok.1.1.1.2 (hall i hok.1.1.1.2);rw [I.set i,hok.1.1.2] at this;cases this
  | alt i k r q ih1 ih2 =>
   intro listed a W val dec D L H bs pa hm hok hF I;have hall:=sT _ n hm;simp only [okT,aE,aB,eT] at hok;have:=I.sub i hok.1.1.1.1.1 (hall i hok.1.1.1.1.1);rw [I.set i,hok.1.1.1.1.2] at this;cases this
 | succ m ih =>
  have one_step:∀ (p:Pi0) (listed:Array Bool) (a:Act) (W:World) (val:Nat->Value) (dec:Nat->Bool) (D:List Nat) (L:Sl) (H:Hp) (bs:List Res) (pa:List (Nat × Oper × Value)),cnt (st listed) n=m+1->okT ops n D [] p=true ->
   fZ dfs P ops n w0 N E (xB l p) pa L H bs->GT dfs P ops l w0 n N a0 E listed a W val dec D L H bs pa->(p=.done\/p=.no\/∃ i k r q,p=.alt i k r q)->wpAny P .any ops Q (m+1+(ops.size - n)) listed a W:=by
   intro p listed a W val dec D L H bs pa hm hok hF I hp;obtain ⟨k0,hk0,hun0,hbelow⟩:=IH (st listed) n aD;have hk0s:k0<ops.size:=by have:=F.lt;omega
   have hready0:k0∈Region.ready .any ops listed:=by
    refine mem_ready.2 ⟨hun0,ops[k0],Array.getElem?_eq_getElem hk0s,λe he hb=>?_⟩;have hlt:=F.back k0 _ (Array.getElem?_eq_getElem hk0s) e he hb;have:=hbelow e.on hlt;have hsz:e.on<listed.size:=by rw [I.head.size];omega
    simpa [st,hsz] using this
   rw [show m+1+(ops.size - n)=(m+(ops.size - n))+1 by omega];refine ⟨λh0=>(by rw [h0] at hready0;cases hready0),λj hj=>?_⟩
   have hjn:j<n:=by
    rcases jG j n with h | h
    ·exact h
    ·exact absurd hj (CS F.sink F.chain I.head _ k0 rfl hk0 rfl hun0 j h)
   obtain ⟨hun,oj,hoj,hall⟩:=mem_ready.1 hj
   have hcnt:cnt (st (listed.setIfInBounds j true)) n=m:=by
    have:=DM (st listed) (st (listed.setIfInBounds j true)) j fW hun (λk hk=>kU hk) n hjn;omega
   have hS:∀ k,k<n->Region.waitsFor .any ops j k=true->st listed k=true:=by
    intro k hk hw;obtain ⟨oi,hoi,e,he,hb,hon⟩:=Region.waitsFor_spec hw;obtain rfl:oi=oj:=bL (hoi.symm.trans hoj);have h1:=hall e he hb;rw [hon] at h1;have hsz:k<listed.size:=by rw [I.head.size];have:=F.lt;omega
    simp [hsz] at h1;simp [st,hsz,h1]
   have hev:∀ t∈oj.looksAt ops,a.eval (.tmp t)=(frm ops val dec n a0).eval (.tmp t):=λt ht=>by
    rw [I.frame];exact sB F hjn hoj (λk hk hw=>⟨hS k hk hw,I.sub k hk (hS k hk hw),Z⟩) t ht
   cases hd:dec j with
   | true =>
    have hy:Yq P ops oj (val j) a W:=Yq.same (λcs b=>F.sel j oj cs b hoj) hev (I.light j oj hjn hoj hd hun W I.world);exact hy.wpOp hoj λW' hx=>ih p _ _ _ _ _ _ _ _ _ _ hcnt hok hF (I.step F hjn hoj hj hd hx)
   | false =>
    have hjD:D.contains j=false:=(I.set j).symm.trans hd
    have hch:p=.no\/∃ i k r q',p=.alt i k r q':=by
     rcases hp with rfl | rfl | h
     ·exfalso
      simp only [okT,aE] at hok;have:=bD.1 hok.2 j (bZ.2 hjn);rw [hjD] at this;cases this
     ·exact .inl Z
     ·exact .inr h
    obtain ⟨k,r,h1,h2,h3,h4,h5⟩:=PI hl hjn hjD (λi hi hin=>by
     cases hre:mW ops n j i with
     | false=>rfl
     | true =>
      have h2:=pY I.head n j i hre (λok hok e he hb=>by
       obtain rfl:ok=oj:=bL (hok.symm.trans hoj);exact hall e he hb)
      have h3:st listed i=false:=by
       cases h:st listed i with
       | false=>rfl
       | true=>have:=I.sub i hin h;rw [I.set i,hi] at this;cases this
      rw [getD_both h3] at h2;cases h2) p [] hch hok (λi hi=>by cases hi) hF
    have hoj2:=hop j hjn;obtain rfl:oj=l[j]! := bL (hoj.symm.trans hoj2);refine OB hoj (λcs b=>F.sel j _ cs b hoj) hev (λb W' ⟨v,H',bs',hf,_⟩=>hf.defers) I.full.defers ?_ (h5 _ W I.full I.world);rintro v W' ⟨v',H',bs',hf,hs,hw,hp'⟩
    have hvv:putL (l[j]!).dst v' L=putL (l[j]!).dst v L:=by
     cases hdst:(l[j]!).dst with
     | none=>rfl
     | some t =>
      rw [hdst] at hf;have h1:=hf.slot t v' (by unfold putL look;rw [mL,lN]);have h2:t<N:=h4 t hdst;have h3:=(I.full.put (by simpa [rD] using h2) v).slot t v (by unfold look;rw [mL,lN]);rw [h3] at h1;rw [h1]
    rw [hvv] at hp';exact ih r _ _ _ _ _ _ _ _ _ _ hcnt h3 hp' (I.heavy F hjn hoj hjD h1 h2 h4 hj hs hw)
  intro p;induction p with
  | done=>exact λlisted a W val dec D L H bs pa hm hok hF I=>one_step _ listed a W val dec D L H bs pa hm hok hF I (.inl Z)
  | no=>exact λlisted a W val dec D L H bs pa hm hok hF I=>one_step _ listed a W val dec D L H bs pa hm hok hF I (.inr (.inl Z))
  | alt i k r q _ _=>exact λlisted a W val dec D L H bs pa hm hok hF I=>one_step _ listed a W val dec D L H bs pa hm hok hF I (.inr (.inr ⟨_,_,_,_,Z⟩))
  | light i r ihr =>
   intro listed a W val dec D L H bs pa hm hok hF I;simp only [okT,aE,aB,eT] at hok;obtain ⟨⟨⟨⟨_,hi⟩,hiD⟩,hwt⟩,hok'⟩:=hok;unfold xB fZ at hF;obtain ⟨v,hy,hN,hF'⟩:=hF;exact ihr listed a W _ _ _ _ H bs _ hm hok' hF' (I.decide F hi (hop i hi) hiD hwt hy hN)
theorem cP6 {id:Nat} {l:List Oper} {p:PlT} {Q:Exit->Act->World->Prop} {L:Sl} {H:Hp} {bs:List Res} (n:Nat) (p0:Pi0) (hm:P.follows .mixedOrders=true) (hB:(bD5 l.toArray n [] && okT l.toArray n [] [] p0)=true) (ht:xB l p0=p)
 (h:fZ dfs P l.toArray n w0 N (λL H bs=>At dfs N L H w0 bs (wpList P l.toArray Q (l.drop n))) p [] L H bs):At dfs N L H w0 bs ((Code.region id l.toArray true).wp P Q):=by
 simp only [aE] at hB;obtain ⟨h1,h2⟩:=hB;have F:=Fit.of h1;have hlt:n<l.length:=by simpa using F.lt
 subst ht;intro a W f s;refine wp_region_any hm ?_;have hsz:l.toArray.size=l.length:=by simp
 have hc0:∀ m,m<=n->cnt (st (Array.replicate l.toArray.size false)) m=m:=by
  intro m;induction m with
  | zero=>intro _;rfl
  | succ m ih =>
   intro hm;unfold cnt;rw [ih aD]
   have:st (Array.replicate l.toArray.size false) m=false:=by
    have:m<l.length:=aD
    simp [st,this]
   rw [this];simp
 have hfrm:∀ (val:Nat->Value) (m:Nat),frm l.toArray val (λ_=>false) m a=a:=λval m=>by
  induction m with
  | zero=>rfl
  | succ m ih=>unfold frm;simp [ih]
 have hall:∀ m,m<=n->∀ k,k<m->st (Array.replicate l.toArray.size false) k=false:=λm hm k hk=>by
  have:k<l.length:=aD
  simp [st,this]
 have hh:HeadInv .any l.toArray n (Array.replicate l.toArray.size false):=by
  refine ⟨by simp,λj oj hj hl=>?_,λt ht ht'=>?_⟩
  ·exfalso
   rcases jG j l.length with h | h
   ·simp [h] at hl
   ·simp [h] at hl
  ·have:t<l.length:=by simpa using ht'
   simp [this]
 have key:=aE5 (Q:=Q) (a0:=a) (l:=l) rfl F (λL H bs h=>by simpa using h) n p0 (Array.replicate l.toArray.size false) a _ (λ_=>undef) (λ_=>false) [] L H bs [] (hc0 n (aY _)) h2 h
  ⟨hh,?_,by rw [hfrm];exact f,?_,s.more ((Ext.refl W).drew),λ_ _ _ _ h=>(by cases h),λ_ _ _ _ h=>(by cases h),λ_=>rfl,λ_ _ _ _ h=>(by cases h)⟩
 ·have:n+(l.toArray.size - n)=l.toArray.size:=by rw [hsz];omega
  rw [this] at key;exact key
 ·rw [kP (λ_=>undef) (λ_=>undef) _ (λ_=>false) a n (λk hk=>⟨hall n (aY _) k hk,λ_=>rfl⟩),hfrm]
 ·intro i hi hs;rw [hall n (aY _) i hi] at hs;cases hs
end
section
variable {dfs:List Deferred} {P:Program} {n:Nat} {L:Sl} {H:Hp} {w0:World} {bs:List Res} {Q:Exit->Act->World->Prop} {ops:Array Oper} {rest:List Oper} {K:Act->World->Prop}
variable {d:Option Tmp} {ty:TypeId} {pos:String} {aft:Array Edge} {g:Option (Nat × Bool)} {v:Value} {t:Tmp} {op:Op} {x y z:Operand} {T T':TypeId}
variable {N hn:Nat} {pa:List (Nat × Oper × Value)} {E:Sl->Hp->List Res->Prop} {r q:PlT} {i k:Nat}
def rI (dfs:List Deferred) (P:Program) (ops:Array Oper) (n:Nat) (w0:World) (N:Nat) (E:Sl->Hp->List Res->Prop) (i k:Nat) (o:Oper) (r:PlT) (pa:List (Nat × Oper × Value)) (L:Sl) (H:Hp) (bs:List Res):Prop :=
 (∀ t,o.dst=some t->t<N)/\At dfs N L H w0 bs (one P ops (λ_ _ _=>False) o λa' W'=>∃ v H' bs',Fr dfs N (putL o.dst v L) a'/\St H' w0 bs' W'/\(k=1\/(∀ W,St H' w0 bs' W->St H w0 bs W)\/iV dfs P ops n w0 N L H' bs' i pa)/\fZ dfs P ops n w0 N E r pa (putL o.dst v L) H' bs')
theorem fZ.h1 {o:Oper} (h:rI dfs P ops hn w0 N E i k o r pa L H bs):fZ dfs P ops hn w0 N E (.alt i k o r .no) pa L H bs:=⟨h,Jt⟩
theorem fZ.h {o:Oper} (h:rI dfs P ops hn w0 N E i k o r pa L H bs) (hq:fZ dfs P ops hn w0 N E q pa L H bs):fZ dfs P ops hn w0 N E (.alt i k o r q) pa L H bs:=⟨h,hq⟩
theorem fZ.nn:fZ dfs P ops hn w0 N E .no pa L H bs:=trivial
theorem fZ.yv (hy:Yl P L H w0 bs ⟨some t,op,ty,pos,aft,none⟩ v) (ht:Nat.blt t N=true) (h:fZ dfs P ops hn w0 N E r ((i,⟨some t,op,ty,pos,aft,none⟩,v)::pa) ((t,v)::L) H bs):fZ dfs P ops hn w0 N E (.light i ⟨some t,op,ty,pos,aft,none⟩ r) pa L H bs :=
 ⟨v,λa W f s=>.inl ⟨by simp [Region.wanted],hy a W (λx u e=>f.ev e) s⟩,oV ht,h⟩
theorem fZ.m (hx:ev L x=some v) (ht:Nat.blt t N=true) (h:fZ dfs P ops hn w0 N E r ((i,⟨some t,.move x,ty,pos,aft,none⟩,v)::pa) ((t,v)::L) H bs):fZ dfs P ops hn w0 N E (.light i ⟨some t,.move x,ty,pos,aft,none⟩ r) pa L H bs:=.yv (.move hx) ht h
theorem fZ.a (hx:ev L x=some v) (ht:Nat.blt t N=true) (h:fZ dfs P ops hn w0 N E r ((i,⟨some t,.assign x,ty,pos,aft,none⟩,v)::pa) ((t,v)::L) H bs):fZ dfs P ops hn w0 N E (.light i ⟨some t,.assign x,ty,pos,aft,none⟩ r) pa L H bs:=.yv (.assign hx) ht h
theorem rI.into {H':Hp} {bs':List Res} (hw:k=1\/(∀ W,St H' w0 bs' W->St H w0 bs W)\/iV dfs P ops hn w0 N L H' bs' i pa) (h:fZ dfs P ops hn w0 N E r pa ((t,v)::L) H' bs') :
 At dfs N ((t,v)::L) H' w0 bs' (λa' W'=>∃ v H' bs',Fr dfs N (putL (some t) v L) a'/\St H' w0 bs' W'/\(k=1\/(∀ W,St H' w0 bs' W->St H w0 bs W)\/iV dfs P ops hn w0 N L H' bs' i pa)/\fZ dfs P ops hn w0 N E r pa (putL (some t) v L) H' bs'):=λ_ _ f s=>⟨v,H',bs',f,s,hw,h⟩
theorem rI.al {l:List Value} (hz:nA P T=some l) (ht:Nat.blt t N=true) (h:∀ b,fZ dfs P ops hn w0 N E r pa ((t,.pointer (dI b))::L) H (.box b l T::bs)):rI dfs P ops hn w0 N E i k ⟨some t,.alloc T,ty,pos,aft,none⟩ r pa L H bs :=
 ⟨oV ht,alloc hz ht λb=>rI.into (.inr<|.inl λ_ s=>s.drop) (h b)⟩
theorem rI.bl {ps:List (Nat × Operand)} {pv:List (Nat × Value)} {len:Nat} {e:TypeId} {l:List Value} (hv:evp L ps=some pv) (hb:pG P T len pv=some (e,l)) (ht:Nat.blt t N=true)
 (h:∀ b,fZ dfs P ops hn w0 N E r pa ((t,.slice (dI b) len len)::L) H (.box b l e::bs)):rI dfs P ops hn w0 N E i k ⟨some t,.buildSlice T len ps.toArray,ty,pos,aft,none⟩ r pa L H bs :=
 ⟨oV ht,buildSlice hv hb ht λb=>rI.into (.inr<|.inl λ_ s=>s.drop) (h b)⟩
theorem rI.xt {X:Type} {f:FuncId} {xs:List Operand} {vs:List Value} {ats:Array TypeId} {C:X->Hp->Prop} {val:X->Value} (hv:evs L xs=some vs)
 (hc:∀ W,St H w0 bs W->Calls P f vs.toArray W λe W'=>∃ x H',C x H'/\e=.returned (val x)/\wV H W H' W') 
 (h:∀ x H',C x H'->HUp w0 H H'->fZ dfs P ops hn w0 N E r pa ((t,val x)::L) H' bs) (hf:kM P f=true:=by kernel_rfl) (ht:Nat.blt t N=true:=by rfl):rI dfs P ops hn w0 N E i k ⟨some t,.call ⟨.value (.func f),xs.toArray,ats⟩,ty,pos,aft,none⟩ r pa L H bs :=
 ⟨oV ht,bM4 hf hv hc ht λx H' hx u=>rI.into (.inr<|.inl λ_ s=>s.weakH u.up) (h x H' hx u)⟩
theorem rI.x3 {X:Type} {f:FuncId} {xs:List Operand} {vs:List Value} {ats:Array TypeId} {C:X->Prop} {val:X->Value} {H':X->Hp} {bs':X->List Res} (hv:evs L xs=some vs)
 (hc:∀ W,St H w0 bs W->Calls P f vs.toArray W λe W'=>∃ x,C x/\e=.returned (val x)/\St (H' x) w0 (bs' x) W') 
 (hr:∀ x,C x->iV dfs P ops hn w0 N L (H' x) (bs' x) i pa) (h:∀ x,C x->fZ dfs P ops hn w0 N E r pa ((t,val x)::L) (H' x) (bs' x)) (hf:kM P f=true:=by kernel_rfl) (ht:Nat.blt t N=true:=by rfl):rI dfs P ops hn w0 N E i 2 ⟨some t,.call ⟨.value (.func f),xs.toArray,ats⟩,ty,pos,aft,none⟩ r pa L H bs :=
 ⟨oV ht,aN1 hf hv hc ht λx hx=>rI.into (.inr<|.inr<|hr x hx) (h x hx)⟩
theorem fZ.fn {l tl:List Oper} {nn:Nat} (ht:l.drop nn=tl) (h:At dfs N L H w0 bs (wpList P ops Q tl)):fZ dfs P ops hn w0 N (λL H bs=>At dfs N L H w0 bs (wpList P ops Q (l.drop nn))) .done pa L H bs:=by
 subst ht;exact h
theorem At.ft {id:Nat} {l:List Oper} {p:PlT} (nn:Nat) (p0:Pi0) (hm:P.follows .mixedOrders=true) (hB:(bD5 l.toArray nn [] && okT l.toArray nn [] [] p0)=true) (ht:xB l p0=p)
 (h:fZ dfs P l.toArray nn w0 n (λL H bs=>At dfs n L H w0 bs (wpList P l.toArray Q (l.drop nn))) p [] L H bs):At dfs n L H w0 bs ((Code.region id l.toArray true).wp P Q):=cP6 nn p0 hm hB ht h
end
end Go.Sx

namespace Go.Sx
open Go.RowKit Go.Par
section
variable {dfs:List Deferred} {P:Program} {L:Sl} {H H':Hp} {w0:World} {bs bs':List Res} {ty:TypeId} {pos:String} {aft:Array Edge} {t:Tmp} {op:Op} {ops:Array Oper} {N hn i n j:Nat} {pa:List (Nat × Oper × Value)} {E:Sl->Hp->List Res->Prop} {r:List (Nat × Nat × Oper)} {rest:List Oper} {Q:Exit->Act->World->Prop} {o:Oper} {v:Value} {b c:Bool} {u:Tmp}
theorem fZ.yw {r:PlT} (hy:Yl P L H w0 bs ⟨some t,op,ty,pos,aft,none⟩ v) (h:fZ dfs P ops hn w0 N E r ((i,⟨some t,op,ty,pos,aft,none⟩,v)::pa) ((t,v)::L) H bs) (ht:Nat.blt t N=true:=by rfl):fZ dfs P ops hn w0 N E (.light i ⟨some t,op,ty,pos,aft,none⟩ r) pa L H bs:=.yv hy ht h
theorem fZ.mv {r:PlT} {x:Operand} (hx:ev L x=some v) (h:fZ dfs P ops hn w0 N E r ((i,⟨some t,.move x,ty,pos,aft,none⟩,v)::pa) ((t,v)::L) H bs) (ht:Nat.blt t N=true:=by rfl):fZ dfs P ops hn w0 N E (.light i ⟨some t,.move x,ty,pos,aft,none⟩ r) pa L H bs:=.m hx ht h
end
section
variable {dfs:List Deferred} {P:Program} {L:Sl} {H H':Hp} {w0:World} {bs bs':List Res} {ty:TypeId} {pos:String} {aft:Array Edge} {t:Tmp} {op:Op} {ops:Array Oper} {N hn i n j:Nat} {pa:List (Nat × Oper × Value)} {E:Sl->Hp->List Res->Prop} {r:List (Nat × Nat × Oper)} {rest:List Oper} {Q:Exit->Act->World->Prop} {o:Oper} {v:Value} {b c:Bool} {u:Tmp}
theorem fZ.fA {x:Operand} {T:TypeId} {k a off o':Nat} {r:PlT} (hp:ev L x=some (.pointer (some ⟨a,off,none⟩))) (hF:dU P T k=some o') (h:fZ dfs P ops hn w0 N E r ((i,⟨some t,.fieldAddr T x k,ty,pos,aft,none⟩,(.pointer (some ⟨a,off+o',none⟩)))::pa) ((t,(.pointer (some ⟨a,off+o',none⟩)))::L) H bs) (ht:Nat.blt t N=true:=by rfl):fZ dfs P ops hn w0 N E (.light i ⟨some t,.fieldAddr T x k,ty,pos,aft,none⟩ r) pa L H bs:=.yv (.fieldAddr hp hF) ht h
theorem fZ.lD {x:Operand} {T t':TypeId} {a off:Nat} {l:List Value} {r:PlT} (hp:ev L x=some (.pointer (some ⟨a,off,none⟩))) (hT:jI P T=some none) (hm:Res.box a l t'∈bs) (hv:l[off]? = some v) (h:fZ dfs P ops hn w0 N E r ((i,⟨some t,.load T x,ty,pos,aft,none⟩,v)::pa) ((t,v)::L) H bs) (ht:Nat.blt t N=true:=by rfl):fZ dfs P ops hn w0 N E (.light i ⟨some t,.load T x,ty,pos,aft,none⟩ r) pa L H bs:=.yv (.load hp hT hm hv) ht h
theorem fZ.nC {x:Operand} {p:Addr} {r:PlT} (hx:ev L x=some (.pointer (some p))) (h:fZ dfs P ops hn w0 N E r ((i,⟨some t,.nilCheck x,ty,pos,aft,none⟩,(.pointer (some p)))::pa) ((t,(.pointer (some p)))::L) H bs) (ht:Nat.blt t N=true:=by rfl):fZ dfs P ops hn w0 N E (.light i ⟨some t,.nilCheck x,ty,pos,aft,none⟩ r) pa L H bs:=.yv (.nilCheck hx) ht h
end
def uS (H:Hp) (v:Value) (n:Nat) (xs:List Value):Prop:=(v=.slice none 0 0/\n=0)\/∃ b c,v=.slice (some ⟨b,0,none⟩) n c/\n<=c/\c<=maxLen/\EA H b 0 xs
variable {H:Hp} {v:Value} {z:Nat}
theorem uS.rep {n:Nat} {xs:List Value} {ds:List D} (h:uS H v n xs) (hz:dT H z ds xs) (hn:ds.length=n):Rep H (.seq z ds) [v]:=by
 rcases h with ⟨rfl,rfl⟩ | ⟨b,c,rfl,h1,h2,h3⟩
 ·obtain rfl:=bK hn;exact .empty (by simp [maxLen])
 ·exact .mk h3 hz hn h1 h2
theorem uS.sl {n:Nat} {xs:List Value} (h:uS H v n xs):∃ p c,v=.slice p n c:=by
 rcases h with ⟨rfl,rfl⟩ | ⟨b,c,rfl,_⟩
 ·exact ⟨_,_,Z⟩
 ·exact ⟨_,_,Z⟩
variable {bs bs':List Res}
theorem Upd.new {x y:Res} (h:Upd bs x y bs'):y∈bs':=by
 induction h with
 | head=>exact .head _
 | tail _ ih=>exact .tail _ ih
variable {H':Hp}
theorem uS.up {n:Nat} {xs:List Value} (h:uS H v n xs) (u:Up H H'):uS H' v n xs:=by
 rcases h with h | ⟨b,c,e,h1,h2,h3⟩
 ·exact .inl h
 ·exact .inr ⟨b,c,e,h1,h2,h3.up u⟩
section
variable {dfs:List Deferred} {P:Program} {n:Nat} {L:Sl} {H:Hp} {w0:World} {bs:List Res} {Q:Exit->Act->World->Prop} {ops:Array Oper} {rest:List Oper} {K:Act->World->Prop}
variable {d:Option Tmp} {ty:TypeId} {pos:String} {aft:Array Edge} {v:Value} {t:Tmp} {x y:Operand} {T:TypeId}
theorem St.boxRowZ {b m z:Nat} {l:List Value} {e:TypeId} {W:World} (h:St H w0 (.box b l e::bs) W) (hz:l.length=m * z) (hl:m<=maxLen):St H w0 (.row e z (.slice (dI b) m m) m l::bs) W:=by
 have hb:=h.own _ Hm;refine ⟨h.ext,h.agr,λx hx=>?_,?_,h.lo⟩
 ·rcases bM.1 hx with rfl | hx
  ·exact ⟨⟨hz,.inr ⟨b,m,l.toArray,Z,hb.1.1,hb.1.2,aY _,hl,by simpa using hz,by rw [<-hz];simp⟩⟩,λc e=>hb.2 c e⟩
  ·exact h.own x (.tail _ hx)
 ·have h1:=h.apart;rw [jQ] at h1|-;exact ⟨λz hz c e=>h1.1 z hz c e,h1.2⟩
theorem cA8 {e:TypeId} {size bytes m k:Nat} {r v:Value} {xs news:List Value} {bs':Value->List Res} (hT:tQ P T=some (e,size,bytes)) (hx:ev L x=some r) (hm:∀ r',Upd bs (.row e size r k xs) (.row e size r' (k+m) (xs++news)) (bs' r'))
 (hy:ev L y=some v) (hs:uS H v m news) (hl:news.length=m * size) (h1:∀ u∈news,u.oneCell'=true) (h63:k+m<=maxLen) (hb:(k+m) * bytes<=140737488355328) (ht:Nat.blt t n=true)
 (h:∀ r',At dfs n ((t,r')::L) H w0 (bs' r') K):At dfs n L H w0 bs (one P ops Q ⟨some t,.call ⟨.builtin .append,#[x,y],#[T,T]⟩,ty,pos,aft,none⟩ K):=by
 rcases hs with ⟨rfl,rfl⟩ | ⟨b,c,rfl,_,_,hmem⟩
 ·have hn:news=[]:=bK (by rw [hl,nU]);subst hn;have e2:bs' r=bs:=(hm r).same (by rw [jH,eL]);have h2:=h r;rw [e2] at h2;exact aG3 hT hx (hm r).mem hy ht h2
 ·exact VT hT hx hm hy (λW s j u e=>by rw [Addr.add_lit];exact hmem.mem.cell s.agr e) hl h1 h63 hb ht λr' _=>h r'
variable {N hn i:Nat} {pa:List (Nat × Oper × Value)} {E:Sl->Hp->List Res->Prop} {q:PlT}
theorem rI.apR {e:TypeId} {size bytes m k:Nat} {r v:Value} {xs news:List Value} {bs':Value->List Res} (hT:tQ P T=some (e,size,bytes)) (hx:ev L x=some r) (hm:∀ r',Upd bs (.row e size r k xs) (.row e size r' (k+m) (xs++news)) (bs' r'))
 (hy:ev L y=some v) (hs:uS H v m news) (hl:news.length=m * size) (h1:∀ u∈news,u.oneCell'=true) (h63:k+m<=maxLen) (hb:(k+m) * bytes<=140737488355328) (ht:Nat.blt t N=true)
 (hr:∀ r',iV dfs P ops hn w0 N L H (bs' r') i pa) (h:∀ p c,fZ dfs P ops hn w0 N E q pa ((t,.slice p (k+m) c)::L) H (bs' (.slice p (k+m) c))):rI dfs P ops hn w0 N E i 2 ⟨some t,.call ⟨.builtin .append,#[x,y],#[T,T]⟩,ty,pos,aft,none⟩ q pa L H bs :=
 ⟨oV ht,cA8 hT hx hm hy hs hl h1 h63 hb ht λr'=>At.ra (hm r').new λp c e=>by subst e;exact rI.into (.inr<|.inr<|hr _) (h p c)⟩
theorem rI.blR {ps:List (Nat × Operand)} {pv:List (Nat × Value)} {len z k:Nat} {e:TypeId} {l:List Value} (hv:evp L ps=some pv) (hb:pG P T len pv=some (e,l)) (ht:Nat.blt t N=true) (hz:l.length=len * z) (hl:len<=maxLen)
 (h:∀ b,fZ dfs P ops hn w0 N E q pa ((t,.slice (dI b) len len)::L) H (.row e z (.slice (dI b) len len) len l::bs)):rI dfs P ops hn w0 N E i k ⟨some t,.buildSlice T len ps.toArray,ty,pos,aft,none⟩ q pa L H bs :=
 ⟨oV ht,buildSlice hv hb ht λb=>reSt (λ_ s=>s.boxRowZ hz hl) (rI.into (.inr<|.inl λ_ s=>s.drop) (h b))⟩
theorem freezeAt {e:TypeId} {size k:Nat} {r:Value} {xs:List Value} {G:Act->World->Prop} (h:∀ H',HUp w0 H H'->uS H' r k xs->At dfs n L H' w0 bs G):At dfs n L H w0 (.row e size r k xs::bs) G :=
 SK λH' u hr=>h H' u (by
  rcases hr with h | ⟨b,c,e,h1,h2,h3⟩
  ·exact .inl h
  ·exact .inr ⟨b,c,e,h1,h2,h3⟩)
end
section
variable {dfs:List Deferred} {P:Program} {n:Nat} {L:Sl} {H:Hp} {w0:World} {bs:List Res} {Q:Exit->Act->World->Prop} {ops:Array Oper} {rest:List Oper} {K:Act->World->Prop}
variable {d:Option Tmp} {ty:TypeId} {pos:String} {aft:Array Edge} {v:Value} {t:Tmp} {x y:Operand} {T:TypeId}
theorem VS {e:TypeId} {size bytes m c k:Nat} {p:Option Addr} {r:Value} {xs:List Value} {ds:List D} {bs':List Value->Value->List Res} (hT:tQ P T=some (e,size,bytes)) (hx:ev L x=some r)
 (hm:∀ news r',Upd bs (.row e size r k xs) (.row e size r' (k+m) (xs++news)) (bs' news r')) (hy:ev L y=some (.slice p m c)) (hr:Rep H (.seq size ds) [.slice p m c])
 (h63:k+m<=maxLen) (hb:(k+m) * bytes<=140737488355328) (ht:Nat.blt t n=true)
 (h:∀ news r',dT H size ds news->At dfs n ((t,r')::L) H w0 (bs' news r') K):At dfs n L H w0 bs (one P ops Q ⟨some t,.call ⟨.builtin .append,#[x,y],#[T,T]⟩,ty,pos,aft,none⟩ K):=by
 have hlen:=hr.len;unfold Rep at hr;obtain ⟨p',c',h1,h2,h3,h4⟩:=hr;injection h1 with h1 _
 injection h1 with e1 e2 e3
 subst e1 e3;rcases h4 with h4 | ⟨b,off,cs,rfl,hmem,hz,_⟩
 ·subst h4;obtain rfl:m=0:=e2;cases p with
  | some A=>exact VT hT hx (hm []) hy (λW s j u e=>by simp at e) fG fG h63 hb ht λr' _=>h [] r' .nil
  | none =>
   obtain ⟨hu,i,z,hi,hz,hsz,hby,hzs,h0⟩:=AG hT;have e4:bs' [] r=bs:=(hm [] r).same (by rw [jH,eL]);have h5:=h [] r .nil;rw [e4] at h5;intro a W f s;refine nR rfl ?_;unfold Oper.wp;have hown:W.ownsRow w0.heap.size e size r k xs:=(s.own _ (hm [] r).mem).1
   have hrun:(Builtin.append_ #[T,T] ty #[r,.slice none 0 c]).run P W=.ok r W:=by
    rcases hown.2 with ⟨rfl,rfl⟩ | ⟨g,cap,cur,rfl,hbg,hgc,hnc,hcm,hcs,htake⟩
    ·simp [Builtin.append_,run_underlying hu,sizeOf,typeInfo,hi,Builtin.lenOf,Builtin.firstCells]
    ·simp [Builtin.append_,run_underlying hu,sizeOf,typeInfo,hi,Builtin.lenOf,Builtin.firstCells,hnc,storeCells]
   simp [execOp,resolve,invoke,builtin,f.ev hx,f.ev hy,hrun,Result.andThen,Oper.upon];exact h5 _ _ (f.put ht _) s
 ·exact VT hT hx (hm cs) hy (λW s j u e=>by rw [Addr.add_lit];exact hmem.cell s.agr e) (by rw [hz.len,e2]) hz.one h63 hb ht λr' _=>h cs r' hz
theorem At.apD {e:TypeId} {size bytes m c k:Nat} {p:Option Addr} {r:Value} {xs:List Value} {ds:List D} {bs':List Value->Value->List Res} (hT:tQ P T=some (e,size,bytes)) (hx:ev L x=some r)
 (hm:∀ news r',Upd bs (.row e size r k xs) (.row e size r' (k+m) (xs++news)) (bs' news r')) (hy:ev L y=some (.slice p m c)) (hr:Rep H (.seq size ds) [.slice p m c])
 (h63:k+m<=maxLen) (hb:(k+m) * bytes<=140737488355328) (ht:Nat.blt t n=true)
 (h:∀ news r',dT H size ds news->At dfs n ((t,r')::L) H w0 (bs' news r') (wpList P ops Q rest)):At dfs n L H w0 bs (wpList P ops Q (⟨some t,.call ⟨.builtin .append,#[x,y],#[T,T]⟩,ty,pos,aft,none⟩::rest)):=cons (VS hT hx hm hy hr h63 hb ht h)
theorem At.blR {ps:List (Nat × Operand)} {pv:List (Nat × Value)} {len z:Nat} {e:TypeId} {l:List Value} (hv:evp L ps=some pv) (hb:pG P T len pv=some (e,l)) (ht:Nat.blt t n=true) (hz:l.length=len * z) (hl:len<=maxLen)
 (h:∀ b,At dfs n ((t,.slice (dI b) len len)::L) H w0 (.row e z (.slice (dI b) len len) len l::bs) (wpList P ops Q rest)):At dfs n L H w0 bs (wpList P ops Q (⟨some t,.buildSlice T len ps.toArray,ty,pos,aft,none⟩::rest)) :=
 .bl hv hb ht λb=>reSt (λ_ s=>s.boxRowZ hz hl) (h b)
theorem At.rs {e:TypeId} {size k:Nat} {r:Value} {xs:List Value} {G:Act->World->Prop} (hm:Res.row e size r k xs∈bs) (hk:0<k) (h:∀ g c,r=.slice (dI g) k c->At dfs n L H w0 bs G):At dfs n L H w0 bs G:=λa W f s=>by
 have ho:W.ownsRow w0.heap.size e size r k xs:=(s.own _ hm).1;rcases ho.2 with ⟨hr,h0⟩ | ⟨g,cap,cur,hr,_⟩
 ·omega
 ·exact h g cap hr a W f s
theorem Yl.loadR {e:TypeId} {size k g c off m:Nat} {xs vs:List Value} (hp:ev L x=some (.pointer (some ⟨g,off,none⟩))) (hT:jI P T=some (some m)) (hm:Res.row e size (.slice (dI g) k c) k xs∈bs) (hl:vs.length=m) (hv:∀ (j:Nat) u,vs[j]? = some u->xs[off+j]? = some u) {gd:Option (Nat × Bool)}:Yl P L H w0 bs ⟨d,.load T x,ty,pos,aft,gd⟩ (.agg vs.toArray):=.of_run λa W f s=>by
 subst hl;have ho:W.ownsRow w0.heap.size e size (.slice (dI g) k c) k xs:=(s.own _ hm).1;obtain ⟨h1,h2⟩:=vU (W:=W) hT
 have h3:(loadCells ⟨g,off,none⟩ vs.length).run P W=.ok vs.toArray W:=run_loadCells_list W _ vs λj u e=>by
  have:=World.ownsRow.cells ho (g:=g) rfl (off+j) u (hv j u e);rw [Addr.add_lit,dO] at this;rw [Addr.add_lit];exact this
 unfold execOp;simp only [f x _ hp,Instr.loadAt,Instr.sureAddr,loadVar,Sem.run_bind,Sem.run_pure,Result.andThen,h1,h2,dC,h3]
theorem Yl.fld {i:Nat} {u:Value} (hx:ev L x=some v) (hr:∀ W,(Instr.field T v i).run P W=.ok u W) {gd:Option (Nat × Bool)}:Yl P L H w0 bs ⟨d,.field T x i,ty,pos,aft,gd⟩ u:=.of_run λa W f s=>by
 unfold execOp;simp only [f x _ hx,Sem.run_bind,hr W,Result.andThen,Sem.run_pure]
theorem JJ:∀ (vs l more:List Value) (off:Nat),off+vs.length<=l.length->pE (l++more) off vs=pE l off vs++more
 | [],l,more,off,_=>rfl
 | v::r,l,more,off,h=>by
  unfold pE;rw [aF] at h;rw [List.set_append_left _ _ aD];exact JJ r (l.set off v) more (off+1) (by rw [List.length_set];omega)
theorem KT:∀ (vs p l:List Value) (off:Nat),pE (p++l) (p.length+off) vs=p++pE l off vs
 | [],p,l,off=>rfl
 | v::r,p,l,off=>by
  unfold pE;rw [lQ _ _ aD,show p.length+off - p.length=off by omega,fP];exact KT r p (l.set off v) (off+1)
theorem dT.put {H:Hp} {z:Nat} {d:D} {vs:List Value} (hd:Rep H d vs) (hz:vs.length=z):∀ {ds:List D} {l:List Value} {i:Nat},dT H z ds l->i<ds.length->dT H z (ds.set i d) (pE l (i * z) vs)
 | [],l,i,_,hi=>by simp at hi
 | d0::r,l,0,h,_=>by
  unfold dT at h;obtain ⟨x,y,rfl,h1,h2,h3⟩:=h;rw [rK,nU,JJ _ _ _ _ aD];have:=JK vs [] x aD;simp only [dE,aH] at this;rw [this];unfold dT;exact ⟨vs,y,Z,hz,hd,h3⟩
 | d0::r,l,i+1,h,hi=>by
  unfold dT at h;obtain ⟨x,y,rfl,h1,h2,h3⟩:=h;have:=dT.put hd hz (i:=i) h3 (by simpa using hi);rw [List.set_cons_succ,show (i+1) * z=x.length+i * z by rw [h1,hU];omega,KT];unfold dT;exact ⟨x,_,Z,h1,h2,this⟩
theorem AD:∀ (vs l:List Value) (off:Nat),(pE l off vs).length=l.length
 | [],l,off=>rfl
 | v::r,l,off=>by unfold pE;rw [AD r,List.length_set]
variable {N hn i:Nat} {pa:List (Nat × Oper × Value)} {E:Sl->Hp->List Res->Prop} {q:PlT} {fr:List (Nat × Nat × Oper)}
theorem dW.apD {e:TypeId} {size bytes m c k:Nat} {p:Option Addr} {r:Value} {xs:List Value} {ds:List D} {bs':List Value->Value->List Res} (hT:tQ P T=some (e,size,bytes)) (hx:ev L x=some r)
 (hm:∀ news r',Upd bs (.row e size r k xs) (.row e size r' (k+m) (xs++news)) (bs' news r')) (hy:ev L y=some (.slice p m c)) (hr:Rep H (.seq size ds) [.slice p m c])
 (h63:k+m<=maxLen) (hb:(k+m) * bytes<=140737488355328) (ht:Nat.blt t N=true)
 (hr2:∀ news r',iV dfs P ops hn w0 N L H (bs' news r') i pa) (h:∀ news p c,dT H size ds news->dW dfs P ops hn w0 N E fr pa ((t,.slice p (k+m) c)::L) H (bs' news (.slice p (k+m) c))) :
 dW dfs P ops hn w0 N E ((i,3,⟨some t,.call ⟨.builtin .append,#[x,y],#[T,T]⟩,ty,pos,aft,none⟩)::fr) pa L H bs :=
 ⟨oV ht,VS hT hx hm hy hr h63 hb ht λnews r' hz=>At.ra (hm news r').new λp c e=>by subst e;exact dW.into (.inr<|.inr<|hr2 _ _) (h news p c hz)⟩
end
section
variable {dfs:List Deferred} {P:Program}
variable {n:Nat} {L:Sl} {H:Hp} {w0:World} {bs:List Res} {d:Option Tmp} {ty:TypeId} {pos:String} {aft:Array Edge} {g:Option (Nat × Bool)} {x y:Operand} {T T':TypeId}
end
variable {l:List Value} {k:Nat}
theorem bA1 {vs:List Value} (h:(l.drop k).take vs.length=vs):∀ (j:Nat) u,vs[j]? = some u->l[k+j]? = some u:=λj u hj=>by
 rw [<-h,List.getElem?_take] at hj
 split at hj
 ·rw [List.getElem?_drop] at hj;exact hj
 ·cases hj
section
variable {dfs:List Deferred} {P:Program} {n:Nat} {L:Sl} {H:Hp} {w0:World} {bs:List Res} {Q:Exit->Act->World->Prop} {ops:Array Oper} {rest:List Oper} {K:Act->World->Prop}
variable {d:Option Tmp} {ty:TypeId} {pos:String} {aft:Array Edge} {v:Value} {t:Tmp} {x:Operand}
theorem Yl.mkF {fn:Fn} {fs cs:List Operand} {fi ca:List Value} {g:Option (Nat × Bool)} (h1:evs L fs=some fi) (h2:evs L cs=some ca):Yl P L H w0 bs ⟨d,.makeFunc fn fs.toArray cs.toArray,ty,pos,aft,g⟩ (.func fn fi.toArray ca.toArray):=.of_run λa W f _=>by
 unfold execOp;simp [EQ f h1,EQ f h2,Instr.makeFunc]
theorem Fr.know {a:Act} {p:Value} (f:Fr dfs n L a) (h:look L t=some p):Fr dfs n ((t,p)::L) a:=⟨f.size,f.defers,λs u e=>by
 unfold look at e;cases hb:Nat.beq t s
 ·rw [hb,cond_false] at e;exact f.slot s u e
 ·rw [hb,lN] at e;rw [<-lP hb,<-bL e];exact f.slot t p h⟩
theorem At.cr {y z:Code} {p:Bool} (hc:look L t=some (.bool p)) (h1:p=true->At dfs n ((t,.bool true)::L) H w0 bs (y.wp P Q)) (h2:p=false->At dfs n ((t,.bool false)::L) H w0 bs (z.wp P Q)):At dfs n L H w0 bs ((Code.cond (.tmp t) y z).wp P Q) :=
 At.cd (t:=p) (by exact hc) (λe a W f s=>h1 e a W (f.know (e ▸ hc)) s) (λe a W f s=>h2 e a W (f.know (e ▸ hc)) s)
/-! ### Stores in a drawn region's head -/
section
variable {N hn i:Nat} {pa:List (Nat × Oper × Value)} {E:Sl->Hp->List Res->Prop} {r:List (Nat × Nat × Oper)} {T:TypeId} {y:Operand} {bs':List Res}
theorem dW.into0 (hr:iV dfs P ops hn w0 N L H bs' i pa) (h:dW dfs P ops hn w0 N E r pa L H bs') :
 At dfs N L H w0 bs' (λa' W'=>∃ v H' bs'',Fr dfs N (putL none v L) a'/\St H' w0 bs'' W'/\(2=1\/(∀ W,St H' w0 bs'' W->St H w0 bs W)\/iV dfs P ops hn w0 N L H' bs'' i pa)/\dW dfs P ops hn w0 N E r pa (putL none v L) H' bs''):=λ_ _ f s=>⟨undef,H,bs',f,s,.inr (.inr hr),h⟩
theorem dW.sW {b:Nat} {l vs:List Value} {t':TypeId} (hm:Upd bs (.box b l t') (.box b vs t') bs') (hp:ev L x=some (.pointer (dI b))) (hv:ev L y=some (.agg vs.toArray)) (hT:gQ P T=some vs.length) (h1:∀ u∈vs,u.oneCell'=true) (ho:l.length=vs.length)
 (hr:iV dfs P ops hn w0 N L H bs' i pa) (h:dW dfs P ops hn w0 N E r pa L H bs'):dW dfs P ops hn w0 N E ((i,3,⟨none,.store T x y,ty,pos,aft,none⟩)::r) pa L H bs :=
 ⟨λ_ e=>(by cases e),NR hp hv hT h1 hm ho (into0 hr h)⟩
end
section
variable {N hn i k:Nat} {pa:List (Nat × Oper × Value)} {E:Sl->Hp->List Res->Prop} {r:PlT} {T:TypeId} {y:Operand} {bs':List Res}
theorem rI.blF {ps:List (Nat × Operand)} {pv:List (Nat × Value)} {len:Nat} {e:TypeId} {l:List Value} (hv:evp L ps=some pv) (hb:pG P T len pv=some (e,l)) (ht:Nat.blt t N=true)
 (h:∀ b H1,HUp w0 H H1->EA H1 b 0 l->fZ dfs P ops hn w0 N E r pa ((t,.slice (dI b) len len)::L) H1 bs):rI dfs P ops hn w0 N E i k ⟨some t,.buildSlice T len ps.toArray,ty,pos,aft,none⟩ r pa L H bs :=
 ⟨oV ht,buildSlice hv hb ht λb=>freezeBoxN λH1 u m=>rI.into (.inr<|.inl λ_ s=>s.weakH u.up) (h b H1 u m)⟩
theorem rI.into0 (hr:iV dfs P ops hn w0 N L H bs' i pa) (h:fZ dfs P ops hn w0 N E r pa L H bs') :
 At dfs N L H w0 bs' (λa' W'=>∃ v H' bs'',Fr dfs N (putL none v L) a'/\St H' w0 bs'' W'/\(k=1\/(∀ W,St H' w0 bs'' W->St H w0 bs W)\/iV dfs P ops hn w0 N L H' bs'' i pa)/\fZ dfs P ops hn w0 N E r pa (putL none v L) H' bs''):=λ_ _ f s=>⟨undef,H,bs',f,s,.inr (.inr hr),h⟩
theorem rI.sW {b:Nat} {l vs:List Value} {t':TypeId} (hm:Upd bs (.box b l t') (.box b vs t') bs') (hp:ev L x=some (.pointer (dI b))) (hv:ev L y=some (.agg vs.toArray)) (hT:gQ P T=some vs.length) (h1:∀ u∈vs,u.oneCell'=true) (ho:l.length=vs.length)
 (hr:iV dfs P ops hn w0 N L H bs' i pa) (h:fZ dfs P ops hn w0 N E r pa L H bs'):rI dfs P ops hn w0 N E i k ⟨none,.store T x y,ty,pos,aft,none⟩ r pa L H bs :=
 ⟨λ_ e=>(by cases e),NR hp hv hT h1 hm ho (rI.into0 hr h)⟩
end
end
section
variable {dfs:List Deferred} {P:Program} {L:Sl} {H:Hp} {w0:World} {bs:List Res} {ops:Array Oper}
variable {ty:TypeId} {pos:String} {aft:Array Edge} {t:Tmp}
variable {N hn i k:Nat} {pa:List (Nat × Oper × Value)} {E:Sl->Hp->List Res->Prop} {r:List (Nat × Nat × Oper)} {T:TypeId}
theorem dW.blF {ps:List (Nat × Operand)} {pv:List (Nat × Value)} {len:Nat} {e:TypeId} {l:List Value} (hv:evp L ps=some pv) (hb:pG P T len pv=some (e,l)) (ht:Nat.blt t N=true)
 (h:∀ b H1,HUp w0 H H1->EA H1 b 0 l->dW dfs P ops hn w0 N E r pa ((t,.slice (dI b) len len)::L) H1 bs):dW dfs P ops hn w0 N E ((i,k+1,⟨some t,.buildSlice T len ps.toArray,ty,pos,aft,none⟩)::r) pa L H bs :=
 ⟨oV ht,buildSlice hv hb ht λb=>freezeBoxN λH1 u m=>dW.into (.inr<|.inl λ_ s=>s.weakH u.up) (h b H1 u m)⟩
end
class FW (F:Fence):Prop where
 fn:∀ f,F.fn f
 depth:F.depth=none
 calls:∀ {n:Nat} {P:Program} {f:FuncId} {args:Array Value} {w:World} {R:Ending->World->Prop},Calls P f args w R->CallsIn F n P f args w R
 rows:∀ {n:Nat} {P:Program} {r:String} {args:Array Value} {w:World} {R:Value->World->Prop},Rows P r args w R->RowsIn F n P r args w R
instance:FW Fence.wide:=⟨λ_=>trivial,Z,λh=>callsIn_wide.2 h,λh c cs _=>let ⟨v,w',r,s⟩:=h c cs;⟨v,w',r,stepsIn_wide.2 s⟩⟩
instance {l:Nat}:FW (Fence.wide.inRound l):=⟨λ_=>trivial,Z,λh=>CallsIn.inRound l (callsIn_wide.2 h),λh c cs _=>let ⟨v,w',r,s⟩:=h c cs;⟨v,w',r,stepsIn_wide.2 s⟩⟩
section
variable {dfs:List Deferred} {P:Program} {n m:Nat} {L:Sl} {H:Hp} {w0:World} {bs:List Res} {Q:Exit->Act->World->Prop} {ops:Array Oper} {rest:List Oper} {K:Act->World->Prop} {F:Fence}
variable {d:Option Tmp} {ty:TypeId} {pos:String} {aft:Array Edge} {g:Option (Nat × Bool)} {v:Value} {t:Tmp} {op:Op} {x y:Operand} {T:TypeId}
theorem aA0 [hF:FW F] {o:Oper} {a:Act} {w:World} (hd:∀ c,o.op≠.defer c) (h:o.wp P a w K (λ_ _ _=>False)):o.wpIn F m P a w K Q:=by
 unfold Oper.wpIn;refine ⟨λf _=>hF.fn f,?_⟩;rw [Oper.semAt_plain F _ _ hd];unfold Oper.wp at h;generalize (execOp a.eval o).run P w=r at *;cases r with
 | ok z w' =>
  cases z <;> simp only [Oper.upon] at h <;> simp only [Oper.uponIn]
  case value u=>exact h
  case skip=>exact h
  case defer d=>exact h
  case enter f args =>
   refine ⟨λe=>(by rw [hF.depth] at e;cases e),hF.calls (h.mono ?_)⟩;intro e w'' q;cases e with
   | returned v=>exact q
   | panicked c=>exact q.elim
   | outgrown=>obtain ⟨_,_,q⟩:=q;exact q.elim
  case row rw args=>exact ⟨λe=>(by rw [hF.depth] at e;cases e),hF.rows h⟩
 | halt z w' =>
  cases z <;> simp only [Oper.upon] at h
theorem bL6 [hF:FW F] {o:Oper} (hd:∀ c,o.op≠.defer c) (h:At dfs n L H w0 bs (one P ops (λ_ _ _=>False) o (wpListIn F m P ops Q rest))):At dfs n L H w0 bs (wpListIn F m P ops Q (o::rest)):=by
 intro a W f s;have h1:=h a W f s;unfold one at h1;unfold wpListIn;cases hw:Region.wanted o (yielded ops a.tmps) with
 | true =>
  rw [hw] at h1;simp only [dC] at h1|-;rcases h1 with h1 | ⟨_,_,_,h1⟩
  ·exact aA0 hd h1
  ·exact h1.elim
 | false =>
  rw [hw] at h1;simp only [aM,cZ] at h1|-;exact ⟨λf _=>hF.fn f,h1⟩
theorem At.rgI {id:Nat} {l:List Oper} (h:At dfs n L H w0 bs (wpListIn F m P l.toArray Q l)):At dfs n L H w0 bs ((Code.region id l.toArray false).wpIn F m P Q):=λa W f s=>wpIn_region_lit (h a W f s)
theorem At.rgW {id:Nat} {l:List Oper} (m:Nat) (h:At dfs n L H w0 bs (wpListIn Fence.wide m P l.toArray Q l)):At dfs n L H w0 bs ((Code.region id l.toArray false).wp P Q):=λa W f s=>wpIn_wide.1 (wpIn_region_lit (h a W f s))
theorem At.nlI (h:At dfs n L H w0 bs (Q .normal)):At dfs n L H w0 bs (wpListIn F m P ops Q []):=h
theorem At.yvI [FW F] (hy:Yl P L H w0 bs ⟨some t,op,ty,pos,aft,none⟩ v) (ht:Nat.blt t n=true) (h:At dfs n ((t,v)::L) H w0 bs (wpListIn F m P ops Q rest)) (hd:∀ c,op≠.defer c:=by intro c e;cases e):At dfs n L H w0 bs (wpListIn F m P ops Q (⟨some t,op,ty,pos,aft,none⟩::rest)):=bL6 hd (yl hy ht h)
theorem At.mI [FW F] (hx:ev L x=some v) (ht:Nat.blt t n=true) (h:At dfs n ((t,v)::L) H w0 bs (wpListIn F m P ops Q rest)):At dfs n L H w0 bs (wpListIn F m P ops Q (⟨some t,.move x,ty,pos,aft,none⟩::rest)):=.yvI (.move hx) ht h
theorem At.alI [FW F] {l:List Value} (hz:nA P T=some l) (ht:Nat.blt t n=true) (h:∀ b,At dfs n ((t,.pointer (some ⟨b,0,none⟩))::L) H w0 (.box b l T::bs) (wpListIn F m P ops Q rest)):At dfs n L H w0 bs (wpListIn F m P ops Q (⟨some t,.alloc T,ty,pos,aft,none⟩::rest)):=bL6 (by intro c e;cases e) (alloc hz ht h)
theorem At.sWI [FW F] {b:Nat} {l vs:List Value} {t':TypeId} {bs':List Res} (hm:Upd bs (.box b l t') (.box b vs t') bs') (hp:ev L x=some (.pointer (dI b))) (hv:ev L y=some (.agg vs.toArray)) (hT:gQ P T=some vs.length) (h1:∀ u∈vs,u.oneCell'=true) (ho:l.length=vs.length) (h:At dfs n L H w0 bs' (wpListIn F m P ops Q rest)) :
 At dfs n L H w0 bs (wpListIn F m P ops Q (⟨none,.store T x y,ty,pos,aft,none⟩::rest)):=bL6 (by intro c e;cases e) (NR hp hv hT h1 hm ho h)
end
/-! ### The caller's side of a range over a function -/
section
variable {H:Hp} {w0 W W':World} {bs:List Res}
theorem St.beside {row:Option Nat} (s:St H w0 bs W) (g:W.grownBy W' row) (hr:∀ r,row=some r->w0.heap.size<=r/\H r=none/\∀ x∈bs,x.blk≠some r):St H w0 bs W':=by
 have hb:∀ k,k<W.heap.size->(∀ r,row=some r->k≠r)->W'.heap[k]? = W.heap[k]? := λk hk hn=>g.block k hk (λe=>hn k e.symm rfl);refine ⟨?_,⟨?_,aZ s.agr.lo g.size⟩,?_,s.apart,s.lo⟩
 ·have e:=s.ext;unfold Ext at e|-;refine ⟨g.os.trans e.os,g.tape.trans e.tape,g.output.trans e.output,aZ e.size g.size,λk hk=>?_⟩;exact (hb k (eK hk e.size) (λr e' h=>by have:=(hr r e').1;omega)).trans (e.block k hk)
 ·intro b o e;have:=s.agr b o e;rw [hb b (sY this) (λr e' h=>by subst h;rw [(hr b e').2.1] at e;cases e)];exact this
 ·intro x hx;exact ⟨(s.own x hx).1.keep g.size (λb e=>hb b ((s.own x hx).1.lt e).2 (λr e' h=>by subst h;exact (hr b e').2.2 x hx e)),(s.own x hx).2⟩
def XP:List Res->Bool
 | []=>true
 | .box ..::r=>XP r
 | .row ..::r=>XP r
 | _::_=>false
theorem GJ:∀ {bs:List Res},XP bs=true->∀ x∈bs,∀ base,x.ok base W->∀ b,x.blk=some b->∃ o,W.heap[b]? = some o/\o.isCells=true
 | [],_,x,hx,_,_,_,_=>by cases hx
 | .box c l t::r,h,x,hx,base,ho,b,e=>by
  rcases bM.1 hx with rfl | hx
  ·obtain rfl:c=b:=bL e;exact ⟨_,ho.2,Z⟩
  ·exact GJ (bs:=r) h x hx base ho b e
 | .row et size v n xs::r,h,x,hx,base,ho,b,e=>by
  rcases bM.1 hx with rfl | hx
  ·obtain ⟨_,⟨rfl,_⟩ | ⟨g,cap,cur,rfl,hg,hc,_⟩⟩:=ho
   ·cases e
   ·obtain rfl:g=b:=bL e;exact ⟨_,hc,Z⟩
  ·exact GJ (bs:=r) h x hx base ho b e
 | .obj ..::_,h,_,_,_,_,_,_=>by cases h
 | .big ..::_,h,_,_,_,_,_,_=>by cases h
theorem UT (s:St H w0 bs W) (h:XP bs=true) {r:Nat} {o:Obj} (ho:W.heap[r]? = some o) (hc:o.isCells=false):∀ x∈bs,x.blk≠some r:=by
 intro x hx e;obtain ⟨o',h1,h2⟩:=GJ h x hx _ (s.own x hx).1 r e;rw [ho] at h1;cases h1;rw [hc] at h2;cases h2
theorem cN3 {α Z:Type} {B:Nat} {C:List α->Z->Prop} {rs:Z->List Res} (hB:w0.heap.size<=B) (hH:∀ r,B<=r->H r=none) (hn:∀ pre z,C pre z->XP (rs z)=true) :
 OwnFrom B (λpre W=>∃ z,C pre z/\St H w0 (rs z) W):=by
 rintro pre X Y row ⟨z,hz,s⟩ hg hr
 exact ⟨z,hz,s.beside hg λr e=>by
  obtain ⟨h1,o,h2,h3⟩:=hr r e;exact ⟨aZ hB h1,hH r h1,UT s (hn _ _ hz) h2 h3⟩⟩
theorem St.less {H':Hp} (s:St H' w0 bs W) (u:Up H H'):St H w0 bs W:=⟨s.ext,⟨λb o e=>s.agr b o (u b o e),u.lo ▸ s.agr.lo⟩,λx hx=>⟨(s.own x hx).1,λb e=>by
 cases h:H b with
 | none=>rfl
 | some o=>have:=(s.own x hx).2 b e;rw [u b o h] at this;cases this⟩,s.apart,u.lo ▸ s.lo⟩
theorem St.front {tl:List Res} (s:St H w0 (bs++tl) W):St H w0 bs W:=⟨s.ext,s.agr,λx hx=>s.own x (kE _ hx),(mH.1 s.apart).1,s.lo⟩
def tailOf (B:Nat) (W:World):List Res:=.big W.heap.size::(List.range' B (W.heap.size - B)).filterMap λk=>match W.heap[k]? with
 | some o=>if o.isCells then none else some (.obj k o)
 | none=>none
theorem GN {B:Nat} {x:Res} (h:x∈tailOf B W):x=.big W.heap.size\/∃ k o,x=.obj k o/\W.heap[k]? = some o/\o.isCells=false/\B<=k:=by
 rcases bM.1 h with rfl | h
 ·exact .inl Z
 ·obtain ⟨k,hk,he⟩:=rL.1 h;cases ho:W.heap[k]? with
  | none=>rw [ho] at he;cases he
  | some o =>
   rw [ho] at he;cases hc:o.isCells with
   | true=>simp [hc] at he
   | false=>exact .inr ⟨k,o,by simpa [hc] using he.symm,ho,hc,by have:=List.mem_range'_1.1 hk;omega⟩
theorem St.tailOf {B:Nat} (s:St H w0 bs W) (hn:XP bs=true) (hB:w0.heap.size<=B) (hH:∀ r,B<=r->H r=none):St H w0 (bs++tailOf B W) W:=by
 refine ⟨s.ext,s.agr,?_,mH.2 ⟨s.apart,?_,?_⟩,s.lo⟩
 ·intro x hx;rcases cJ.1 hx with hx | hx
  ·exact s.own x hx
  ·rcases GN hx with rfl | ⟨k,o,rfl,ho,hc,hk⟩
   ·exact ⟨aY _,λb e=>by cases e⟩
   ·exact ⟨⟨aZ hB hk,ho⟩,λb e=>by obtain rfl:k=b:=bL e;exact hH k hk⟩
 ·refine .cons (λy _ b e=>by cases e) ?_;refine List.Pairwise.filterMap _ ?_ (List.pairwise_lt_range' (s:=B) (n:=W.heap.size - B));intro k j hlt x hx y hy b e e'
  have key:∀ (m:Nat) (u:Res),(match W.heap[m]? with | some o=>if o.isCells then none else some (Res.obj m o) | none=>none)=some u->u.blk=some m:=by
   intro m u hu;cases ho:W.heap[m]? with
   | none=>rw [ho] at hu;cases hu
   | some o =>
    rw [ho] at hu;cases hc:o.isCells with
    | true=>simp [hc] at hu
    | false =>
     simp [hc] at hu;rw [<-hu];rfl
  have h1:=key k x hx;have h2:=key j y hy;rw [h1] at e;rw [h2] at e';cases e;cases e';omega
 ·intro x hx y hy b e e';rcases GN hy with rfl | ⟨k,o,rfl,ho,hc,hk⟩
  ·cases e'
  ·obtain rfl:k=b:=bL e';exact UT s hn ho hc x hx e
theorem St.keepsFrom {B:Nat} (s:St H w0 (bs++Sx.tailOf B W) W'):KeepsFrom B W W':=by
 refine ⟨?_,λk o hk ho hc=>?_⟩
 ·exact (s.own _ (pC _ (bH ..))).1
 ·have hm:Res.obj k o∈Sx.tailOf B W:=by
   refine cD _ (rL.2 ⟨k,List.mem_range'_1.2 ?_,?_⟩)
   ·have:=sY ho;omega
   ·rw [ho];simp [hc]
  exact ((s.own _ (pC _ hm)).1).2
def KpH (H:Hp) (W W':World):Prop:=Agr H W->Agr H W'
def rE {α Z:Type} (C:List α->Z->Prop) (rs:Z->List Res) (H:Hp) (w0:World) (tl:List Res) (xs:List α):Exit->Act->World->Prop
 | .normal,_,W=>∃ z,C xs z/\St H w0 (rs z++tl) W
 | _,_,_=>False
theorem At.rE {α Z:Type} {C:List α->Z->Prop} {rs:Z->List Res} {tl:List Res} {xs:List α} {dfs:List Deferred} {n:Nat} {L:Sl} {H':Hp} (z:Z) (u:Up H H') (hz:C xs z) (hb:bs=rs z++tl) :
 At dfs n L H' w0 bs (Sx.rE C rs H w0 tl xs .normal):=λa W f s=>⟨z,hz,by rw [<-hb];exact s.less u⟩
end
/-! ### A function with a range over a function in it -/
section
variable {P:Program} {n:Nat} {L:Sl} {H:Hp} {w0:World} {bs bs':List Res} {fn:Func} {R:Ending->World->Prop} {v:Value} {D:Nat}
theorem enterM {f:FuncId} {c:Code} {args:List Value} {w:World} (hf:P.funcs[f]? = some fn) (hb:fn.body=some c) (hn:fn.ntmps=n) (hl:Nat.ble args.length n=true) (hA:Agr H w)
 (h:At [] n (KS 0 args) H w [] (c.wp P (bodyPostM Fence.wide 9 P fn R))):Calls P f args.toArray w R:=by
 refine callsIn_wide.1 (callsIn_of_wp_marks (n:=9) hf hb trivial (wpIn_wide.2 (h _ _ ⟨?_,Z,?_⟩ (.start hA))))
 ·have:args.length<=n:=lO hl;simp [hn];omega
 ·intro t v e;obtain ⟨_,h2⟩:=HO args 0 t v e;rw [wY] at h2;have hlt:t<args.length:=(List.getElem?_eq_some_iff.1 h2).1;rw [Al_Array_getD_eq_getD_getElem?];rw [Array.getElem?_append_left (by simpa using hlt)];simp [h2]
theorem St.shut {W:World} (s:St H w0 bs W) (u:Upd bs (.obj D (.deferred (some []))) (.obj D (.deferred none)) bs'):St H w0 bs' (W.putObj D (.deferred none)):=by
 obtain ⟨h1,h2⟩:=(s.own _ u.mem).1;have hlt:=sY h2;have e:=s.ext;refine s.upd u ?_ (by simp [World.putObj]) ?_ ⟨h1,World.putObj_heap_same hlt⟩ (λb e=>.inl e)
 ·unfold Ext at e|-;exact e.grown (grownBy_putObj' W D _) aD (λk e=>by cases e;exact h1)
 ·intro b _ hne;exact World.putObj_heap_other (λh=>hne (by rw [h];rfl))
theorem retM {e:Exit} (he:e=.ret\/e=.normal) (u:Upd bs (.obj D (.deferred (some []))) (.obj D (.deferred none)) bs') (h:At [] n L H w0 bs' (bodyPost P fn R .ret)) :
 At [{ target:=.collected D,args:=#[] }] n L H w0 bs (bodyPostM Fence.wide 9 P fn R e):=by
 intro a W f s;obtain ⟨_,v,h2,h3⟩:=h { a with defers:=[] } _ ⟨f.size,Z,f.slot⟩ (s.shut u)
 have h4:LeavesInM Fence.wide 9 P fn a.tmps R a.defers .returning W:=by
  rw [f.defers];exact ⟨(by intro e;cases e),.inl ⟨D,_,Z,run_takeDeferred (s.own _ u.mem).1.2,v,h2,h3⟩⟩
 rcases he with rfl | rfl <;> exact h4
end
/-! ### The iterator's side -/
section
variable {dfs:List Deferred} {P:Program} {n m l:Nat} {L:Sl} {H:Hp} {w0:World} {bs:List Res} {Q:Exit->Act->World->Prop} {ops:Array Oper} {rest:List Oper} {F:Fence}
variable {d:Option Tmp} {ty:TypeId} {pos:String} {aft:Array Edge} {g:Option (Nat × Bool)} {t:Tmp} {x:Operand} {xs:List Operand} {vs:List Value} {ats:Array TypeId}
theorem Ext.grownBy {W W':World} (e:Ext W W'):W.grownBy W' none:=by
 unfold Ext at e;exact ⟨e.os,e.tape,e.output,e.size,λk hk _=>e.block k hk⟩
theorem AbidesFrom.ext {β:Type} {B:Nat} {J:β->World->Prop} (h:AbidesFrom B J) {s:β} {W W':World} (hs:J s W) (e:Ext W W'):J s W':=h s W W' none hs (Ext.grownBy e) (λr h=>by cases h)
theorem aE8 {a:Act} {W W':World} {r:Next} (f0:∀ x u,ev L x=some u->a.eval x=u) (hx:ev L x=some (.func (.yield l) #[] #[])) (hv:evs L xs=some vs) (hr:(Instr.yield l vs.toArray).run P W=.ok r W') :
 (execOp a.eval ⟨d,.call ⟨.value x,xs.toArray,ats⟩,ty,pos,aft,g⟩).run P W=.ok r W':=by
 unfold execOp;simp [resolve,Deferred.ofValue,f0 _ _ hx,invoke,EQ f0 hv,hr]
def noH:Hp:=⟨λ_=>none,0⟩
theorem At.yd [hF:FW F] {J Jx:World->Prop} (hx:ev L x=some (.func (.yield l) #[] #[])) (hv:evs L xs=some vs) (ht:Nat.blt t n=true)
 (hy:∀ W,St H w0 bs W->YieldAt F (m - 1) P l vs.toArray W λe W'=>(e=.returned (.bool true)/\J W'/\KpH H W W')\/(e=.returned (.bool false)/\Jx W'))
 (h1:∀ w1,J w1->At dfs n ((t,.bool true)::L) H w1 [] (wpListIn F m P ops Q rest))
 (h2:∀ w1,Jx w1->At dfs n ((t,.bool false)::L) noH w1 [] (wpListIn F m P ops Q rest)) :
 At dfs n L H w0 bs (wpListIn F m P ops Q (⟨some t,.call ⟨.value x,xs.toArray,ats⟩,ty,pos,aft,none⟩::rest)):=by
 intro a W f s;unfold wpListIn;rw [aK (by simp [Region.wanted])];unfold Oper.wpIn;refine ⟨λf _=>hF.fn f,?_⟩;rw [Oper.semAt_plain F _ _ (by intro c e;cases e)];obtain ⟨fn,tmps,assign,body,hr,hR⟩:=hy W s;rw [aE8 (λx u e=>f.ev e) hx hv hr];refine ⟨λe=>(by rw [hF.depth] at e;cases e),hR.mono ?_⟩;rintro e W' (⟨rfl,hj,hk⟩ | ⟨rfl,hj⟩)
 ·exact h1 W' hj _ _ (f.put ht _) (.start (hk s.agr))
 ·exact h2 W' hj _ _ (f.put ht _) (.start ⟨λb o e=>(by cases e),aN _⟩)
theorem At.lj {c:Code} {X:Type} (L':X->Sl) (J:X->World->Prop) (C:X->Prop) (μ:X->Nat) (x0:X) (hC:C x0) (hL:Sub L (L' x0)) (hJ:J x0 w0)
 (round:∀ x w1,C x->J x w1->At dfs n (L' x) H w1 [] (c.wp P (Exit.then (λa W=>∃ y w2,(C y/\μ y<μ x)/\J y w2/\Fr dfs n (L' y) a/\St H w2 [] W) Q))) :
 At dfs n L H w0 [] ((Code.loop c).wp P Q):=by
 intro a W f s;refine wp_loop_ghost (λm a W=>∃ x w1,μ x=m/\C x/\J x w1/\Fr dfs n (L' x) a/\St H w1 [] W) _ ⟨x0,w0,Z,hC,hJ,f.sub hL,s⟩ ?_;rintro m a W ⟨x,w1,rfl,hx,hj,f,s⟩;refine wp_mono (round x w1 hx hj a W f s) λe a' W' q=>?_;cases e <;> first | exact q | skip
 obtain ⟨y,w2,⟨hy,hlt⟩,hj,fy,sy⟩:=q;exact ⟨_,hlt,y,w2,Z,hy,hj,fy,sy⟩
theorem At.aj {X:Type} {J:X->World->Prop} {L':X->Sl} {C:X->Prop} {μ:X->Nat} {x:X} (y:X) (hC:C y) (hm:μ y<μ x) (hJ:J y w0) (hL:Sub L (L' y)) :
 At dfs n L H w0 [] (λa W=>∃ y w2,(C y/\μ y<μ x)/\J y w2/\Fr dfs n (L' y) a/\St H w2 [] W):=λ_ W f s=>⟨y,w0,⟨hC,hm⟩,hJ,f.sub hL,s⟩
theorem seqStops {α:Type} {gf:Nat} {lb:List Value} {enc:α->Value} {S:List α->Prop} {N:Nat} {w:World} {fn:Func} {c:Code} (hf:P.funcs[gf]? = some fn) (hb:fn.body=some c) (hn:fn.ntmps=n) (hl:Nat.ble (lb.length+1) n=true)
 (hA:∀ W,Ext w W->Agr H W)
 (h:∀ l (J Jx:List α->World->Prop) W,(∀ s A B,J s A->Ext A B->J s B)->(∀ s A B,Jx s A->Ext A B->Jx s B) ->
  (∀ pre x W1,J pre W1->pre.length<N->YieldAt Fence.wide 7 P l #[enc x] W1 λe W'=>(e=.returned (.bool true)/\J (pre++[x]) W'/\KpH H W1 W')\/(e=.returned (.bool false)/\Jx (pre++[x]) W')) ->
  J [] W->At [] n (KS 0 (.func (.yield l) #[] #[]::lb)) H W [] (c.wp P (bodyPost P fn λe W'=>(∃ v,e=.returned v)/\((∃ xs,S xs/\J xs W')\/(∃ pre,True/\Jx pre W'))))) :
 SeqStopsK Fence.wide 8 P gf lb.toArray (λx=>#[enc x]) (KpH H) S (λ_=>True) N w:=by
 intro l J Jx W hW hJ hJx hY h0;refine callsIn_wide.2 ?_;have:(#[Value.func (.yield l) #[] #[]]++lb.toArray:Array Value)=(Value.func (.yield l) #[] #[]::lb).toArray:=by simp
 rw [this];exact enter hf hb hn hl (hA W (by unfold Ext;exact hW)) (h l J Jx W (λs A B h e=>Sx.AbidesFrom.ext hJ h e) (λs A B h e=>Sx.AbidesFrom.ext hJx h e) hY h0)
end
section
variable {dfs:List Deferred} {P:Program} {L:Sl} {H:Hp} {w0:World} {bs:List Res} {ops:Array Oper}
variable {ty:TypeId} {pos:String} {aft:Array Edge} {t:Tmp} {x:Operand}
variable {N hn i k:Nat} {pa:List (Nat × Oper × Value)} {E:Sl->Hp->List Res->Prop} {r:List (Nat × Nat × Oper)}
end
def Qn (Q:Exit->Act->World->Prop):Exit->Act->World->Prop
 | .normal=>Q .normal
 | _=>λ_ _=>False
def cC2 (l:List Oper):Bool:=l.all λo=>match o.op with | .defer _=>false | _=>true
section
variable {dfs:List Deferred} {P:Program} {n m:Nat} {L:Sl} {H:Hp} {w0:World} {bs:List Res} {Q:Exit->Act->World->Prop} {ops:Array Oper} {F:Fence}
theorem WH [hF:FW F] {o:Oper} {a:Act} {w:World} {K:Act->World->Prop} (hd:∀ c,o.op≠.defer c) (h:o.wp P a w K (Qn Q)):o.wpIn F m P a w K Q:=by
 unfold Oper.wpIn;refine ⟨λf _=>hF.fn f,?_⟩;rw [Oper.semAt_plain F _ _ hd];unfold Oper.wp at h;generalize (execOp a.eval o).run P w=r at *;cases r with
 | ok z w' =>
  cases z <;> simp only [Oper.upon] at h <;> simp only [Oper.uponIn]
  case value u=>exact h
  case skip=>exact h
  case defer d=>exact h
  case enter f args =>
   refine ⟨λe=>(by rw [hF.depth] at e;cases e),hF.calls (h.mono ?_)⟩;intro e w'' q;cases e with
   | returned v=>exact q
   | panicked c=>exact q.elim
   | outgrown=>obtain ⟨_,_,q⟩:=q;exact q.elim
  case row rw args=>exact ⟨λe=>(by rw [hF.depth] at e;cases e),hF.rows h⟩
 | halt z w' =>
  cases z <;> simp only [Oper.upon] at h <;> exact h.elim
theorem aN7 [hF:FW F] (hd:∀ (i:Nat) o,ops[i]? = some o->∀ c,o.op≠.defer c):∀ (fuel:Nat) (listed:Array Bool) (a:Act) (w:World),wpAny P .any ops (Qn Q) fuel listed a w->wpAnyIn F m P .any ops Q fuel listed a w
 | 0,_,_,_,h=>h
 | fuel+1,listed,a,w,h=>by
  refine ⟨h.1,λi hi=>?_⟩;have h1:=h.2 i hi;unfold wpOp at h1;unfold wpOpIn;cases ho:ops[i]? with
  | none =>
   rw [ho] at h1;exact aN7 hd fuel _ _ _ h1
  | some o =>
   rw [ho] at h1;dsimp only at h1|-;cases hw:Region.wanted o (yielded ops a.tmps) with
   | true =>
    rw [hw] at h1;simp only [dC] at h1|-;rcases h1 with h1 | ⟨_,_,_,h1⟩
    ·exact Oper.wpIn_mono (λa w k=>aN7 hd fuel _ a w k) (WH (hd i o ho) h1)
    ·exact h1.elim
   | false =>
    rw [hw] at h1;simp only [aM,cZ] at h1|-;exact ⟨λf _=>hF.fn f,aN7 hd fuel _ _ _ h1⟩
theorem bE8 {l:List Oper} (h:cC2 l=true):∀ (i:Nat) o,l.toArray[i]? = some o->∀ c,o.op≠.defer c:=by
 intro i o ho c e;have hm:o∈l:=Al_List_mem_of_getElem? (by simpa using ho);have:=bD.1 h o hm;rw [e] at this;cases this
theorem At.flI [FW F] {id:Nat} {l:List Oper} {trip:List (Nat × Nat × Oper)} (nn:Nat) (ord:List (Nat × Nat)) (hm:P.follows .mixedOrders=true) (hB:SL l.toArray nn ord=true) (hd:cC2 l=true) (ht:ord.map (λx=>(x.1,x.2,l[x.1]!))=trip)
 (h:dW dfs P l.toArray nn w0 n (λL H bs=>At dfs n L H w0 bs (wpList P l.toArray (Qn Q) (l.drop nn))) trip [] L H bs):At dfs n L H w0 bs ((Code.region id l.toArray true).wpIn F m P Q) :=
 λa W f s=>wpIn_region_any hm (aN7 (bE8 hd) _ _ _ _ (aL7 nn ord hB ht h a W f s))
theorem At.nlQ (h:At dfs n L H w0 bs (Q .normal)):At dfs n L H w0 bs (wpList P ops (Qn Q) []):=h
theorem At.bkI {id:Nat} {c:Code} (h:At dfs n L H w0 bs (c.wpIn F m P (Exit.inBlock id Q))):At dfs n L H w0 bs ((Code.block id c).wpIn F m P Q):=λa W f s=>wpIn_block (h a W f s)
end
structure Apx (H:Hp) (p:Nat) (fx:List Res) (TX:TypeId) (cs:List Value) (b:Nat) (W:World):Prop where
 blk:W.heap[b]? = some (.cells cs.toArray TX (0,0))
 new:H b=none
 head:∃ u l t m,W.heap[p]? = some (.cells (u::l).toArray t m)/\u.ownBlock≠some b
 ne:b≠p
 fix:∀ x∈fx,x.blk≠some b
variable {b:Nat} {cs:List Value}
theorem Apx.grow {p:Nat} {fx:List Res} {TX:TypeId} {A B:World} {row:Option Nat} (h:Apx H p fx TX cs b A) (g:A.grownBy B row) (hr:∀ r,row=some r->∃ o:Obj,A.heap[r]? = some o/\o.isCells=false):Apx H p fx TX cs b B:=by
 have key:∀ {k:Nat} {arr:Array Value} {t:TypeId} {m:Nat × Nat},A.heap[k]? = some (Obj.cells arr t m)->B.heap[k]? = some (Obj.cells arr t m):=λ{k arr t m} hk=>by
  rw [<-hk];refine g.block k (sY hk) λe=>?_;obtain ⟨o,h1,h2⟩:=hr k e.symm;rw [hk] at h1;cases h1;cases h2
 obtain ⟨u,l,t,m,h1,h2⟩:=h.head;exact ⟨key h.blk,h.new,⟨u,l,t,m,key h1,h2⟩,h.ne,h.fix⟩
section
variable {H:Hp} {w0:World}
def rsB (e:TypeId) (size p:Nat) (T:TypeId) (fx:List Res) (v:Value) (k:Nat) (xs l:List Value):List Res:=.row e size v k xs::.box p (v::l) T::fx
theorem Apx.of {p b size k:Nat} {e T TX:TypeId} {fx tl:List Res} {v:Value} {xs l cs:List Value} {W:World} (s:St H w0 (.box b cs TX::(rsB e size p T fx v k xs l++tl)) W):Apx H p fx TX cs b W:=by
 have hb:=s.own _ (bH ..);have ha:=(jQ.1 s.apart).1;refine ⟨hb.1.2,hb.2 b rfl,⟨v,l,T,_,(s.own (.box p (v::l) T) (by simp [rsB])).1.2,λe=>ha (.row _ _ v _ _) (by simp [rsB];exact .inl ⟨Z,Z,Z,Z⟩) b rfl e⟩,λe=>ha (.box p (v::l) T) (by simp [rsB]) b rfl (by rw [e];rfl),λx hx e=>ha x (by simp [rsB,hx]) b rfl e⟩
theorem Apx.st {p b size k:Nat} {e T TX:TypeId} {fx:List Res} {v:Value} {xs l cs:List Value} {W:World} (h:Apx H p fx TX cs b W) (s:St H w0 (rsB e size p T fx v k xs l) W):St (QH H b (.cells cs.toArray TX (0,0))) w0 (rsB e size p T fx v k xs l) W:=by
 refine ⟨s.ext,⟨λc o hc=>?_,s.agr.lo⟩,λx hx=>⟨(s.own x hx).1,λc hc=>?_⟩,s.apart,s.lo⟩
 ·by_cases e:c=b
  ·subst e;rw [EK] at hc;rw [<-hc];exact h.blk
  ·rw [vV e] at hc;exact s.agr c o hc
 ·rw [vV,(s.own x hx).2 c hc];intro e;subst e;unfold rsB at hx;rcases bM.1 hx with rfl | hx
  ·obtain ⟨u,l2,t,m,h1,h2⟩:=h.head;have h3:=(s.own (.box p (v::l) T) (by simp [rsB])).1.2;rw [h1] at h3;have h4:(u::l2).toArray=(v::l).toArray:=by injection h3 with h3;injection h3
   have h5:=congrArg Array.toList h4;simp only [bV] at h5;rw [h5.1] at h2;exact h2 hc
  ·rcases bM.1 hx with rfl | hx
   ·exact h.ne (bL hc).symm
   ·exact h.fix x hx hc
theorem cD7 {b:Nat} {o:Obj} (h:H b=none):Up H (QH H b o):=by
 refine ⟨λc x hc=>?_,Z⟩;rw [vV]
 ·exact hc
 ·intro e;subst e;rw [h] at hc;cases hc
theorem At.rfB {α Z:Type} {bs:List Res} {dfs:List Deferred} {P:Program} {n:Nat} {L:Sl} {Q:Exit->Act->World->Prop} {g:Operand} {pt:Tmp} {assign body:Code} {gf:Nat} {lb:Array Value} {enc:α->Value} {S:List α->Prop} {N:Nat} {e T TX:TypeId} {size p:Nat} {fx:List Res}
 (C:List α->Z->Prop) (v:Z->Value) (k:Z->Nat) (xs l:Z->List Value) (z0:Z) (L2:α->Nat->Sl) (cx:α->List Value)
 (hg:ev L g=some (.func (.func gf) #[] lb)) (eg:∀ args w,(callFunc gf args).run P w=.ok (.enter gf args) w) (ht:Nat.blt pt n=true)
 (hseq:∀ w,Agr H w->SeqStopsK Fence.wide 8 P gf lb (λx=>#[enc x]) (KpH H) S (λ_=>True) N w)
 (h0:C [] z0) (hb:bs=rsB e size p T fx (v z0) (k z0) (xs z0) (l z0)) (hn:XP fx=true)
 (hass:∀ l x bs' K,(∀ b,At [] n (L2 x b) H w0 (.box b (cx x) TX::bs') K)->At [] n ((pt,enc x)::L) H w0 bs' (assign.wpIn (Fence.wide.inRound l) 7 P (Exit.then K (λ_ _ _=>False))))
 (hbody:∀ l' pre x z tl b H2,C pre z->pre.length<N->Up H H2->lW H2 b 0 (cx x)->At [] n (L2 x b) H2 w0 (rsB e size p T fx (v z) (k z) (xs z) (l z)++tl) (body.wpIn (Fence.wide.inRound l') 7 P (Sx.rE C (λz=>rsB e size p T fx (v z) (k z) (xs z) (l z)) H w0 tl (pre++[x]))))
 (hdone:∀ D ys z,S ys->C ys z->At ({ target:=.collected D,args:=#[] }::dfs) n L H w0 (.obj D (.deferred (some []))::rsB e size p T fx (v z) (k z) (xs z) (l z)) (Q .normal)) :
 At dfs n L H w0 bs ((Code.rangeFunc g #[pt] assign body).wp P Q):=by
 intro a W f s;subst hb;have hnz:∀ z,XP (rsB e size p T fx (v z) (k z) (xs z) (l z))=true:=λz=>hn;have hB:w0.heap.size<=W.heap.size:=s.ext.size;have hH:∀ r,W.heap.size<=r->H r=none:=λr hr=>s.agr.lt hr
 refine (wpIn_wide (n:=9)).1 (wpIn_rangeFunc_ownH (n:=9) (ps:=#[pt]) (α:=α) (N:=N) (S:=S) (Sp:=λ_=>True) (encs:=λx=>#[enc x]) (Kp:=KpH H) (w0:=W) rfl aS (f.ev hg) trivial eg (hseq W s.agr) (λh k q=>k (h q)) ?_ (Below.refl _ _) (λ_=>rfl)
  (λpre W=>∃ z,C pre z/\St H w0 (rsB e size p T fx (v z) (k z) (xs z) (l z)) W) (λ_ _ _=>False) (cN3 hB hH λ_ z _=>hnz z) (λ_ _ _ _ _ h _ _=>h.elim) ⟨z0,h0,s⟩ (λx a' W=>∃ b,Fr [] n (L2 x b) a'/\Apx H p fx TX (cx x) b W)
  (λx a' _ A B row h hg hr=>by obtain ⟨b,h1,h2⟩:=h;exact ⟨b,h1,h2.grow hg λr e=>(hr r e).2⟩) ?_ ?_ ?_ (λ_ _ _ _ _ _ h=>h.elim))
 ·intro W1 l o o' hl ho _ _ q;refine ⟨λb ob e=>?_,by have:=q.lo;simpa [World.putObj] using this⟩;have hne:b≠l:=λh=>by subst h;rw [hH b hl] at e;cases e
  exact (World.putObj_heap_other hne).trans (q b ob e)
 ·rintro l' pre x W1 K ⟨z,hz,s1⟩ hK
  have f1:Fr [] n ((pt,enc x)::L) { tmps:=(#[pt].zip #[enc x]).foldl (λt (p,v)=>t.setIfInBounds p v) a.tmps,defers:=[] }:=by
   have f2:Fr [] n L { a with defers:=[] }:=⟨f.size,rfl,f.slot⟩;have e:(#[pt].zip #[enc x]).foldl (λt (x:Tmp × Value)=>match x with | (p,v)=>t.setIfInBounds p v) a.tmps=a.tmps.setIfInBounds pt (enc x):=by simp
   rw [e];exact f2.put ht (enc x)
  refine hass l' x _ K ?_ _ W1 f1 (s1.tailOf (hnz z) hB hH);intro b a' W2 f' s2;have s3:=s2.drop;exact hK a' W2 s3.keepsFrom (λ_=>s3.agr) ⟨z,hz,s3.front⟩ ⟨b,f',Apx.of s2⟩
 ·rintro l' pre x a' W1 hl _ ⟨z,hz,s1⟩ ⟨b,f',hx⟩ hlen;have s2:=hx.st s1;have hH2:∀ r,W1.heap.size<=r->QH H b (Obj.cells (cx x).toArray TX (0,0)) r=none:=λr hr=>s2.agr.lt hr;have ht:=s1.tailOf (B:=W.heap.size) (hnz z) hB hH
  have s4:St (QH H b (.cells (cx x).toArray TX (0,0))) w0 (rsB e size p T fx (v z) (k z) (xs z) (l z)++Sx.tailOf W.heap.size W1) W1:=by
   refine ⟨ht.ext,s2.agr,λy hy=>?_,ht.apart,ht.lo⟩;rcases cJ.1 hy with h | h
   ·exact s2.own y h
   ·refine ⟨(ht.own y hy).1,λc hc=>?_⟩;rw [vV,(ht.own y hy).2 c hc];rintro rfl;rcases GN h with rfl | ⟨d,o,rfl,ho,hc2,_⟩
    ·cases hc
    ·obtain rfl:d=c:=bL hc;rw [hx.blk] at ho;cases ho;cases hc2
  refine wpIn_mono (hbody l' pre x z _ b _ hz hlen (cD7 hx.new) ⟨_,_,_,aK rfl,λj u e=>by simpa using e⟩ a' W1 f' s4) ?_;intro e a2 W2 h;cases e with
  | normal =>
   obtain ⟨z',hz',s2⟩:=h;exact ⟨s2.keepsFrom,λ_=>s2.agr,z',hz',s2.front⟩
  | _=>exact h.elim
 ·rintro D ys W1 hD hS ⟨z,hz,s1⟩ hd;refine hdone D ys z hS hz _ W1 ⟨f.size,by show _::_=_;rw [f.defers],f.slot⟩ ⟨s1.ext,s1.agr,?_,.cons ?_ s1.apart,s1.lo⟩
  ·intro x hx;rcases bM.1 hx with rfl | hx
   ·exact ⟨⟨aZ hB hD,hd⟩,λb e=>by obtain rfl:D=b:=bL e;exact hH D hD⟩
   ·exact s1.own x hx
  ·intro y hy b e e';obtain rfl:D=b:=bL e;exact UT s1 (hnz z) hd rfl y hy e'
end
variable {w0 W:World}
theorem St.put1 {x y:Res} (h:St H w0 bs W) (u:Upd bs x y bs') (hy:y.ok w0.heap.size W) (hb:∀ b,y.blk=some b->x.blk=some b):St H w0 bs' W :=
 h.upd u h.ext (aY _) (λ_ _ _=>rfl) hy (λb e=>.inl (hb b e))
/-! ### A drawn region without an operation that waits for all others: each order of the heavy ones -/
structure WE (ops:Array Oper) (n:Nat):Prop where
 all:n=ops.size
 sel:∀ (j:Nat) (o:Oper) (cs:Array SelectCase) (b:Bool),ops[j]? = some o->o.op≠.select cs b
 back:∀ i o,ops[i]? = some o->∀ e∈o.after,Region.binds .any e=true->e.on<i
 apart:∀ j k,j<n->k<n->j≠k->∀ d,kL ops j=some d->kL ops k≠some d
 look:∀ i o,i<n->ops[i]? = some o->∀ t∈o.looksAt ops,∀ j,j<n->kL ops j=some t->Region.waitsFor .any ops i j=true
def bV0 (ops:Array Oper) (n:Nat):Bool :=
 Region.noSelect ops && decide (n=ops.size) &&
 (List.range ops.size).all (λi=>((ops[i]?).map λo=>o.after.all λe=>!Region.binds .any e || decide (e.on<i)).getD true) &&
 (List.range n).all (λi=>(List.range n).all λj=>decide (i=j) || (kL ops i).isNone || kL ops i != kL ops j) &&
 (List.range n).all (λi=>((ops[i]?).map λo=>(o.looksAt ops).all λt=>(List.range n).all λj=>kL ops j != some t || Region.waitsFor .any ops i j).getD true)
theorem WE.of {ops:Array Oper} {n:Nat} (h:bV0 ops n=true):WE ops n:=by
 simp only [bV0,aE,aB] at h;obtain ⟨⟨⟨⟨h1,h2⟩,h5⟩,h6⟩,h7⟩:=h;refine ⟨h2,Region.noSelect_spec h1,?_,?_,?_⟩
 ·intro i o ho e he hb;have hi:i<ops.size:=(Array.getElem?_eq_some_iff.1 ho).1;have:=bD.1 h5 i (bZ.2 hi);simp only [ho,nJ,kR,mZ] at this;have:=this e he;simpa [hb] using this
 ·intro j k hj hk hne d hd;have:=bD.1 (bD.1 h6 j (bZ.2 hj)) k (bZ.2 hk);simp only [hd,hne,CK,aT,Option.isNone_some,bne_iff_ne] at this;exact λe=>this e.symm
 ·intro i o hi ho t ht j hj hd;have:=bD.1 h7 i (bZ.2 hi);simp only [ho,nJ,kR] at this;have:=bD.1 (bD.1 this t ht) j (bZ.2 hj);simpa [hd] using this
section
variable {dfs:List Deferred} {P:Program} {ops:Array Oper} {w0:World} {n N:Nat}
variable {l:List Oper} {a0:Act} {E:Sl->Hp->List Res->Prop} {Q:Exit->Act->World->Prop} {listed:Array Bool} {a:Act} {W:World} {val:Nat->Value} {dec:Nat->Bool} {D A:List Nat} {L:Sl} {H:Hp} {bs:List Res} {pa:List (Nat × Oper × Value)}
theorem BP (F:WE ops n) {a0:Act} {v1 v2:Nat->Value} {S1 S2:Nat->Bool} {i:Nat} {o:Oper} (hi:i<n) (ho:ops[i]? = some o)
 (h:∀ j,j<n->Region.waitsFor .any ops i j=true->S1 j=true/\S2 j=true/\v1 j=v2 j) (t:Tmp) (ht:t∈o.looksAt ops) :
 (frm ops v1 S1 n a0).eval (.tmp t)=(frm ops v2 S2 n a0).eval (.tmp t):=by
 by_cases hw:∃ j,j<n/\kL ops j=some t
 ·obtain ⟨j,hj,hd⟩:=hw;obtain ⟨h1,h2,h3⟩:=h j hj (F.look i o hi ho t ht j hj hd);rw [OX _ S1 a0 t j h1 hd n hj (λk hk hne e=>F.apart k j hk hj hne t e hd),OX _ S2 a0 t j h2 hd n hj (λk hk hne e=>F.apart k j hk hj hne t e hd),h3]
 ·rw [EO _ S1 a0 t n (λk hk _ hd=>hw ⟨k,hk,hd⟩),EO _ S2 a0 t n (λk hk _ hd=>hw ⟨k,hk,hd⟩)]
theorem YF (F:WE ops n) {i:Nat} {o:Oper} {v:Value} (hi:i<n) (ho:ops[i]? = some o) (hd:dec i=false) :
 frm ops (upd val i v) (upd dec i true) n a0=(frm ops val dec n a0).put o.dst v:=by
 have e1:kL ops i=o.dst:=by simp [kL,ho]
 rw [uP (upd val i v) dec (upd dec i true) a0 i (gY _ _ _) hd (λk hk=>eO _ _ hk) n hi F.apart,gY,e1]
 congr 1
 refine kP _ _ _ _ a0 n λk _=>⟨Z,λhk=>eO _ _ λe=>?_⟩;subst e;rw [hd] at hk;cases hk
theorem GT.decideE (F:WE ops n) {i:Nat} {o:Oper} (I:GT dfs P ops l w0 n N a0 E listed a W val dec D L H bs pa) (hi:i<n) (ho:ops[i]? = some o) (hiD:D.contains i=false) (hwt:((List.range n).all λj=>!Region.waitsFor .any ops i j || D.contains j)=true)
 {v:Value} (hy:∀ a W,Fr dfs N L a->St H w0 bs W->Yq P ops o v a W) (hN:∀ t,o.dst=some t->t<N) :
 GT dfs P ops l w0 n N a0 E listed a W (upd val i v) (upd dec i true) (i::D) (putL o.dst v L) H bs ((i,o,v)::pa):=by
 have hdi:dec i=false:=(I.set i).trans hiD;have hdeps:∀ j,j<n->Region.waitsFor .any ops i j=true->dec j=true:=λj hj hw=>(I.set j).trans (HI hwt hj hw)
 have hii:∀ j,j<n->Region.waitsFor .any ops i j=true->j≠i:=λj hj hw e=>by
  have:=hdeps j hj hw;rw [e,hdi] at this;cases this
 have hli:st listed i=false:=by
  cases h:st listed i with
  | false=>rfl
  | true=>have:=I.sub i hi h;rw [hdi] at this;cases this
 have hput:=YF (a0:=a0) (val:=val) (v:=v) F hi ho hdi;refine ⟨I.head,?_,?_,?_,I.world,?_,?_,LY I.set,?_⟩
 ·rw [I.frame];refine kP _ _ _ _ a0 n λk _=>⟨Z,λhk=>(eO _ _ λe=>?_).symm⟩;subst e;rw [hli] at hk;cases hk
 ·rw [hput];exact I.full.putL v hN
 ·intro j hj hs
  by_cases e:j=i
  ·subst e;exact gY _ _ _
  ·rw [eO _ _ e];exact I.sub j hj hs
 ·intro j oj hj hoj hd hs W hW
  by_cases e:j=i
  ·subst e;obtain rfl:oj=o:=bL (hoj.symm.trans ho);rw [gY];refine Yq.same (λcs b=>F.sel j oj cs b ho) (λt ht=>?_) (hy _ W I.full hW);refine BP F hj ho (λk hk hw=>?_) t ht;have hkd:=hdeps k hk hw;have hki:=hii k hk hw;exact ⟨by rw [eO _ _ hki];exact hkd,hkd,eO _ _ hki⟩
  ·rw [eO _ _ e] at hd|-;refine Yq.same (λcs b=>F.sel j oj cs b hoj) (λt ht=>?_) (I.light j oj hj hoj hd hs W hW);refine BP F hj hoj (λk hk hw=>?_) t ht;have hkd:=I.deps j k hj hk hd hw;have hki:k≠i:=λe=>by subst e;rw [hdi] at hkd;cases hkd
   exact ⟨by rw [eO _ _ hki];exact hkd,hkd,eO _ _ hki⟩
 ·intro j oj hj hoj hd hs
  by_cases e:j=i
  ·subst e;obtain rfl:oj=o:=bL (hoj.symm.trans ho);rw [gY];exact .head _
  ·rw [eO _ _ e] at hd|-;exact .tail _ (I.past j oj hj hoj hd hs)
 ·intro j k hj hk hd hw
  by_cases e:j=i
  ·subst e;rw [eO _ _ (hii k hk hw)];exact hdeps k hk hw
  ·rw [eO _ _ e] at hd;have:=I.deps j k hj hk hd hw
   by_cases e2:k=i
   ·subst e2;exact gY _ _ _
   ·rw [eO _ _ e2];exact this
theorem GT.stepE (F:WE ops n) {i:Nat} {o:Oper} {W':World} (I:GT dfs P ops l w0 n N a0 E listed a W val dec D L H bs pa) (hi:i<n) (ho:ops[i]? = some o) (hr:i∈Region.ready .any ops listed) (hd:dec i=true) (hx:Ext W W') :
 GT dfs P ops l w0 n N a0 E (listed.setIfInBounds i true) (a.put o.dst (val i)) W' val dec D L H bs pa:=by
 have hun:st listed i=false:=(mem_ready.1 hr).1;have e1:kL ops i=o.dst:=by simp [kL,ho]
 refine ⟨I.head.set hr hi,?_,I.full,?_,I.world.more hx,?_,?_,I.set,I.deps⟩
 ·rw [I.frame,uP val (st listed) (st (listed.setIfInBounds i true)) a0 i fW hun (λk hk=>kU hk) n hi F.apart,e1]
 ·intro j hj hs
  by_cases e:j=i
  ·subst e;exact hd
  ·rw [kU e] at hs;exact I.sub j hj hs
 ·intro j oj hj hoj hdj hs;have e:j≠i:=λe=>by subst e;rw [fW] at hs;cases hs
  rw [kU e] at hs;exact I.light j oj hj hoj hdj hs
 ·intro j oj hj hoj hdj hs;have e:j≠i:=λe=>by subst e;rw [fW] at hs;cases hs
  rw [kU e] at hs;exact I.past j oj hj hoj hdj hs
theorem GT.heavyE (F:WE ops n) {i k:Nat} {o:Oper} {v:Value} {W':World} {H':Hp} {bs':List Res} (I:GT dfs P ops l w0 n N a0 E listed a W val dec D L H bs pa) (hi:i<n) (ho:ops[i]? = some o) (hiD:D.contains i=false) (hwt:((List.range n).all λj=>!Region.waitsFor .any ops i j || D.contains j)=true) (hk1:(!(k == 1) || D.all λj=>mW ops n i j)=true) (hN:∀ t,o.dst=some t->t<N) (hr:i∈Region.ready .any ops listed)
 (hs:St H' w0 bs' W') (hws:k=1\/(∀ W,St H' w0 bs' W->St H w0 bs W)\/iV dfs P ops n w0 N L H' bs' i pa) :
 GT dfs P ops l w0 n N a0 E (listed.setIfInBounds i true) (a.put o.dst v) W' (upd val i v) (upd dec i true) (i::D) (putL o.dst v L) H' bs' pa:=by
 have hdi:dec i=false:=(I.set i).trans hiD;have hdeps:∀ j,j<n->Region.waitsFor .any ops i j=true->dec j=true:=λj hj hw=>(I.set j).trans (HI hwt hj hw)
 have hii:∀ j,j<n->Region.waitsFor .any ops i j=true->j≠i:=λj hj hw e=>by
  have:=hdeps j hj hw;rw [e,hdi] at this;cases this
 have hun:st listed i=false:=(mem_ready.1 hr).1;have e1:kL ops i=o.dst:=by simp [kL,ho]
 have hput:=YF (a0:=a0) (val:=val) (v:=v) F hi ho hdi;refine ⟨I.head.set hr hi,?_,?_,?_,hs,?_,?_,LY I.set,?_⟩
 ·rw [I.frame,uP (upd val i v) (st listed) (st (listed.setIfInBounds i true)) a0 i fW hun (λk hk=>kU hk) n hi F.apart,e1,gY]
  congr 1
  refine kP _ _ _ _ a0 n λk _=>⟨Z,λhk=>(eO _ _ λe=>?_).symm⟩;subst e;rw [hun] at hk;cases hk
 ·rw [hput];exact I.full.putL v hN
 ·intro j hj hs
  by_cases e:j=i
  ·subst e;exact gY _ _ _
  ·rw [eO _ _ e];rw [kU e] at hs;exact I.sub j hj hs
 ·intro j oj hj hoj hd hs W hW;have e:j≠i:=λe=>by subst e;rw [fW] at hs;cases hs
  rw [kU e] at hs;rw [eO _ _ e] at hd|-
  have hdone:mW ops n i j=true->False:=λh1=>by
   obtain ⟨_,oi,hoi,hall⟩:=mem_ready.1 hr
   have h2:=pY I.head n i j h1 (λok hok x hx hb=>by
    obtain rfl:ok=oi:=bL (hok.symm.trans hoi);exact hall x hx hb)
   rw [getD_both hs] at h2;cases h2
  have hy:Yq P ops oj (val j) (frm ops val dec n a0) W:=by
   rcases hws with hk | hw | hw
   ·subst hk;have hjD:j∈D:=by have:=(I.set j).symm.trans hd;simpa using this
    simp only [beq_self_eq_true,BC,aT] at hk1;exact (hdone (bD.1 hk1 j hjD)).elim
   ·exact I.light j oj hj hoj hd hs W (hw W hW)
   ·rcases hw.at (I.past j oj hj hoj hd hs) with h1 | h1
    ·exact (hdone h1).elim
    ·exact h1 _ W I.full hW
  refine Yq.same (λcs b=>F.sel j oj cs b hoj) (λt ht=>?_) hy;refine BP F hj hoj (λk hk hw=>?_) t ht;have hkd:=I.deps j k hj hk hd hw;have hki:k≠i:=λe=>by subst e;rw [hdi] at hkd;cases hkd
  exact ⟨by rw [eO _ _ hki];exact hkd,hkd,eO _ _ hki⟩
 ·intro j oj hj hoj hd hs;have e:j≠i:=λe=>by subst e;rw [fW] at hs;cases hs
  rw [kU e] at hs;rw [eO _ _ e] at hd|-;exact I.past j oj hj hoj hd hs
 ·intro j k hj hk hd hw
  by_cases e:j=i
  ·subst e;rw [eO _ _ (hii k hk hw)];exact hdeps k hk hw
  ·rw [eO _ _ e] at hd;have:=I.deps j k hj hk hd hw
   by_cases e2:k=i
   ·subst e2;exact gY _ _ _
   ·rw [eO _ _ e2];exact this
theorem YN (hl:ops=l.toArray) (F:WE ops n) (hend:∀ L H bs,E L H bs->At dfs N L H w0 bs (Q .normal)) :
 ∀ (m:Nat) (p:Pi0) (listed:Array Bool) (a:Act) (W:World) (val:Nat->Value) (dec:Nat->Bool) (D:List Nat) (L:Sl) (H:Hp) (bs:List Res) (pa:List (Nat × Oper × Value)),cnt (st listed) n=m->okT ops n D [] p=true ->
  fZ dfs P ops n w0 N E (xB l p) pa L H bs->GT dfs P ops l w0 n N a0 E listed a W val dec D L H bs pa->wpAny P .any ops Q (m+(ops.size - n)) listed a W:=by
 have hop:∀ i,i<n->ops[i]? = some l[i]! := λi hi=>by
  have h1:i<ops.size:=by have:=F.all;omega
  subst hl;have h2:i<l.length:=by simpa using h1
  simp [h2]
 intro m;induction m with
 | zero =>
  intro p;induction p with
  | done =>
   intro listed a W val dec D L H bs pa hm hok hF I;have hall:=sT _ n hm;have hsz:ops.size - n=0:=by have:=F.all;omega
   rw [hsz]
   have hrd:Region.ready .any ops listed=[]:=List.eq_nil_iff_forall_not_mem.2 λk hk=>by
    obtain ⟨h1,o,h2,_⟩:=mem_ready.1 hk;have h3:k<ops.size:=(Array.getElem?_eq_some_iff.1 h2).1;have h4:=hall k (by have:=F.all;omega);have h5:k<listed.size:=by rw [I.head.size];exact h3
    simp [st,h5] at h1 h4;rw [h4] at h1;cases h1
   have hfr:a=frm ops val dec n a0:=by
    rw [I.frame];exact kP _ _ _ _ a0 n (λk hk=>⟨by rw [hall k hk,I.sub k hk (hall k hk)],λ_=>rfl⟩)
   rw [hfr];exact At.ae (n:=N) (L:=L) hrd (hend L H bs hF) _ W I.full I.world
  | no =>
   intro listed a W val dec D L H bs pa hm hok hF I;simp [okT] at hok
  | light i r ih =>
   intro listed a W val dec D L H bs pa hm hok hF I;have hall:=sT _ n hm;simp only [okT,aE,aB,eT] at hok;have:=I.sub i hok.1.1.1.2 (hall i hok.1.1.1.2);rw [I.set i,hok.1.1.2] at this;cases this
  | alt i k r q ih1 ih2 =>
   intro listed a W val dec D L H bs pa hm hok hF I;have hall:=sT _ n hm;simp only [okT,aE,aB,eT] at hok;have:=I.sub i hok.1.1.1.1.1 (hall i hok.1.1.1.1.1);rw [I.set i,hok.1.1.1.1.2] at this;cases this
 | succ m ih =>
  have one_step:∀ (p:Pi0) (listed:Array Bool) (a:Act) (W:World) (val:Nat->Value) (dec:Nat->Bool) (D:List Nat) (L:Sl) (H:Hp) (bs:List Res) (pa:List (Nat × Oper × Value)),cnt (st listed) n=m+1->okT ops n D [] p=true ->
   fZ dfs P ops n w0 N E (xB l p) pa L H bs->GT dfs P ops l w0 n N a0 E listed a W val dec D L H bs pa->(p=.done\/p=.no\/∃ i k r q,p=.alt i k r q)->wpAny P .any ops Q (m+1+(ops.size - n)) listed a W:=by
   intro p listed a W val dec D L H bs pa hm hok hF I hp;obtain ⟨k0,hk0,hun0,hbelow⟩:=IH (st listed) n aD;have hk0s:k0<ops.size:=by have:=F.all;omega
   have hready0:k0∈Region.ready .any ops listed:=by
    refine mem_ready.2 ⟨hun0,ops[k0],Array.getElem?_eq_getElem hk0s,λe he hb=>?_⟩;have hlt:=F.back k0 _ (Array.getElem?_eq_getElem hk0s) e he hb;have:=hbelow e.on hlt;have hsz:e.on<listed.size:=by rw [I.head.size];omega
    simpa [st,hsz] using this
   rw [show m+1+(ops.size - n)=(m+(ops.size - n))+1 by omega];refine ⟨λh0=>(by rw [h0] at hready0;cases hready0),λj hj=>?_⟩
   have hjn:j<n:=by
    rcases jG j n with h | h
    ·exact h
    ·exfalso
     obtain ⟨_,oj,hoj,_⟩:=mem_ready.1 hj;have h3:j<ops.size:=(Array.getElem?_eq_some_iff.1 hoj).1;have:=F.all;omega
   obtain ⟨hun,oj,hoj,hall⟩:=mem_ready.1 hj
   have hcnt:cnt (st (listed.setIfInBounds j true)) n=m:=by
    have:=DM (st listed) (st (listed.setIfInBounds j true)) j fW hun (λk hk=>kU hk) n hjn;omega
   have hS:∀ k,k<n->Region.waitsFor .any ops j k=true->st listed k=true:=by
    intro k hk hw;obtain ⟨oi,hoi,e,he,hb,hon⟩:=Region.waitsFor_spec hw;obtain rfl:oi=oj:=bL (hoi.symm.trans hoj);have h1:=hall e he hb;rw [hon] at h1;have hsz:k<listed.size:=by rw [I.head.size];have:=F.all;omega
    simp [hsz] at h1;simp [st,hsz,h1]
   have hev:∀ t∈oj.looksAt ops,a.eval (.tmp t)=(frm ops val dec n a0).eval (.tmp t):=λt ht=>by
    rw [I.frame];exact BP F hjn hoj (λk hk hw=>⟨hS k hk hw,I.sub k hk (hS k hk hw),Z⟩) t ht
   cases hd:dec j with
   | true =>
    have hy:Yq P ops oj (val j) a W:=Yq.same (λcs b=>F.sel j oj cs b hoj) hev (I.light j oj hjn hoj hd hun W I.world);exact hy.wpOp hoj λW' hx=>ih p _ _ _ _ _ _ _ _ _ _ hcnt hok hF (I.stepE F hjn hoj hj hd hx)
   | false =>
    have hjD:D.contains j=false:=(I.set j).symm.trans hd
    have hch:p=.no\/∃ i k r q',p=.alt i k r q':=by
     rcases hp with rfl | rfl | h
     ·exfalso
      simp only [okT,aE] at hok;have:=bD.1 hok.2 j (bZ.2 hjn);rw [hjD] at this;cases this
     ·exact .inl Z
     ·exact .inr h
    obtain ⟨k,r,h1,h2,h3,h4,h5⟩:=PI hl hjn hjD (λi hi hin=>by
     cases hre:mW ops n j i with
     | false=>rfl
     | true =>
      have h2:=pY I.head n j i hre (λok hok e he hb=>by
       obtain rfl:ok=oj:=bL (hok.symm.trans hoj);exact hall e he hb)
      have h3:st listed i=false:=by
       cases h:st listed i with
       | false=>rfl
       | true=>have:=I.sub i hin h;rw [I.set i,hi] at this;cases this
      rw [getD_both h3] at h2;cases h2) p [] hch hok (λi hi=>by cases hi) hF
    have hoj2:=hop j hjn;obtain rfl:oj=l[j]! := bL (hoj.symm.trans hoj2);refine OB hoj (λcs b=>F.sel j _ cs b hoj) hev (λb W' ⟨v,H',bs',hf,_⟩=>hf.defers) I.full.defers ?_ (h5 _ W I.full I.world);rintro v W' ⟨v',H',bs',hf,hs,hw,hp'⟩
    have hvv:putL (l[j]!).dst v' L=putL (l[j]!).dst v L:=by
     cases hdst:(l[j]!).dst with
     | none=>rfl
     | some t =>
      rw [hdst] at hf;have h1:=hf.slot t v' (by unfold putL look;rw [mL,lN]);have h2:t<N:=h4 t hdst;have h3:=(I.full.put (by simpa [rD] using h2) v).slot t v (by unfold look;rw [mL,lN]);rw [h3] at h1;rw [h1]
    rw [hvv] at hp';exact ih r _ _ _ _ _ _ _ _ _ _ hcnt h3 hp' (I.heavyE F hjn hoj hjD h1 h2 h4 hj hs hw)
  intro p;induction p with
  | done=>exact λlisted a W val dec D L H bs pa hm hok hF I=>one_step _ listed a W val dec D L H bs pa hm hok hF I (.inl Z)
  | no=>exact λlisted a W val dec D L H bs pa hm hok hF I=>one_step _ listed a W val dec D L H bs pa hm hok hF I (.inr (.inl Z))
  | alt i k r q _ _=>exact λlisted a W val dec D L H bs pa hm hok hF I=>one_step _ listed a W val dec D L H bs pa hm hok hF I (.inr (.inr ⟨_,_,_,_,Z⟩))
  | light i r ihr =>
   intro listed a W val dec D L H bs pa hm hok hF I;simp only [okT,aE,aB,eT] at hok;obtain ⟨⟨⟨⟨_,hi⟩,hiD⟩,hwt⟩,hok'⟩:=hok;unfold xB fZ at hF;obtain ⟨v,hy,hN,hF'⟩:=hF;exact ihr listed a W _ _ _ _ H bs _ hm hok' hF' (I.decideE F hi (hop i hi) hiD hwt hy hN)
theorem cJ5 {id:Nat} {l:List Oper} {p:PlT} {Q:Exit->Act->World->Prop} {L:Sl} {H:Hp} {bs:List Res} (n:Nat) (p0:Pi0) (hm:P.follows .mixedOrders=true) (hB:(bV0 l.toArray n && okT l.toArray n [] [] p0)=true) (ht:xB l p0=p)
 (h:fZ dfs P l.toArray n w0 N (λL H bs=>At dfs N L H w0 bs (Q .normal)) p [] L H bs):At dfs N L H w0 bs ((Code.region id l.toArray true).wp P Q):=by
 simp only [aE] at hB;obtain ⟨h1,h2⟩:=hB;have F:=WE.of h1;have hlt:n=l.length:=by simpa using F.all
 subst ht;intro a W f s;refine wp_region_any hm ?_;have hsz:l.toArray.size=l.length:=by simp
 have hc0:∀ m,m<=n->cnt (st (Array.replicate l.toArray.size false)) m=m:=by
  intro m;induction m with
  | zero=>intro _;rfl
  | succ m ih =>
   intro hm;unfold cnt;rw [ih aD]
   have:st (Array.replicate l.toArray.size false) m=false:=by
    have:m<l.length:=aD
    simp [st,this]
   rw [this];simp
 have hfrm:∀ (val:Nat->Value) (m:Nat),frm l.toArray val (λ_=>false) m a=a:=λval m=>by
  induction m with
  | zero=>rfl
  | succ m ih=>unfold frm;simp [ih]
 have hall:∀ m,m<=n->∀ k,k<m->st (Array.replicate l.toArray.size false) k=false:=λm hm k hk=>by
  have:k<l.length:=aD
  simp [st,this]
 have hh:HeadInv .any l.toArray n (Array.replicate l.toArray.size false):=by
  refine ⟨by simp,λj oj hj hl=>?_,λt ht ht'=>?_⟩
  ·exfalso
   rcases jG j l.length with h | h
   ·simp [h] at hl
   ·simp [h] at hl
  ·have:t<l.length:=by simpa using ht'
   simp [this]
 have key:=YN (Q:=Q) (a0:=a) (l:=l) rfl F (λL H bs h=>h) n p0 (Array.replicate l.toArray.size false) a _ (λ_=>undef) (λ_=>false) [] L H bs [] (hc0 n (aY _)) h2 h
  ⟨hh,?_,by rw [hfrm];exact f,?_,s.more ((Ext.refl W).drew),λ_ _ _ _ h=>(by cases h),λ_ _ _ _ h=>(by cases h),λ_=>rfl,λ_ _ _ _ h=>(by cases h)⟩
 ·have:n+(l.toArray.size - n)=l.toArray.size:=by rw [hsz];omega
  rw [this] at key;exact key
 ·rw [kP (λ_=>undef) (λ_=>undef) _ (λ_=>false) a n (λk hk=>⟨hall n (aY _) k hk,λ_=>rfl⟩),hfrm]
 ·intro i hi hs;rw [hall n (aY _) i hi] at hs;cases hs
end
section
variable {dfs:List Deferred} {P:Program} {n:Nat} {L:Sl} {H:Hp} {w0:World} {bs:List Res} {Q:Exit->Act->World->Prop} {ops:Array Oper} {rest:List Oper} {K:Act->World->Prop}
variable {d:Option Tmp} {ty:TypeId} {pos:String} {aft:Array Edge} {v:Value} {t:Tmp} {x y:Operand} {T:TypeId}
theorem cF1 {g off k c size:Nat} {e:TypeId} {xs vs:List Value} {bs':List Res} (hp:ev L x=some (.pointer (some ⟨g,off,none⟩))) (hv:ev L y=some (.agg vs.toArray)) (hT:gQ P T=some vs.length) (h1:∀ u∈vs,u.oneCell'=true)
 (hm:Upd bs (.row e size (.slice (dI g) k c) k xs) (.row e size (.slice (dI g) k c) k (pE xs off vs)) bs') (ho:off+vs.length<=xs.length) (h:At dfs n L H w0 bs' K) :
 At dfs n L H w0 bs (one P ops Q ⟨none,.store T x y,ty,pos,aft,none⟩ K):=by
 intro a W f s;have ho1:W.ownsRow w0.heap.size e size (.slice (some ⟨g,0,none⟩) k c) k xs:=(s.own _ hm.mem).1;rcases ho1.2 with ⟨hr,_⟩ | ⟨g',cap,cur,hr,hbg,hgc,hnc,hcm,hcs,htake⟩
 ·cases hr
 ·injection hr with e1 _ e3
  injection e1 with e1
  injection e1 with e1
  subst e1 e3;obtain ⟨more,hmo⟩:∃ more,more=cur.toList.drop (k * size):=⟨_,Z⟩;have hcur:cur.toList=xs++more:=by rw [hmo,<-htake,eW]
  have hcur2:cur=(xs++more).toArray:=by rw [<-hcur]
  obtain ⟨b1,u1,u2⟩:=hm.mid (.box g (xs++more) e);obtain ⟨b2,u3,u4⟩:=u2.mid (.box g (pE (xs++more) off vs) e);have s1:St H w0 b1 W:=s.put1 u1 ⟨hbg,by rw [hgc,<-hcur2]⟩ (λb e=>e);refine aB5 hp hv hT rfl h1 u3 (by rw [aC];omega) ?_ a W f s1;intro a W f s2;have ob:=(s2.own _ u4.mem).1;have e4:pE (xs++more) off vs=pE xs off vs++more:=JJ vs xs more off ho;have hz:xs.length=k * size:=ho1.1;refine h a W f (s2.put1 u4 ⟨by rw [AD];exact hz,.inr ⟨g,c,(pE (xs++more) off vs).toArray,Z,ob.1,ob.2,hnc,hcm,?_,?_⟩⟩ (λb e=>e))
  ·rw [List.size_toArray,AD,<-hcur];simpa using hcs
  ·rw [e4];show List.take (k * size) (pE xs off vs++more)=pE xs off vs;rw [List.take_append_of_le_length (by rw [AD];omega),fX (by rw [AD];omega)]
variable {N hn i kk:Nat} {pa:List (Nat × Oper × Value)} {E:Sl->Hp->List Res->Prop} {q:PlT} {bs':List Res}
theorem rI.sR {g off k c size:Nat} {e:TypeId} {xs vs:List Value} (hp:ev L x=some (.pointer (some ⟨g,off,none⟩))) (hv:ev L y=some (.agg vs.toArray)) (hT:gQ P T=some vs.length) (h1:∀ u∈vs,u.oneCell'=true)
 (hm:Upd bs (.row e size (.slice (dI g) k c) k xs) (.row e size (.slice (dI g) k c) k (pE xs off vs)) bs') (ho:off+vs.length<=xs.length)
 (hr:iV dfs P ops hn w0 N L H bs' i pa) (h:fZ dfs P ops hn w0 N E q pa L H bs'):rI dfs P ops hn w0 N E i kk ⟨none,.store T x y,ty,pos,aft,none⟩ q pa L H bs :=
 ⟨λ_ e=>(by cases e),cF1 hp hv hT h1 hm ho (rI.into0 hr h)⟩
theorem rI.apE {e:TypeId} {size bytes m c k:Nat} {p:Option Addr} {r:Value} {xs:List Value} {ds:List D} {bs':List Value->Value->List Res} (hT:tQ P T=some (e,size,bytes)) (hx:ev L x=some r)
 (hm:∀ news r',Upd bs (.row e size r k xs) (.row e size r' (k+m) (xs++news)) (bs' news r')) (hy:ev L y=some (.slice p m c)) (hr:Rep H (.seq size ds) [.slice p m c]) (hpos:0<k+m)
 (h63:k+m<=maxLen) (hb:(k+m) * bytes<=140737488355328) (ht:Nat.blt t N=true)
 (hr2:∀ news r',iV dfs P ops hn w0 N L H (bs' news r') i pa) (h:∀ news g c,dT H size ds news->fZ dfs P ops hn w0 N E q pa ((t,.slice (dI g) (k+m) c)::L) H (bs' news (.slice (dI g) (k+m) c))) :
 rI dfs P ops hn w0 N E i 2 ⟨some t,.call ⟨.builtin .append,#[x,y],#[T,T]⟩,ty,pos,aft,none⟩ q pa L H bs :=
 ⟨oV ht,VS hT hx hm hy hr h63 hb ht λnews r' hz=>At.rs (hm news r').new hpos λg c e=>by subst e;exact rI.into (.inr<|.inr<|hr2 _ _) (h news g c hz)⟩
theorem fZ.fe {Q:Exit->Act->World->Prop} (h:At dfs N L H w0 bs (Q .normal)):fZ dfs P ops hn w0 N (λL H bs=>At dfs N L H w0 bs (Q .normal)) .done pa L H bs:=h
theorem At.fx {id:Nat} {l:List Oper} {p:PlT} (nn:Nat) (p0:Pi0) (hm:P.follows .mixedOrders=true) (hB:(bV0 l.toArray nn && okT l.toArray nn [] [] p0)=true) (ht:xB l p0=p)
 (h:fZ dfs P l.toArray nn w0 n (λL H bs=>At dfs n L H w0 bs (Q .normal)) p [] L H bs):At dfs n L H w0 bs ((Code.region id l.toArray true).wp P Q):=cJ5 nn p0 hm hB ht h
end
section
variable {P:Program} {L:Sl} {H:Hp} {w0:World} {bs:List Res} {d:Option Tmp} {ty:TypeId} {pos:String} {aft:Array Edge} {g:Option (Nat × Bool)} {x:Operand} {T:TypeId}
theorem Yl.neg {k:IntKind} {i c:Int} (hx:ev L x=some (.int k i)) (hw:k.wrap (0 - i)=c):Yl P L H w0 bs ⟨d,.unOp .neg T x,ty,pos,aft,g⟩ (.int k c):=.of_run λa W f _=>by
 subst hw;unfold execOp;simp [f x _ hx,Op.unary,Op.intArith]
end
section
variable {dfs:List Deferred} {n:Nat} {L:Sl} {H:Hp} {w0:World} {bs:List Res}
end
section
variable {P:Program}
theorem aO2 {s:Value} (n:Nat) (u:Value) (h:u∈(Builtin.zeroCells #[s] n).toList):u=s:=by
 simp [Builtin.zeroCells] at h;obtain ⟨i,_,e⟩:=h;rw [Nat.mod_one] at e;simpa using e.symm
theorem QF (w:World) (base:Nat) (T ty e:TypeId) (i:TypeInfo) (z:Value) (hu:P.underlying T=some (.slice e)) (hi:P.info? e=some i) (hz:i.zero=some z) (hsz:i.size=1) (hzs:z.cells=#[dV]) {v:Value} {xs:List Value} (hown:JM w base e v xs)
 (a:Addr) (c:Nat) (u:ByteArray) (hn:w.cell? a=some (.string u)) (hsu:u.size<=1000000) (h63:xs.length+1<=maxLen) (hb:(xs.length+1) * i.bytes<=140737488355328) (hbase:base<=w.heap.size) :
 ∃ v' w',(Builtin.append_ #[T,T] ty #[v,.slice (some a) 1 c]).run P w=.ok v' w'/\JM w' base e v' (xs++[.string u])/\w.grownBy w' v.ownBlock/\∀ q,v'.ownBlock=some q->v.ownBlock=some q\/w.heap.size<=q:=by
 have h64:xs.length+1<=9223372036854775807:=by simp only [maxLen] at h63;omega
 have hnews:∀ (j:Nat) x,([.string u]:List Value)[j]? = some x->w.cell? (a.add j)=some x:=by
  intro j x ex;cases j with
  | zero=>simp at ex;subst ex;rw [show a.add 0=a by simp [Addr.add]];exact hn
  | succ j=>simp at ex
 have hzst:∀ n u',u'∈(Builtin.zeroCells z.cells n).toList->∃ s:ByteArray,u'=.string s/\s.size<=1000000:=by
  intro n u' h;rw [hzs] at h;exact ⟨_,aO2 n u' h,by simp [ByteArray.size]⟩
 have hzl:∀ n,(Builtin.zeroCells z.cells n).size=n:=by
  intro n;rw [size_zeroCells,hzs];simp
 have grown:∀ (old:Nat) (olds:List Value),olds.length=xs.length->olds=xs->(∀ x∈xs,∃ s:ByteArray,x=.string s/\s.size<=1000000)->∀ row:Option Nat,
  JM (w.drew.alloc (.cells (olds.toArray++[Value.string u].toArray++Builtin.zeroCells z.cells (grownCap w (xs.length+1) old e - (xs.length+1))) e)) base e (.slice (some ⟨w.heap.size,0,none⟩) (xs.length+1) (grownCap w (xs.length+1) old e)) (xs++[.string u]) /\
  w.grownBy (w.drew.alloc (.cells (olds.toArray++[Value.string u].toArray++Builtin.zeroCells z.cells (grownCap w (xs.length+1) old e - (xs.length+1))) e)) row:=by
  intro old olds _ ho hall row;subst ho;have hge:=grownCap_ge w (olds.length+1) old e;have hcm:=grownCap_le_maxLen w (olds.length+1) old e h63;refine ⟨.inr ⟨w.heap.size,_,_,by simp,hbase,heap_alloc_new w.drew _,by simpa using hge,hcm,?_,?_,?_⟩,⟨Z,Z,Z,by simp,λk hk _=>heap_alloc_old w.drew _ hk⟩⟩
  ·simp only [Array.size_append,List.size_toArray,hzl];simp only [aF,aH];omega
  ·simp only [Array.toList_append];exact iY
  ·intro x hx;simp only [Array.toList_append,cJ] at hx;rcases hx with (hx | hx) | hx
   ·exact hall x hx
   ·rw [bS.1 hx];exact ⟨u,Z,hsu⟩
   ·exact hzst _ x hx
 rcases hown with ⟨rfl,rfl⟩ | ⟨g,cap,cur,rfl,hbg,hg,hnc,hcm,hcs,htake,hall⟩
 ·have hr:=run_append_nil (P:=P) w T ty e i z hu hi hz a 1 c [.string u] (by rw [hsz];rfl) hnews aS aS (by simp only [aH,dO] at hb;omega);obtain ⟨g1,g2⟩:=grown 0 [] rfl rfl (λx hx=>by cases hx) none;simp only [aH,dO,Array.empty_append] at g1 g2;refine ⟨_,_,hr,g1,g2,λq hq=>.inr ?_⟩;have:=bL hq;simp at this;omega
 ·have hxs:∀ x∈xs,∃ s:ByteArray,x=.string s/\s.size<=1000000:=λx hx=>hall x (by rw [<-htake] at hx;exact mJ hx)
  by_cases hroom:xs.length+1<=cap
  ·have hr:=run_append_room (P:=P) w T ty e i hu hi g xs.length cap cur hg a 1 c [.string u] (by rw [hsz];rfl) hnews (by simp [Value.oneCell']) hroom (by rw [hsz];simp only [aF,aH];omega);rw [hsz,Nat.mul_one] at hr;refine ⟨_,_,hr,.inr ⟨g,cap,_,by simp,hbg,setRow_heap w g cur _ e _ hg,by simpa using hroom,hcm,?_,?_,?_⟩,⟨Z,Z,Z,by simp,λk _ hk=>setRow_other w g k _ (λe=>hk (by simp [Value.ownBlock,e]))⟩,λq hq=>.inl hq⟩
   ·simp only [List.size_toArray,aC,dG,dA,Array.length_toList,aF,aH];omega
   ·rw [htake];exact iY
   ·intro x hx;simp only [cJ] at hx;rcases hx with (hx | hx) | hx
    ·exact hall x (mJ hx)
    ·rw [bS.1 hx];exact ⟨u,Z,hsu⟩
    ·exact hall x (List.mem_of_mem_drop hx)
  ·have holds:∀ (j:Nat) x,xs[j]? = some x->w.cell? ((⟨g,0,none⟩:Addr).add j)=some x:=by
    intro j x ex;rw [Addr.add_lit,dO,cell_of_row w g j cur e (0,0) hg];have hj:=(List.getElem?_eq_some_iff.1 ex).1;rw [<-htake,List.getElem?_take_of_lt hj] at ex;simpa using ex
   have hr:=run_append_grow (P:=P) w T ty e i z hu hi hz ⟨g,0,none⟩ xs.length cap xs (by rw [hsz,Nat.mul_one]) holds a 1 c [.string u] (by rw [hsz];rfl) hnews aD aD (growslice_fits aD hb);obtain ⟨g1,g2⟩:=grown cap xs rfl rfl hxs (some g);refine ⟨_,_,hr,g1,g2,λq hq=>.inr ?_⟩;have:=bL hq;simp at this;omega
end
section
variable {dfs:List Deferred} {P:Program} {n:Nat} {L:Sl} {H:Hp} {w0:World} {bs:List Res} {Q:Exit->Act->World->Prop} {ops:Array Oper} {rest:List Oper} {K:Act->World->Prop}
variable {ty:TypeId} {pos:String} {aft:Array Edge} {t:Tmp} {x y:Operand} {T:TypeId}
theorem At.ps0 {G:Act->World->Prop} (e:TypeId) (h:At dfs n L H w0 (.ps e (cL) []::bs) G):At dfs n L H w0 bs G:=λa W f s =>
 h a W f ⟨s.ext,s.agr,λz hz=>by
  rcases bM.1 hz with rfl | hz
  ·exact ⟨.inl ⟨Z,Z⟩,λb e=>by cases e⟩
  ·exact s.own z hz,.cons (λz _ b e=>by cases e) s.apart,s.lo⟩
theorem At.apP {e:TypeId} {bytes c b off:Nat} {r:Value} {xs:List Value} {u:ByteArray} {bs':Value->List Res} (hT:tQ P T=some (e,1,bytes)) (hz0:nA P e=some [dV]) (hx:ev L x=some r) (hm:∀ r',Upd bs (.ps e r xs) (.ps e r' (xs++[.string u])) (bs' r'))
 (hy:ev L y=some (.slice (some ⟨b,off,none⟩) 1 c)) (hs:Src H bs b off [.string u]) (hsu:u.size<=1000000) (h63:xs.length+1<=maxLen) (hb:(xs.length+1) * bytes<=140737488355328) (ht:Nat.blt t n=true)
 (h:∀ r',At dfs n ((t,r')::L) H w0 (bs' r') (wpList P ops Q rest)):At dfs n L H w0 bs (wpList P ops Q (⟨some t,.call ⟨.builtin .append,#[x,y],#[T,T]⟩,ty,pos,aft,none⟩::rest)):=by
 refine cons ?_;obtain ⟨hu,i,z,hi,hz,hsz,hby,hzs,h0⟩:=AG hT
 have hzc:z.cells=#[dV]:=by
  simp only [nA,hi,iR,hz,nJ,wO] at hz0;apply Array.ext';rw [hz0]
 intro a W f s;have hown:JM W w0.heap.size e r xs:=(s.own _ (hm r).mem).1
 have hc:W.cell? ⟨b,off,none⟩=some (.string u):=by
  have:=hs.cell s 0 _ rfl
  rwa [show (⟨b,off,none⟩:Addr).add 0=⟨b,off,none⟩ by simp [Addr.add]] at this
 obtain ⟨v',W',hr,ho,hg,hblk⟩:=QF (P:=P) W w0.heap.size T ty e i z hu hi hz hsz hzc hown ⟨b,off,none⟩ c u hc hsu h63 (by rw [hby];exact hb) s.ext.size;refine nR rfl ?_;unfold Oper.wp execOp;simp only [resolve,invoke,builtin,Sem.run_bind,Sem.run_pure,Result.andThen_ok,kS,eP,tL,f.ev hx,f.ev hy,hr];refine h v' _ _ (f.put ht _) ?_;have hlt:∀ q,r.ownBlock=some q->w0.heap.size<=q:=λq hq=>((s.own _ (hm r).mem).1.lt (b:=q) hq).1;refine s.upd (hm v') ?_ hg.size (λq hq hn=>hg.block q hq (λe=>hn e.symm)) ho hblk;refine Ext.of_below ⟨hg.os.trans s.ext.below.os,hg.tape.trans s.ext.below.tape,hg.output.trans s.ext.below.output,aZ s.ext.below.size hg.size,λq hq=>?_⟩;rw [hg.block q (eK hq s.ext.size) (λe=>by have:=hlt q e.symm;omega)];exact s.ext.below.block q hq
theorem freezePs {e:TypeId} {r:Value} {xs:List Value} {G:Act->World->Prop} (h:∀ H' p c,HUp w0 H H'->(∀ b,H' b=H b\/H b=none)->r=.slice p xs.length c->Rep H' (.ps xs) [r]->At dfs n L H' w0 bs G):At dfs n L H w0 (.ps e r xs::bs) G:=λa W f s=>by
 have ho:JM W w0.heap.size e r xs:=(s.own _ Hm).1;rcases ho with ⟨rfl,rfl⟩ | ⟨g,cap,cur,rfl,hg,hc,h1,h2,h3,h4,h5⟩
 ·exact h H none 0 .refl (λb=>.inl rfl) rfl (by unfold Rep;exact ⟨none,0,Z,aY _,by simp [maxLen],.inl ⟨Z,Z⟩⟩) a W f s.drop
 ·obtain ⟨s',u⟩:=s.freeze (b:=g) rfl hc ⟨_,_,Z⟩;refine h _ _ cap u (λb=>?_) rfl ?_ a W f s'
  ·by_cases hb:b=g
   ·subst hb;exact .inr ((s.own _ Hm).2 b rfl)
   ·exact .inl (vV hb)
  ·unfold Rep;exact ⟨_,cap,Z,h1,h2,.inr ⟨g,cur,e,Z,EK,aZ s.lo hg,h3,h5,h4⟩⟩
end
section
variable {P:Program} {H:Hp} {w0 W:World} {bs:List Res}
end
section
variable {dfs:List Deferred} {P:Program} {n N hn i:Nat} {L:Sl} {H:Hp} {w0:World} {bs:List Res} {Q:Exit->Act->World->Prop} {ops:Array Oper} {rest:List Oper} {K:Act->World->Prop}
variable {ty:TypeId} {pos:String} {aft:Array Edge} {t:Tmp} {x y:Operand} {T:TypeId} {pa:List (Nat × Oper × Value)} {E:Sl->Hp->List Res->Prop} {fr:List (Nat × Nat × Oper)}
end
end Go.Sx
namespace Go.Proofs.YtidclioghdbphaaGreatDoor
open Go.RowKit Go.Par Go.Sx Tryz
theorem fM:jI prg 24=some none:=by kernel_rfl
theorem dR:jI prg 32=some none:=by kernel_rfl
theorem eM:jI prg 76=some (some 4):=by kernel_rfl
theorem cY:jI prg 83=some (some 4):=by kernel_rfl
theorem eS:dU prg 76 3=some 3:=by kernel_rfl
theorem hI:dU prg 83 3=some 3:=by kernel_rfl
theorem eD:gQ prg 83=some 4:=by kernel_rfl
theorem fK:slN prg 24=some 4:=by kernel_rfl
theorem eG:slN prg 32=some 4:=by kernel_rfl
theorem gX:nA prg 83=some
 [Go.Value.int Go.IntKind.i64 (Int.ofNat 0),Go.Value.string { data:={ toList:=[] } },
  Go.Value.int Go.IntKind.i64 (Int.ofNat 0),Go.Value.slice none 0 0]:=by kernel_rfl
theorem aX1:jI prg 235=some (some 39):=by kernel_rfl
theorem aW8:bN4 prg 235=true:=by kernel_rfl
theorem aW4:QQ prg 235=some (39,1):=by kernel_rfl
theorem PS:kM prg 153=true:=by kernel_rfl
theorem dX:AM prg 9=true:=by kernel_rfl
theorem aX2:jI prg 217=some (some 25):=by kernel_rfl
theorem aW9:bN4 prg 217=true:=by kernel_rfl
theorem aW5:QQ prg 217=some (25,1):=by kernel_rfl
theorem aH5:kM prg 151=true:=by kernel_rfl
theorem bT:jI prg 9=some none:=by kernel_rfl
theorem fD:slN prg 71=some 1:=by kernel_rfl
theorem ZM (x0 x1 x2 x3 x4 x5 x6 x7 x8 x9 x10:ByteArray):pG prg 71 11 [(0,.string x0),(1,.string x1),(2,.string x2),(3,.string x3),(4,.string x4),(5,.string x5),(6,.string x6),(7,.string x7),(8,.string x8),(9,.string x9),(10,.string x10)]=some (9,[.string x0,.string x1,.string x2,.string x3,.string x4,.string x5,.string x6,.string x7,.string x8,.string x9,.string x10]):=by kernel_rfl
theorem jN:jI prg 2=some none:=by kernel_rfl
theorem bQ:jI prg 3=some none:=by kernel_rfl
theorem eH:dU prg 83 0=some 0:=by kernel_rfl
theorem jW:dU prg 83 1=some 1:=by kernel_rfl
theorem mU:dU prg 83 2=some 2:=by kernel_rfl
theorem kG:YC prg 3=some Go.IntKind.i64:=by kernel_rfl
theorem ZI:YC prg 74=some Go.IntKind.u8:=by kernel_rfl
theorem wM:tQ prg 32=some (76,4,56):=by kernel_rfl
theorem nT:gQ prg 32=some 1:=by kernel_rfl
theorem gR:gQ prg 76=some 4:=by kernel_rfl
theorem kQ:nA prg 76=some
 [Go.Value.int Go.IntKind.u8 (Int.ofNat 0),Go.Value.string { data:={ toList:=[] } },
  Go.Value.int Go.IntKind.i64 (Int.ofNat 0),Go.Value.slice none 0 0]:=by kernel_rfl
theorem PY (x0:Int) (x1:ByteArray) (x2:Int):eX prg 76 [(0,.int .u8 x0),(1,.string x1),(2,.int .i64 x2)]=some [.int .u8 x0,.string x1,.int .i64 x2,cL]:=by kernel_rfl
theorem oZ (x00 x01 x02 x03:Value):pG prg 32 1 [(0,.agg [x00,x01,x02,x03].toArray)]=some (76,[x00,x01,x02,x03]):=by kernel_rfl
theorem kW:jI prg 4=some none:=by kernel_rfl
theorem nM:jI prg 5=some none:=by kernel_rfl
theorem kN:YC prg 5=some Go.IntKind.u8:=by kernel_rfl
theorem AU:tQ prg 24=some (83,4,56):=by kernel_rfl
theorem bO9:gQ prg 9=some 1:=by kernel_rfl
theorem KG:gQ prg 24=some 1:=by kernel_rfl
theorem HD (x0:Int):eX prg 83 [(0,.int .i64 x0)]=some [.int .i64 x0,dV,.int .i64 0,cL]:=by kernel_rfl
theorem CB (x0 x2:Int):eX prg 83 [(0,.int .i64 x0),(2,.int .i64 x2)]=some [.int .i64 x0,dV,.int .i64 x2,cL]:=by kernel_rfl
theorem gH (x00 x01 x02 x03:Value):pG prg 24 1 [(0,.agg [x00,x01,x02,x03].toArray)]=some (83,[x00,x01,x02,x03]):=by kernel_rfl
theorem ZK (x0 x1 x2 x3 x4 x5 x6 x7 x8 x9 x10 x11 x12 x13 x14 x15 x16 x17 x18 x19 x20 x21 x22 x23 x24:ByteArray):pG prg 71 25 [(0,.string x0),(1,.string x1),(2,.string x2),(3,.string x3),(4,.string x4),(5,.string x5),(6,.string x6),(7,.string x7),(8,.string x8),(9,.string x9),(10,.string x10),(11,.string x11),(12,.string x12),(13,.string x13),(14,.string x14),(15,.string x15),(16,.string x16),(17,.string x17),(18,.string x18),(19,.string x19),(20,.string x20),(21,.string x21),(22,.string x22),(23,.string x23),(24,.string x24)]=some (9,[.string x0,.string x1,.string x2,.string x3,.string x4,.string x5,.string x6,.string x7,.string x8,.string x9,.string x10,.string x11,.string x12,.string x13,.string x14,.string x15,.string x16,.string x17,.string x18,.string x19,.string x20,.string x21,.string x22,.string x23,.string x24]):=by kernel_rfl
theorem ZJ (x0 x1 x2 x3 x4 x5 x6 x7 x8 x9 x10 x11 x12 x13 x14 x15 x16 x17 x18 x19 x20 x21 x22 x23 x24 x25 x26 x27 x28 x29 x30 x31 x32 x33 x34 x35 x36 x37 x38:ByteArray):pG prg 71 39 [(0,.string x0),(1,.string x1),(2,.string x2),(3,.string x3),(4,.string x4),(5,.string x5),(6,.string x6),(7,.string x7),(8,.string x8),(9,.string x9),(10,.string x10),(11,.string x11),(12,.string x12),(13,.string x13),(14,.string x14),(15,.string x15),(16,.string x16),(17,.string x17),(18,.string x18),(19,.string x19),(20,.string x20),(21,.string x21),(22,.string x22),(23,.string x23),(24,.string x24),(25,.string x25),(26,.string x26),(27,.string x27),(28,.string x28),(29,.string x29),(30,.string x30),(31,.string x31),(32,.string x32),(33,.string x33),(34,.string x34),(35,.string x35),(36,.string x36),(37,.string x37),(38,.string x38)]=some (9,[.string x0,.string x1,.string x2,.string x3,.string x4,.string x5,.string x6,.string x7,.string x8,.string x9,.string x10,.string x11,.string x12,.string x13,.string x14,.string x15,.string x16,.string x17,.string x18,.string x19,.string x20,.string x21,.string x22,.string x23,.string x24,.string x25,.string x26,.string x27,.string x28,.string x29,.string x30,.string x31,.string x32,.string x33,.string x34,.string x35,.string x36,.string x37,.string x38]):=by kernel_rfl
theorem uY:jI prg 70=some (some 3):=by kernel_rfl
theorem sD:gQ prg 70=some 3:=by kernel_rfl
theorem TJ:nA prg 70=some
 [Go.Value.int Go.IntKind.i64 (Int.ofNat 0),Go.Value.string { data:={ toList:=[] } },
  Go.Value.int Go.IntKind.i64 (Int.ofNat 0)]:=by kernel_rfl
theorem lY (x0:Int) (x1:ByteArray) (x2:Int):eX prg 70 [(0,.int .i64 x0),(1,.string x1),(2,.int .i64 x2)]=some [.int .i64 x0,.string x1,.int .i64 x2]:=by kernel_rfl
theorem VY:dU prg 70 0=some 0:=by kernel_rfl
theorem IQ:dU prg 70 1=some 1:=by kernel_rfl
theorem bP0:tQ prg 67=some (70,3,32):=by kernel_rfl
theorem VX:slN prg 67=some 3:=by kernel_rfl
theorem aI1 (x00 x01 x02:Value):pG prg 67 1 [(0,.agg [x00,x01,x02].toArray)]=some (70,[x00,x01,x02]):=by kernel_rfl
theorem ZL (x0 x1 x2 x3 x4 x5 x6 x7 x8 x9 x10 x11 x12:ByteArray):pG prg 71 13 [(0,.string x0),(1,.string x1),(2,.string x2),(3,.string x3),(4,.string x4),(5,.string x5),(6,.string x6),(7,.string x7),(8,.string x8),(9,.string x9),(10,.string x10),(11,.string x11),(12,.string x12)]=some (9,[.string x0,.string x1,.string x2,.string x3,.string x4,.string x5,.string x6,.string x7,.string x8,.string x9,.string x10,.string x11,.string x12]):=by kernel_rfl
theorem qP:jI prg 50=some none:=by kernel_rfl
theorem aH9:VM prg 50=true:=by kernel_rfl
theorem qT:dU prg 133 6=some 6:=by kernel_rfl
theorem PR:tQ prg 71=some (9,1,16):=by kernel_rfl
theorem KF:gQ prg 50=some 1:=by kernel_rfl
theorem rP:slN prg 50=some 1:=by kernel_rfl
theorem bO7:nA prg 9=some [Go.Value.string { data:={ toList:=[] } }]:=by kernel_rfl
theorem aI6 (x0 x1:Int):pG prg 50 2 [(0,.int .u8 x0),(1,.int .u8 x1)]=some (5,[.int .u8 x0,.int .u8 x1]):=by kernel_rfl
theorem HB (x0:ByteArray):pG prg 71 1 [(0,.string x0)]=some (9,[.string x0]):=by kernel_rfl
def mkC (M:Mk) (arV bv:Value) (left:Int):List Value:=[iN M.ints,iN M.tables,iN M.flags,iN M.own,arV,iN M.params,bv,.int .i64 left]
theorem AL (H:Hp) (a b:Nat) (w:World) (hA:Agr H w):Calls prg 58 #[iN a,iN b] w λr w'=>r=.returned (.int .i64 ((min a b:Nat):Int))/\Ext w w':=by
 refine Sx.enter (H:=H) func58 rfl ntmps58 rfl hA ?_;refine .sr<|.aq Z<|.sq<|.sm Z<|.mv Z<|.yw (.lss Z Z)<|.nt<|.ce Z (λh7=>?_) (λh7=>?_)
 ·refine .sm Z<|.az Z<|.tR<|?_
  refine yE Z Z ?_
  first
   | (rw [iK aD])
   | (rw [pH aD])
 refine .sk<|.tN<|.sm Z<|.az Z<|?_
 refine yE Z Z ?_
 first
  | (rw [iK aD])
  | (rw [pH aD])
theorem XQ (H:Hp) (c:UInt8) (n:Nat) (hn:n<=100) (w:World) (hA:Agr H w):Calls prg 60 #[.int .u8 c.toNat,iN n] w λr w'=>∃ (v:Value) (H':Hp),Rep H' (.ps ((kZ c n).map bJ)) [v]/\r=.returned v/\wV H w H' w':=by
 refine Sx.enter (H:=H) func60 rfl ntmps60 rfl hA ?_;refine .sr<|.a Z Z<|.ns<|.a Z Z<|?_
 refine At.ps0 9 ?_;refine .nt<|.sq<|.sr<|.aq Z<|.bk<|.lp (X:=Nat × Value × List Value) [(0,_),(1,_)] ⟨Z,Z,Jt⟩ [] (λz=>[(5,z.2.1),(6,iN z.1)]) (λz=>H) (λz=>[.ps 9 z.2.1 z.2.2]) (λz=>z.1<=n/\z.2.2=(kZ c z.1).map bJ) (λz=>n - z.1) (0,cL,[]) (λ_ s=>s) ⟨Z,Z,Jt⟩ ⟨aD,Z⟩ λz hC=>?_
 obtain ⟨k,r,xs⟩:=z;dsimp only at hC|-;obtain ⟨hk0,hz⟩:=hC;have hxl:xs.length=k:=by rw [hz];simp [jY]
 refine .sq<|.sm Z<|.mv Z<|.yw (.lss Z Z)<|.nt<|.ce Z (λh9=>?_) (λh9=>?_)
 ·have hk:k<n:=aD
  exact .sk<|.tN<|.sq<|.bk<|.rg<|.mv Z<|.mv Z<|.mv Z<|.yw (.add Z Z (c:=((48+k:Nat):Int)) ((w6 aD).trans aD))<|.yw (.conv Z kG kN (c:=(((UInt8.ofNat (48+k)).toNat:Nat):Int)) (by rw [show ((UInt8.ofNat (48+k)).toNat:Int)=((48+k:Nat):Int) by simp [rJ];omega];simp only [IntKind.wrap,IntKind.signed,IntKind.bits];simp;omega))<|.bl Z (aI6 _ _) Z λb17=>.yw (.bytesStr (l:=nmB c k) aH9 dX Z Z (.box Hm z0))<|.bl Z (HB _) Z λb19=>.apP (u:=⟨(nmB c k).toArray⟩) PR bO7 Z (λ_=>iE) Z (.box Hm z0) (by simp [nmB,ByteArray.size]) (by simp [maxLen];omega) aD Z λr20=>.a Z Z<|.nl<|.bN<|.tN<|.rg<|.mv Z<|.yw (.add Z Z w7)<|.aq Z<|.ag (x:=(k,r,xs)) (k+1,r20,xs++[bJ (nmB c k)]) ⟨Z,Z,Jt⟩ ⟨Z,Z,Jt⟩ (λ_ s=>(s.pick [2] _ Z Z)) ⟨by dsimp only;omega,by dsimp only;rw [XR,bI,hz];rfl⟩ (by dsimp only;omega)
 obtain rfl:k=n:=aD
 refine .ex<|.eb<|.sm Z<|.az Z<|?_
 refine At.pm [0] [_] rfl rfl ?_;refine Sx.freezePs λH3 p3 c3 u3 _ hr3 hs3=>?_;exact y9 Z Z λW t=>⟨r,H3,by rw [hz] at hs3;exact hs3,Z,u3.grow t⟩
theorem lZ (H:Hp) (c:UInt8) (n:Nat) (hn:n<=100) (w:World) (hA:Agr H w):Calls prg 60 #[.int .u8 c.toNat,iN n] w λr w'=>∃ (v:Value) (H':Hp),Rep H' (.seq 1 ((kZ c n).map zU)) [v]/\r=.returned v/\wV H w H' w':=by
 refine (XQ H c n hn w hA).mono ?_;rintro r w' ⟨v,H',h,e,g⟩;have h2:=Rep.ps_seq h;rw [tM] at h2;exact ⟨v,H',h2,e,g⟩
variable {H:Hp} {cs:List Value}
theorem aJ2 {c:UInt8} (h:Rep H (dU8 c) cs):cs=[.int .u8 c.toNat]:=by unfold dU8 Rep at h;exact h.1
variable {w0 W:World} {bs:List Res} {b:Nat} {M:Mk}
theorem pZ {arV bv:Value} {left:Int} {by_:Bs} (n:Nat) (hn:0<n) (hb:Rep H (.seq 1 ((by_).map dU8)) [bv]) (s:St H w0 (.box b (mkC M arV bv left) 133::bs) W) :
 Calls prg 164 #[.pointer (dI b),iN n] W λe W'=>∃ z:Value,Rep H (.seq 1 (((cC by_ n).2).map dU8)) [z]/\e=.returned (iN ((cC by_ n).1))/\St H w0 (.box b (mkC M arV z left) 133::bs) W':=by
 obtain ⟨p,c,e,hlen,_⟩:=hb.sl;simp only [bV,dL,aP] at e;subst e;rw [aP] at hlen;have hcap:=hb.cap;refine iB func164 rfl ntmps164 rfl s ?_;refine .sr<|.aq Z<|.sq<|.sm Z<|.nC Z<|.fA Z qT<|.lD Z qP Hm Z<|.yw (.lenSl rP Z)<|.yw (.eql Z Z)<|.nt<|.ce Z (λh11=>?_) (λh11=>?_)
 ·have h0:by_=[]:=bK aD;subst h0;refine .sr<|.az Z<|.tR<|?_
  exact y9 Z Z λW t=>⟨_,hb,Z,t⟩
 obtain ⟨bE,oE,cE,hpE,rE,lE,mE⟩:=hb.elem (eR (f:=dU8) (show 0<by_.length by omega));subst hpE;obtain rfl:=aJ2 rE
 obtain ⟨cB,rB,hby⟩:∃ cB rB,by_=cB::rB:=by
  match by_,hlen with
  | [],_=>simp at h11
  | cB::rB,_=>exact ⟨cB,rB,Z⟩
 subst hby;simp only [List.getElem_cons_zero] at mE;refine .sk<|.tN<|.sm Z<|.nC Z<|.fA Z qT<|.lD Z qP Hm Z<|.yw (.indexSl rP Z Z (i:=0) Z aD (q:=oE+0 * 1) aD)<|.yw (.loadM Z nM mE (k:=0) Z Z)<|.yw (.conv Z kN kG (c:=((cB.toNat:Nat):Int)) (w64 (by have:=cB.toNat_lt;omega) (by have:=cB.toNat_lt;omega)))<|.a Z Z<|.ns<|.mv Z<|.mv Z<|.nC Z<|.fA Z qT<|.lD Z qP Hm Z<|.yw (.cutLo rP Z Z (lo:=1) Z aD hb.len.2.1)<|.nC Z<|.fA Z qT<|.st (l':=mkC M arV _ left) .head Z Z KF Z (nb Z) Z<|.ns<|.mv Z<|.mv Z<|.yw (.rem Z Z aD (c:=((cB.toNat % n:Nat):Int)) (by rw [dJ aD];omega))<|.az Z<|?_
 exact y9 Z Z λW t=>⟨_,XF hb (lo:=1) aD,Z,t⟩
theorem QY:dU prg 133 0=some 0:=by kernel_rfl
def okM (M:Mk):Prop:=0<M.ints/\M.ints<=3/\M.params<=2/\M.flags<=2
variable {k:Nat} {p:Option Addr}
theorem uO {c:UInt8} {n cp:Nat} (h:Rep H (.seq 1 ((kZ c n).map zU)) [.slice p n cp]) (hk:k<n):∃ b o,p=some ⟨b,o,none⟩/\lW H b (o+k * 1) [bJ (nmB c k)]:=by
 obtain ⟨b,o,cs,e,r,l,m⟩:=h.elem (i:=k) (d:=zU (nmB c k)) (by rw [List.getElem?_map,aR0 hk];rfl);obtain ⟨rfl,_⟩:=bA2 r;exact ⟨b,o,e,m⟩
theorem GR {arV bv:Value} {left:Int} {by_:Bs} (hM:okM M) (hb:Rep H (.seq 1 ((by_).map dU8)) [bv]) (s:St H w0 (.box b (mkC M arV bv left) 133::bs) W) :
 Calls prg 185 #[.pointer (dI b)] W λe W'=>∃ z:Value × Hp,(HUp w0 H z.2/\Rep z.2 (.seq 1 (((cC by_ M.ints).2).map dU8)) [z.1])/\e=.returned (bJ (nmB 120 (cC by_ M.ints).1))/\St z.2 w0 (.box b (mkC M arV z.1 left) 133::bs) W':=by
 refine iB func185 rfl ntmps185 rfl s ?_;refine .sr<|.aq Z<|.sq<|.fL 9 [(1,0),(2,0),(3,0),(4,0),(5,0),(0,1),(6,2),(7,0),(8,0)]<|.mv Z<|.mv Z<|.nC Z<|.fA Z QY<|.lD Z bQ Hm Z<|.xt (X:=Value) Z (λW s=>lZ H 120 3 aD W s.agr) λv3 H3 hn3 u3=>?_
 obtain ⟨pn3,cn3,e3,_⟩:=hn3.sl;simp only [bV,dL,aP,jY] at e3;subst e3;obtain ⟨bE,oE,hpE,mE⟩:=uO hn3 (k:=(cC by_ M.ints).1) (by have:=mQ by_ hM.1;have:=hM.2.1;omega);subst hpE;refine .xs (X:=Value) Z (λW s=>pZ M.ints hM.1 (hb.up u3.up)  (s.p1_1 [0] Z)) λz9 hz9=>.yw (.indexSl fD Z Z (i:=(cC by_ M.ints).1) Z (by have:=mQ by_ hM.1;have:=hM.2.1;omega) (q:=oE+(cC by_ M.ints).1 * 1) Z)<|.yw (.loadM Z bT mE (k:=0) Z Z)<|.fn (tl:=[_]) Z<|.az Z<|?_
 exact y9 Z Z λW t=>⟨(z9,H3),⟨u3,hz9⟩,Z,(t.p1_1 [0] rfl)⟩
theorem tB:dU prg 133 1=some 1:=by kernel_rfl
theorem wC:dU prg 133 5=some 5:=by kernel_rfl
theorem yR:slN prg 124=some 1:=by kernel_rfl
theorem oO (x0:Int) (x1:ByteArray):eX prg 83 [(0,.int .i64 x0),(1,.string x1)]=some [.int .i64 x0,.string x1,.int .i64 0,cL]:=by kernel_rfl
theorem yV (x0:Int) (x1:ByteArray) (x3p:Option Addr) (x3n x3c:Nat):eX prg 83 [(0,.int .i64 x0),(1,.string x1),(3,.slice x3p x3n x3c)]=some [.int .i64 x0,.string x1,.int .i64 0,.slice x3p x3n x3c]:=by kernel_rfl
theorem oM (x0:Int) (x3p:Option Addr) (x3n x3c:Nat):eX prg 83 [(0,.int .i64 x0),(3,.slice x3p x3n x3c)]=some [.int .i64 x0,dV,.int .i64 0,.slice x3p x3n x3c]:=by kernel_rfl
theorem ZP (x0 x1 x2 x3 x4 x5:Int):pG prg 124 6 [(0,.int .i64 x0),(1,.int .i64 x1),(2,.int .i64 x2),(3,.int .i64 x3),(4,.int .i64 x4),(5,.int .i64 x5)]=some (3,[.int .i64 x0,.int .i64 x1,.int .i64 x2,.int .i64 x3,.int .i64 x4,.int .i64 x5]):=by kernel_rfl
theorem vP (x00 x01 x02 x03 x10 x11 x12 x13:Value):pG prg 24 2 [(0,.agg [x00,x01,x02,x03].toArray),(1,.agg [x10,x11,x12,x13].toArray)]=some (83,[x00,x01,x02,x03,x10,x11,x12,x13]):=by kernel_rfl
end Go.Proofs.YtidclioghdbphaaGreatDoor
