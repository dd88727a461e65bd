/- Texts of the proof, one behind the other. -/
import Derived.Test.YthhoebdlfjffkaaGreatDoorMc
import Derived.ChangeKeysEq
import Derived.RangeFuncNested
import Derived.RangeFuncLeaves
import Derived.RangeFuncCalls
import Derived.OwnWalkIn
import Derived.TacticsIn
set_option linter.all false
namespace Go.Sx
open Go.RowKit Go.Par
inductive EK where
 | b | s | i
def ekOf (P : Program) (t : TypeId) : Option EK :=
 match P.underlying t with
 | some .bool => some .b
 | some .string => some .s
 | some (.int _) => some .i
 | _ => none
def eqV1 : EK → Value → Value → Option Bool
 | .b,.bool a,.bool b => some (decide (a = b))
 | .s,.string a,.string b => some (decide (a = b))
 | .i,.int k a,.int k' b => if k = k' then some (decide (a = b)) else none
 | _,_,_ => none
def eqVs : List (Nat × EK) → List Value → List Value → Option Bool
 | [],_,_ => some true
 | (o,k) :: r,cs,ds =>
  match cs[o]?,ds[o]? with
  | some a,some b =>
   match eqV1 k a b,eqVs r cs ds with
   | some p,some q => some (p && q)
   | _,_ => none
  | _,_ => none
def fkOf (P : Program) (f : Field) : Option (Nat × EK) := if f.name = "_" then none else (ekOf P f.type).map fun k => (f.offset,k)
def eqT (P : Program) (T : TypeId) : Option (List (Nat × EK)) :=
 match P.underlying T with
 | some (.struct fs) => if P.stoodInHeld T || P.eqGuardType P.depth T then none else fs.toList.mapM (fkOf P)
 | _ => none
section
variable {dfs : List Deferred} {P : Program}
theorem ekOf_plain {t : TypeId} {k : EK} (h : ekOf P t = some k) : P.plainKey t = true := by
 unfold ekOf at h;unfold Program.plainKey
 split at h <;> simp_all
theorem run_eqV1 {t : TypeId} {k : EK} {a b : Value} {r : Bool} (hk : ekOf P t = some k) (h : eqV1 k a b = some r) (d : Nat) (w : World) : (Op.equalIn (d + 1) t a b).run P w = .ok r w := by
 unfold ekOf at hk
 unfold eqV1 at h
 split at h
 ·split at hk <;> simp only [Option.some.injEq,reduceCtorEq] at hk
  rename_i hu
  rw [run_equalIn_bool w d t _ _ hu]
  cases h
  rfl
 ·split at hk <;> simp only [Option.some.injEq,reduceCtorEq] at hk
  rename_i hu
  rw [run_equalIn_string w d t _ _ hu]
  cases h
  congr 1
  rw [Bool.eq_iff_iff,beq_iff_eq,decide_eq_true_eq]
  constructor
  ·intro e;rwa [ByteArray.toList_eq,ByteArray.toList_eq,Array.toList_inj,← ByteArray.ext_iff] at e
  ·intro e;rw [e]
 ·split at hk <;> simp only [Option.some.injEq,reduceCtorEq] at hk
  rename_i hu
  split at h
  ·rename_i e
   subst e
   rw [run_equalIn_int w d t _ _ _ _ hu]
   cases h
   rfl
  ·cases h
 ·cases h
theorem run_eqVs (d : Nat) (w : World) (cs ds : List Value) : ∀ (fs : List Field) (ks : List (Nat × EK)) (r : Bool),fs.mapM (fkOf P) = some ks → eqVs ks cs ds = some r → (Op.eqFields (d + 1) cs.toArray ds.toArray fs).run P w = .ok r w
 | [],ks,r,hk,hr => by
  simp at hk
  subst hk
  simp only [eqVs,Option.some.injEq] at hr
  subst hr
  simp [Op.eqFields]
 | f :: fs,ks,r,hk,hr => by
  rw [List.mapM_cons] at hk
  simp only [bind,Option.bind_eq_some_iff,pure,Option.some.injEq] at hk
  obtain ⟨k,hk1,ks',hk2,rfl⟩ := hk
  unfold fkOf at hk1
  split at hk1
  ·cases hk1
  rename_i hn
  rw [Option.map_eq_some_iff] at hk1
  obtain ⟨e,he,rfl⟩ := hk1
  simp only [eqVs] at hr
  split at hr
  ·rename_i a b ha hb
   split at hr
   ·rename_i p q hp hq
    cases hr
    have h1 := run_part_plain w (ekOf_plain he) (xs := cs.toArray) (off := f.offset) (v := a) (by simpa using ha)
    have h2 := run_part_plain w (ekOf_plain he) (xs := ds.toArray) (off := f.offset) (v := b) (by simpa using hb)
    have h3 := run_eqV1 he hp d w
    have h4 := run_eqVs d w cs ds fs ks' q hk2 hq
    simp only [Op.eqFields,hn,ne_eq,not_false_eq_true,if_true,Sem.run_bind,h1,h2,h3,Result.andThen_ok]
    cases p
    ·simp
    ·simpa using h4
   ·cases hr
  ·cases hr
theorem run_eqT {T : TypeId} {ks : List (Nat × EK)} {cs ds : List Value} {r : Bool} (hT : eqT P T = some ks) (hr : eqVs ks cs ds = some r) (w : World) :
 (Op.equal T (.agg cs.toArray) (.agg ds.toArray)).run P w = .ok r w ∧ P.eqGuardType P.depth T = false := by
 unfold eqT at hT
 split at hT
 ·rename_i fs hu
  split at hT
  ·cases hT
  rename_i hb
  rw [Bool.not_eq_true,Bool.or_eq_false_iff] at hb
  have hf : P.fieldsOf T = fs := by simp [Program.fieldsOf,hu]
  refine ⟨?_,hb.2⟩
  show (Op.equalIn (9998 + 1 + 1) T _ _).run P w = _
  rw [run_equalIn_struct w (9998 + 1) T _ _ (by rw [hf];exact hu) hb.1,hf]
  exact run_eqVs 9998 w cs ds fs.toList ks r hT hr
 ·cases hT
variable {n : Nat} {L : Sl} {H : Hp} {w0 : World} {bs : List Res} {d : Option Tmp} {ty : TypeId} {pos : String} {aft : Array Edge} {g : Option (Nat × Bool)} {x y : Operand} {T T' : TypeId}
theorem Yl.neA {ks : List (Nat × EK)} {cs ds : List Value} {r : Bool} (hT : eqT P T = some ks) (hx : ev L x = some (.agg cs.toArray)) (hy : ev L y = some (.agg ds.toArray)) (hr : eqVs ks cs ds = some r) : Yl P L H w0 bs ⟨d,.binOp .neq T x y T',ty,pos,aft,g⟩ (.bool (!r)) := .of_run fun a W f _ => by
 obtain ⟨h1,h2⟩ := run_eqT hT hr W
 unfold execOp
 simp [f x _ hx,f y _ hy,eqGuard,h2,binOp,h1]
theorem FlowP.gd {ops : Array Oper} {N hn i k j : Nat} {b : Bool} {u : Tmp} {op : Op} {pa : List (Nat × Oper × Value)} {E : Sl → Hp → List Res → Prop} {q : List (Nat × Nat × Oper)} (hd : (ops[j]?).bind (·.dst) = some u) (hs : look L u = some (.bool b)) (h : FlowP dfs P ops hn w0 N E ((i,k + 1,⟨d,op,ty,pos,aft,none⟩) :: q) pa L H bs) :
 FlowP dfs P ops hn w0 N E ((i,k + 1,⟨d,op,ty,pos,aft,some (j,b)⟩) :: q) pa L H bs := ⟨h.1,guardT hd hs h.2⟩
end
theorem Rep.cells {H : Hp} {z n c : Nat} {ds : List D} {p : Option Addr} (h : Rep H (.seq z ds) [.slice p n c]) : ∃ cf : Nat → List Value,∀ i d,ds[i]? = some d → ∃ b off,p = some ⟨b,off,none⟩ ∧ Rep H d (cf i) ∧ (cf i).length = z ∧ MemAt H b (off + i * z) (cf i) := by
 classical
 refine ⟨fun i => if h : ∃ cs,∀ d,ds[i]? = some d → ∃ b off,p = some ⟨b,off,none⟩ ∧ Rep H d cs ∧ cs.length = z ∧ MemAt H b (off + i * z) cs then Classical.choose h else [],fun i d hd => ?_⟩
 have ex : ∃ cs,∀ d,ds[i]? = some d → ∃ b off,p = some ⟨b,off,none⟩ ∧ Rep H d cs ∧ cs.length = z ∧ MemAt H b (off + i * z) cs := by
  obtain ⟨b,off,cs,h1,h2,h3,h4⟩ := h.elem hd
  refine ⟨cs,fun d' hd' => ?_⟩
  rw [hd] at hd'
  injection hd' with e
  subst e
  exact ⟨b,off,h1,h2,h3,h4⟩
 simp only [dif_pos ex]
 exact Classical.choose_spec ex d hd
theorem subL {vs l : List Value} {k : Nat} (h : (l.drop k).take vs.length = vs) : ∀ (j : Nat) u,vs[j]? = some u → l[k + j]? = some u := fun j u hj => by
 rw [← h,List.getElem?_take] at hj
 split at hj
 ·rw [List.getElem?_drop] at hj;exact hj
 ·cases hj
section
variable {dfs : List Deferred} {P : Program} {n : Nat} {L : Sl} {H : Hp} {w0 : World} {bs : List Res} {Q : Exit → Act → World → Prop} {ops : Array Oper} {rest : List Oper} {K : Act → World → Prop}
variable {d : Option Tmp} {ty : TypeId} {pos : String} {aft : Array Edge} {v : Value} {t : Tmp} {x : Operand}
theorem callSV {X : Type} {f : FuncId} {xs : List Operand} {vs fi ca : List Value} {ats : Array TypeId} {C : X → Prop} {val : X → Value} {H' : X → Hp} {bs' : X → List Res} (hx : ev L x = some (.func (.func f) fi.toArray ca.toArray)) (hf : callN P f = true) (hv : evs L xs = some vs)
 (hc : ∀ W,St H w0 bs W → Calls P f (fi ++ vs ++ ca).toArray W fun e W' => ∃ x,C x ∧ e = .returned (val x) ∧ St (H' x) w0 (bs' x) W') (ht : Nat.blt t n = true)
 (h : ∀ x,C x → At dfs n ((t,val x) :: L) (H' x) w0 (bs' x) K) :
 At dfs n L H w0 bs (one P ops Q ⟨some t,.call ⟨.value x,xs.toArray,ats⟩,ty,pos,aft,none⟩ K) := by
 intro a W f0 s
 refine one_plain rfl ?_
 unfold Oper.wp
 rw [exec_callV hf (fun x u e => f0.ev e) hx hv]
 refine (hc W s).mono ?_
 rintro e W' ⟨x,hx,rfl,hs⟩
 exact h x hx _ _ (f0.put ht _) hs
theorem At.sv {X : Type} {f : FuncId} {xs : List Operand} {vs fi ca : List Value} {ats : Array TypeId} {C : X → Prop} {val : X → Value} {H' : X → Hp} {bs' : X → List Res} (hx : ev L x = some (.func (.func f) fi.toArray ca.toArray)) (hf : callN P f = true) (hv : evs L xs = some vs)
 (hc : ∀ W,St H w0 bs W → Calls P f (fi ++ vs ++ ca).toArray W fun e W' => ∃ x,C x ∧ e = .returned (val x) ∧ St (H' x) w0 (bs' x) W') (ht : Nat.blt t n = true)
 (h : ∀ x,C x → At dfs n ((t,val x) :: L) (H' x) w0 (bs' x) (wpList P ops Q rest)) : At dfs n L H w0 bs (wpList P ops Q (⟨some t,.call ⟨.value x,xs.toArray,ats⟩,ty,pos,aft,none⟩ :: rest)) := cons (callSV hx hf hv hc ht h)
theorem Yl.mkF {fn : Fn} {fs cs : List Operand} {fi ca : List Value} {g : Option (Nat × Bool)} (h1 : evs L fs = some fi) (h2 : evs L cs = some ca) : Yl P L H w0 bs ⟨d,.makeFunc fn fs.toArray cs.toArray,ty,pos,aft,g⟩ (.func fn fi.toArray ca.toArray) := .of_run fun a W f _ => by
 unfold execOp
 simp [evs_map f h1,evs_map f h2,Instr.makeFunc]
/-! ### Stores in a drawn region's head -/
section
variable {N hn i : Nat} {pa : List (Nat × Oper × Value)} {E : Sl → Hp → List Res → Prop} {r : List (Nat × Nat × Oper)} {T : TypeId} {y : Operand} {bs' : List Res}
theorem FlowP.into0 (hr : RedoP dfs P ops hn w0 N L H bs' i pa) (h : FlowP dfs P ops hn w0 N E r pa L H bs') :
 At dfs N L H w0 bs' (fun a' W' => ∃ v H' bs'',Fr dfs N (putL none v L) a' ∧ St H' w0 bs'' W' ∧ (2 = 1 ∨ (∀ W,St H' w0 bs'' W → St H w0 bs W) ∨ RedoP dfs P ops hn w0 N L H' bs'' i pa) ∧ FlowP dfs P ops hn w0 N E r pa (putL none v L) H' bs'') := fun _ _ f s => ⟨undef,H,bs',f,s,.inr (.inr hr),h⟩
theorem FlowP.sW {b : Nat} {l vs : List Value} {t' : TypeId} (hm : Upd bs (.box b l t') (.box b vs t') bs') (hp : ev L x = some (.pointer (some ⟨b,0,none⟩))) (hv : ev L y = some (.agg vs.toArray)) (hT : sizeN P T = some vs.length) (h1 : ∀ u ∈ vs,u.oneCell' = true) (ho : l.length = vs.length)
 (hr : RedoP dfs P ops hn w0 N L H bs' i pa) (h : FlowP dfs P ops hn w0 N E r pa L H bs') : FlowP dfs P ops hn w0 N E ((i,3,⟨none,.store T x y,ty,pos,aft,none⟩) :: r) pa L H bs :=
 ⟨fun _ e => (by cases e),storeW hp hv hT h1 hm ho (into0 hr h)⟩
theorem FlowP.st {b off : Nat} {l l' : List Value} {t' : TypeId} (hm : Upd bs (.box b l t') (.box b l' t') bs') (hp : ev L x = some (.pointer (some ⟨b,off,none⟩))) (hv : ev L y = some v) (hT : sizeN P T = some 1) (h1 : v.oneCell' = true) (ho : Nat.blt off l.length = true) (hl : l.set off v = l')
 (hr : RedoP dfs P ops hn w0 N L H bs' i pa) (h : FlowP dfs P ops hn w0 N E r pa L H bs') : FlowP dfs P ops hn w0 N E ((i,3,⟨none,.store T x y,ty,pos,aft,none⟩) :: r) pa L H bs :=
 ⟨fun _ e => (by cases e),store hp hv hT h1 hm (by simpa [Nat.blt_eq] using ho) hl (into0 hr h)⟩
end
section
variable {N hn i k : Nat} {pa : List (Nat × Oper × Value)} {E : Sl → Hp → List Res → Prop} {r : PlT} {T : TypeId} {y : Operand} {bs' : List Res}
theorem AltT.blF {ps : List (Nat × Operand)} {pv : List (Nat × Value)} {len : Nat} {e : TypeId} {l : List Value} (hv : evp L ps = some pv) (hb : bslN P T len pv = some (e,l)) (ht : Nat.blt t N = true)
 (h : ∀ b H1,HUp w0 H H1 → MemAt H1 b 0 l → FlowT dfs P ops hn w0 N E r pa ((t,.slice (some ⟨b,0,none⟩) len len) :: L) H1 bs) : AltT dfs P ops hn w0 N E i k ⟨some t,.buildSlice T len ps.toArray,ty,pos,aft,none⟩ r pa L H bs :=
 ⟨blt_of ht,buildSlice hv hb ht fun b => freezeBox fun H1 u m => AltT.into (.inr<|.inl fun _ s => s.weakH u.up) (h b H1 u m)⟩
theorem AltT.into0 (hr : RedoP dfs P ops hn w0 N L H bs' i pa) (h : FlowT dfs P ops hn w0 N E r pa L H bs') :
 At dfs N L H w0 bs' (fun a' W' => ∃ v H' bs'',Fr dfs N (putL none v L) a' ∧ St H' w0 bs'' W' ∧ (k = 1 ∨ (∀ W,St H' w0 bs'' W → St H w0 bs W) ∨ RedoP dfs P ops hn w0 N L H' bs'' i pa) ∧ FlowT dfs P ops hn w0 N E r pa (putL none v L) H' bs'') := fun _ _ f s => ⟨undef,H,bs',f,s,.inr (.inr hr),h⟩
end
end
section
variable {dfs : List Deferred} {P : Program} {L : Sl} {H : Hp} {w0 : World} {bs : List Res} {ops : Array Oper}
variable {ty : TypeId} {pos : String} {aft : Array Edge} {t : Tmp}
variable {N hn i k : Nat} {pa : List (Nat × Oper × Value)} {E : Sl → Hp → List Res → Prop} {r : List (Nat × Nat × Oper)} {T : TypeId}
theorem FlowP.blF {ps : List (Nat × Operand)} {pv : List (Nat × Value)} {len : Nat} {e : TypeId} {l : List Value} (hv : evp L ps = some pv) (hb : bslN P T len pv = some (e,l)) (ht : Nat.blt t N = true)
 (h : ∀ b H1,HUp w0 H H1 → MemAt H1 b 0 l → FlowP dfs P ops hn w0 N E r pa ((t,.slice (some ⟨b,0,none⟩) len len) :: L) H1 bs) : FlowP dfs P ops hn w0 N E ((i,k + 1,⟨some t,.buildSlice T len ps.toArray,ty,pos,aft,none⟩) :: r) pa L H bs :=
 ⟨blt_of ht,buildSlice hv hb ht fun b => freezeBox fun H1 u m => FlowP.into (.inr<|.inl fun _ s => s.weakH u.up) (h b H1 u m)⟩
end
class FW (F : Fence) : Prop where
 fn : ∀ f,F.fn f
 depth : F.depth = none
 calls : ∀ {n : Nat} {P : Program} {f : FuncId} {args : Array Value} {w : World} {R : Ending → World → Prop},Calls P f args w R → CallsIn F n P f args w R
 rows : ∀ {n : Nat} {P : Program} {r : String} {args : Array Value} {w : World} {R : Value → World → Prop},Rows P r args w R → RowsIn F n P r args w R
instance : FW Fence.wide := ⟨fun _ => trivial,rfl,fun h => callsIn_wide.2 h,fun h c cs _ => let ⟨v,w',r,s⟩ := h c cs;⟨v,w',r,stepsIn_wide.2 s⟩⟩
instance {l : Nat} : FW (Fence.wide.inRound l) := ⟨fun _ => trivial,rfl,fun h => CallsIn.inRound l (callsIn_wide.2 h),fun h c cs _ => let ⟨v,w',r,s⟩ := h c cs;⟨v,w',r,stepsIn_wide.2 s⟩⟩
section
variable {dfs : List Deferred} {P : Program} {n m : Nat} {L : Sl} {H : Hp} {w0 : World} {bs : List Res} {Q : Exit → Act → World → Prop} {ops : Array Oper} {rest : List Oper} {K : Act → World → Prop} {F : Fence}
variable {d : Option Tmp} {ty : TypeId} {pos : String} {aft : Array Edge} {g : Option (Nat × Bool)} {v : Value} {t : Tmp} {op : Op} {x y : Operand} {T : TypeId}
theorem wpIn_of_wp [hF : FW F] {o : Oper} {a : Act} {w : World} (hd : ∀ c,o.op ≠ .defer c) (h : o.wp P a w K (fun _ _ _ => False)) : o.wpIn F m P a w K Q := by
 unfold Oper.wpIn
 refine ⟨fun f _ => hF.fn f,?_⟩
 rw [Oper.semAt_plain F _ _ hd]
 unfold Oper.wp at h
 generalize (execOp a.eval o).run P w = r at *
 cases r with
 | ok z w' =>
  cases z <;> simp only [Oper.upon] at h <;> simp only [Oper.uponIn]
  case value u => exact h
  case skip => exact h
  case defer d => exact h
  case enter f args =>
   refine ⟨fun e => (by rw [hF.depth] at e;cases e),hF.calls (h.mono ?_)⟩
   intro e w'' q
   cases e with
   | returned v => exact q
   | panicked c => exact q.elim
   | outgrown => obtain ⟨_,_,q⟩ := q;exact q.elim
  case row rw args => exact ⟨fun e => (by rw [hF.depth] at e;cases e),hF.rows h⟩
 | halt z w' =>
  cases z <;> simp only [Oper.upon] at h
theorem consI [hF : FW F] {o : Oper} (hd : ∀ c,o.op ≠ .defer c) (h : At dfs n L H w0 bs (one P ops (fun _ _ _ => False) o (wpListIn F m P ops Q rest))) : At dfs n L H w0 bs (wpListIn F m P ops Q (o :: rest)) := by
 intro a W f s
 have h1 := h a W f s
 unfold one at h1
 unfold wpListIn
 cases hw : Region.wanted o (yielded ops a.tmps) with
 | true =>
  rw [hw] at h1
  simp only [if_true] at h1 ⊢
  rcases h1 with h1 | ⟨_,_,_,h1⟩
  ·exact wpIn_of_wp hd h1
  ·exact h1.elim
 | false =>
  rw [hw] at h1
  simp only [Bool.false_eq_true,if_false] at h1 ⊢
  exact ⟨fun f _ => hF.fn f,h1⟩
theorem At.rgI {id : Nat} {l : List Oper} (h : At dfs n L H w0 bs (wpListIn F m P l.toArray Q l)) : At dfs n L H w0 bs ((Code.region id l.toArray false).wpIn F m P Q) := fun a W f s => wpIn_region_lit (h a W f s)
theorem At.rgW {id : Nat} {l : List Oper} (m : Nat) (h : At dfs n L H w0 bs (wpListIn Fence.wide m P l.toArray Q l)) : At dfs n L H w0 bs ((Code.region id l.toArray false).wp P Q) := fun a W f s => wpIn_wide.1 (wpIn_region_lit (h a W f s))
theorem At.nlI (h : At dfs n L H w0 bs (Q .normal)) : At dfs n L H w0 bs (wpListIn F m P ops Q []) := h
theorem At.yvI [FW F] (hy : Yl P L H w0 bs ⟨some t,op,ty,pos,aft,none⟩ v) (ht : Nat.blt t n = true) (h : At dfs n ((t,v) :: L) H w0 bs (wpListIn F m P ops Q rest)) (hd : ∀ c,op ≠ .defer c := by intro c e;cases e) : At dfs n L H w0 bs (wpListIn F m P ops Q (⟨some t,op,ty,pos,aft,none⟩ :: rest)) := consI hd (yl hy ht h)
theorem At.mI [FW F] (hx : ev L x = some v) (ht : Nat.blt t n = true) (h : At dfs n ((t,v) :: L) H w0 bs (wpListIn F m P ops Q rest)) : At dfs n L H w0 bs (wpListIn F m P ops Q (⟨some t,.move x,ty,pos,aft,none⟩ :: rest)) := .yvI (.move hx) ht h
theorem At.alI [FW F] {l : List Value} (hz : zeroN P T = some l) (ht : Nat.blt t n = true) (h : ∀ b,At dfs n ((t,.pointer (some ⟨b,0,none⟩)) :: L) H w0 (.box b l T :: bs) (wpListIn F m P ops Q rest)) : At dfs n L H w0 bs (wpListIn F m P ops Q (⟨some t,.alloc T,ty,pos,aft,none⟩ :: rest)) := consI (by intro c e;cases e) (alloc hz ht h)
theorem At.sWI [FW F] {b : Nat} {l vs : List Value} {t' : TypeId} {bs' : List Res} (hm : Upd bs (.box b l t') (.box b vs t') bs') (hp : ev L x = some (.pointer (some ⟨b,0,none⟩))) (hv : ev L y = some (.agg vs.toArray)) (hT : sizeN P T = some vs.length) (h1 : ∀ u ∈ vs,u.oneCell' = true) (ho : l.length = vs.length) (h : At dfs n L H w0 bs' (wpListIn F m P ops Q rest)) :
 At dfs n L H w0 bs (wpListIn F m P ops Q (⟨none,.store T x y,ty,pos,aft,none⟩ :: rest)) := consI (by intro c e;cases e) (storeW hp hv hT h1 hm ho h)
end
/-! ### The caller's side of a range over a function -/
section
variable {H : Hp} {w0 W W' : World} {bs : List Res}
theorem St.beside {row : Option Nat} (s : St H w0 bs W) (g : W.grownBy W' row) (hr : ∀ r,row = some r → w0.heap.size ≤ r ∧ H r = none ∧ ∀ x ∈ bs,x.blk ≠ some r) : St H w0 bs W' := by
 have hb : ∀ k,k < W.heap.size → (∀ r,row = some r → k ≠ r) → W'.heap[k]? = W.heap[k]? := fun k hk hn => g.block k hk (fun e => hn k e.symm rfl)
 refine ⟨?_,?_,?_,s.apart⟩
 ·have e := s.ext
  unfold Ext at e ⊢
  refine ⟨g.os.trans e.os,g.tape.trans e.tape,g.output.trans e.output,Nat.le_trans e.size g.size,fun k hk => ?_⟩
  exact (hb k (Nat.lt_of_lt_of_le hk e.size) (fun r e' h => by have := (hr r e').1;omega)).trans (e.block k hk)
 ·intro b o e
  have := s.agr b o e
  rw [hb b (block_lt this) (fun r e' h => by subst h;rw [(hr b e').2.1] at e;cases e)]
  exact this
 ·intro x hx
  exact ⟨(s.own x hx).1.keep g.size (fun b e => hb b ((s.own x hx).1.lt e).2 (fun r e' h => by subst h;exact (hr b e').2.2 x hx e)),(s.own x hx).2⟩
def nobj : List Res → Bool
 | [] => true
 | .box .. :: r => nobj r
 | .row .. :: r => nobj r
 | _ :: _ => false
theorem nobj_cells : ∀ {bs : List Res},nobj bs = true → ∀ x ∈ bs,∀ base,x.ok base W → ∀ b,x.blk = some b → ∃ o,W.heap[b]? = some o ∧ o.isCells = true
 | [],_,x,hx,_,_,_,_ => by cases hx
 | .box c l t :: r,h,x,hx,base,ho,b,e => by
  rcases List.mem_cons.1 hx with rfl | hx
  ·obtain rfl : c = b := Option.some.inj e
   exact ⟨_,ho.2,rfl⟩
  ·exact nobj_cells (bs := r) h x hx base ho b e
 | .row et size v n xs :: r,h,x,hx,base,ho,b,e => by
  rcases List.mem_cons.1 hx with rfl | hx
  ·obtain ⟨_,⟨rfl,_⟩ | ⟨g,cap,cur,rfl,hg,hc,_⟩⟩ := ho
   ·cases e
   ·obtain rfl : g = b := Option.some.inj e
    exact ⟨_,hc,rfl⟩
  ·exact nobj_cells (bs := r) h x hx base ho b e
 | .obj .. :: _,h,_,_,_,_,_,_ => by cases h
 | .big .. :: _,h,_,_,_,_,_,_ => by cases h
theorem nobj_ne (s : St H w0 bs W) (h : nobj bs = true) {r : Nat} {o : Obj} (ho : W.heap[r]? = some o) (hc : o.isCells = false) : ∀ x ∈ bs,x.blk ≠ some r := by
 intro x hx e
 obtain ⟨o',h1,h2⟩ := nobj_cells h x hx _ (s.own x hx).1 r e
 rw [ho] at h1;cases h1;rw [hc] at h2;cases h2
theorem ownSt {α Z : Type} {B : Nat} {C : List α → Z → Prop} {rs : Z → List Res} (hB : w0.heap.size ≤ B) (hH : ∀ r,B ≤ r → H r = none) (hn : ∀ pre z,C pre z → nobj (rs z) = true) :
 OwnFrom B (fun pre W => ∃ z,C pre z ∧ St H w0 (rs z) W) := by
 rintro pre X Y row ⟨z,hz,s⟩ hg hr
 exact ⟨z,hz,s.beside hg fun r e => by
  obtain ⟨h1,o,h2,h3⟩ := hr r e
  exact ⟨Nat.le_trans hB h1,hH r h1,nobj_ne s (hn _ _ hz) h2 h3⟩⟩
theorem St.less {H' : Hp} (s : St H' w0 bs W) (u : Up H H') : St H w0 bs W := ⟨s.ext,fun b o e => s.agr b o (u b o e),fun x hx => ⟨(s.own x hx).1,fun b e => by
 cases h : H b with
 | none => rfl
 | some o => have := (s.own x hx).2 b e;rw [u b o h] at this;cases this⟩,s.apart⟩
theorem St.front {tl : List Res} (s : St H w0 (bs ++ tl) W) : St H w0 bs W := ⟨s.ext,s.agr,fun x hx => s.own x (List.mem_append_left _ hx),(List.pairwise_append.1 s.apart).1⟩
def tailOf (B : Nat) (W : World) : List Res := .big W.heap.size :: (List.range' B (W.heap.size - B)).filterMap fun k => match W.heap[k]? with
 | some o => if o.isCells then none else some (.obj k o)
 | none => none
theorem mem_tailOf {B : Nat} {x : Res} (h : x ∈ tailOf B W) : x = .big W.heap.size ∨ ∃ k o,x = .obj k o ∧ W.heap[k]? = some o ∧ o.isCells = false ∧ B ≤ k := by
 rcases List.mem_cons.1 h with rfl | h
 ·exact .inl Z
 ·obtain ⟨k,hk,he⟩ := List.mem_filterMap.1 h
  cases ho : W.heap[k]? with
  | none => rw [ho] at he;cases he
  | some o =>
   rw [ho] at he
   cases hc : o.isCells with
   | true => simp [hc] at he
   | false => exact .inr ⟨k,o,by simpa [hc] using he.symm,ho,hc,by have := List.mem_range'_1.1 hk;omega⟩
theorem St.tailOf {B : Nat} (s : St H w0 bs W) (hn : nobj bs = true) (hB : w0.heap.size ≤ B) (hH : ∀ r,B ≤ r → H r = none) : St H w0 (bs ++ tailOf B W) W := by
 refine ⟨s.ext,s.agr,?_,List.pairwise_append.2 ⟨s.apart,?_,?_⟩⟩
 ·intro x hx
  rcases List.mem_append.1 hx with hx | hx
  ·exact s.own x hx
  ·rcases mem_tailOf hx with rfl | ⟨k,o,rfl,ho,hc,hk⟩
   ·exact ⟨Nat.le_refl _,fun b e => by cases e⟩
   ·exact ⟨⟨Nat.le_trans hB hk,ho⟩,fun b e => by obtain rfl : k = b := Option.some.inj e;exact hH k hk⟩
 ·refine .cons (fun y _ b e => by cases e) ?_
  refine List.Pairwise.filterMap _ ?_ (List.pairwise_lt_range' (s := B) (n := W.heap.size - B))
  intro k j hlt x hx y hy b e e'
  have key : ∀ (m : Nat) (u : Res),(match W.heap[m]? with | some o => if o.isCells then none else some (Res.obj m o) | none => none) = some u → u.blk = some m := by
   intro m u hu
   cases ho : W.heap[m]? with
   | none => rw [ho] at hu;cases hu
   | some o =>
    rw [ho] at hu
    cases hc : o.isCells with
    | true => simp [hc] at hu
    | false =>
     simp [hc] at hu
     rw [← hu];rfl
  have h1 := key k x hx
  have h2 := key j y hy
  rw [h1] at e;rw [h2] at e'
  cases e;cases e'
  omega
 ·intro x hx y hy b e e'
  rcases mem_tailOf hy with rfl | ⟨k,o,rfl,ho,hc,hk⟩
  ·cases e'
  ·obtain rfl : k = b := Option.some.inj e'
   exact nobj_ne s hn ho hc x hx e
theorem St.keepsFrom {B : Nat} (s : St H w0 (bs ++ Sx.tailOf B W) W') : KeepsFrom B W W' := by
 refine ⟨?_,fun k o hk ho hc => ?_⟩
 ·exact (s.own _ (List.mem_append_right _ (List.mem_cons_self ..))).1
 ·have hm : Res.obj k o ∈ Sx.tailOf B W := by
   refine List.mem_cons_of_mem _ (List.mem_filterMap.2 ⟨k,List.mem_range'_1.2 ?_,?_⟩)
   ·have := block_lt ho
    omega
   ·rw [ho];simp [hc]
  exact ((s.own _ (List.mem_append_right _ hm)).1).2
def KpH (H : Hp) (W W' : World) : Prop := Agr H W → Agr H W'
def rE {α Z : Type} (C : List α → Z → Prop) (rs : Z → List Res) (H : Hp) (w0 : World) (tl : List Res) (xs : List α) : Exit → Act → World → Prop
 | .normal,_,W => ∃ z,C xs z ∧ St H w0 (rs z ++ tl) W
 | _,_,_ => False
theorem At.rE {α Z : Type} {C : List α → Z → Prop} {rs : Z → List Res} {tl : List Res} {xs : List α} {dfs : List Deferred} {n : Nat} {L : Sl} {H' : Hp} (z : Z) (u : Up H H') (hz : C xs z) (hb : bs = rs z ++ tl) :
 At dfs n L H' w0 bs (Sx.rE C rs H w0 tl xs .normal) := fun a W f s => ⟨z,hz,by rw [← hb];exact s.less u⟩
end
/-! ### A function with a range over a function in it -/
section
variable {P : Program} {n : Nat} {L : Sl} {H : Hp} {w0 : World} {bs bs' : List Res} {fn : Func} {R : Ending → World → Prop} {v : Value} {D : Nat}
theorem enterM {f : FuncId} {c : Code} {args : List Value} {w : World} (hf : P.funcs[f]? = some fn) (hb : fn.body = some c) (hn : fn.ntmps = n) (hl : Nat.ble args.length n = true) (hA : Agr H w)
 (h : At [] n (slots 0 args) H w [] (c.wp P (bodyPostM Fence.wide 9 P fn R))) : Calls P f args.toArray w R := by
 refine callsIn_wide.1 (callsIn_of_wp_marks (n := 9) hf hb trivial (wpIn_wide.2 (h _ _ ⟨?_,rfl,?_⟩ (.start hA))))
 ·have : args.length ≤ n := Nat.le_of_ble_eq_true hl
  simp [hn];omega
 ·intro t v e
  obtain ⟨_,h2⟩ := slots_at args 0 t v e
  rw [Nat.sub_zero] at h2
  have hlt : t < args.length := (List.getElem?_eq_some_iff.1 h2).1
  rw [Array.getD_eq_getD_getElem?]
  rw [Array.getElem?_append_left (by simpa using hlt)]
  simp [h2]
theorem St.shut {W : World} (s : St H w0 bs W) (u : Upd bs (.obj D (.deferred (some []))) (.obj D (.deferred none)) bs') : St H w0 bs' (W.putObj D (.deferred none)) := by
 obtain ⟨h1,h2⟩ := (s.own _ u.mem).1
 have hlt := block_lt h2
 have e := s.ext
 refine s.upd u ?_ (by simp [World.putObj]) ?_ ⟨h1,World.putObj_heap_same hlt⟩ (fun b e => .inl e)
 ·unfold Ext at e ⊢
  exact e.grown (grownBy_putObj' W D _) (by omega) (fun k e => by cases e;exact h1)
 ·intro b _ hne
  exact World.putObj_heap_other (fun h => hne (by rw [h];rfl))
theorem ret0M {e : Exit} (he : e = .ret ∨ e = .normal) (h : At [] n L H w0 bs (bodyPost P fn R e)) : At [] n L H w0 bs (bodyPostM Fence.wide 9 P fn R e) := by
 intro a W f s
 obtain ⟨h1,v,h2,h3⟩ : bodyPost P fn R .ret a W := by rcases he with rfl | rfl <;> exact h a W f s
 have h4 : LeavesInM Fence.wide 9 P fn a.tmps R a.defers .returning W := by
  rw [h1]
  exact ⟨v,h2,h3⟩
 rcases he with rfl | rfl <;> exact h4
theorem retM {e : Exit} (he : e = .ret ∨ e = .normal) (u : Upd bs (.obj D (.deferred (some []))) (.obj D (.deferred none)) bs') (h : At [] n L H w0 bs' (bodyPost P fn R .ret)) :
 At [{ target := .collected D,args := #[] }] n L H w0 bs (bodyPostM Fence.wide 9 P fn R e) := by
 intro a W f s
 obtain ⟨_,v,h2,h3⟩ := h { a with defers := [] } _ ⟨f.size,rfl,f.slot⟩ (s.shut u)
 have h4 : LeavesInM Fence.wide 9 P fn a.tmps R a.defers .returning W := by
  rw [f.defers]
  exact ⟨(by intro e;cases e),.inl ⟨D,_,rfl,run_takeDeferred (s.own _ u.mem).1.2,v,h2,h3⟩⟩
 rcases he with rfl | rfl <;> exact h4
end
/-! ### The iterator's side -/
section
variable {dfs : List Deferred} {P : Program} {n m l : Nat} {L : Sl} {H : Hp} {w0 : World} {bs : List Res} {Q : Exit → Act → World → Prop} {ops : Array Oper} {rest : List Oper} {F : Fence}
variable {d : Option Tmp} {ty : TypeId} {pos : String} {aft : Array Edge} {g : Option (Nat × Bool)} {t : Tmp} {x : Operand} {xs : List Operand} {vs : List Value} {ats : Array TypeId}
theorem Ext.grownBy {W W' : World} (e : Ext W W') : W.grownBy W' none := by
 unfold Ext at e
 exact ⟨e.os,e.tape,e.output,e.size,fun k hk _ => e.block k hk⟩
theorem AbidesFrom.ext {β : Type} {B : Nat} {J : β → World → Prop} (h : AbidesFrom B J) {s : β} {W W' : World} (hs : J s W) (e : Ext W W') : J s W' := h s W W' none hs (Ext.grownBy e) (fun r h => by cases h)
theorem exec_yield {a : Act} {W W' : World} {r : Next} (f0 : ∀ x u,ev L x = some u → a.eval x = u) (hx : ev L x = some (.func (.yield l) #[] #[])) (hv : evs L xs = some vs) (hr : (Instr.yield l vs.toArray).run P W = .ok r W') :
 (execOp a.eval ⟨d,.call ⟨.value x,xs.toArray,ats⟩,ty,pos,aft,g⟩).run P W = .ok r W' := by
 unfold execOp
 simp [resolve,Deferred.ofValue,f0 _ _ hx,invoke,evs_map f0 hv,hr]
theorem At.yd [hF : FW F] {J Jx : World → Prop} (hx : ev L x = some (.func (.yield l) #[] #[])) (hv : evs L xs = some vs) (ht : Nat.blt t n = true)
 (hy : ∀ W,St H w0 bs W → YieldAt F (m - 1) P l vs.toArray W fun e W' => (e = .returned (.bool true) ∧ J W' ∧ KpH H W W') ∨ (e = .returned (.bool false) ∧ Jx W'))
 (h1 : ∀ w1,J w1 → At dfs n ((t,.bool true) :: L) H w1 [] (wpListIn F m P ops Q rest))
 (h2 : ∀ w1,Jx w1 → At dfs n ((t,.bool false) :: L) (fun _ => none) w1 [] (wpListIn F m P ops Q rest)) :
 At dfs n L H w0 bs (wpListIn F m P ops Q (⟨some t,.call ⟨.value x,xs.toArray,ats⟩,ty,pos,aft,none⟩ :: rest)) := by
 intro a W f s
 unfold wpListIn
 rw [if_pos (by simp [Region.wanted])]
 unfold Oper.wpIn
 refine ⟨fun f _ => hF.fn f,?_⟩
 rw [Oper.semAt_plain F _ _ (by intro c e;cases e)]
 obtain ⟨fn,tmps,assign,body,hr,hR⟩ := hy W s
 rw [exec_yield (fun x u e => f.ev e) hx hv hr]
 refine ⟨fun e => (by rw [hF.depth] at e;cases e),hR.mono ?_⟩
 rintro e W' (⟨rfl,hj,hk⟩ | ⟨rfl,hj⟩)
 ·exact h1 W' hj _ _ (f.put ht _) (.start (hk s.agr))
 ·exact h2 W' hj _ _ (f.put ht _) (.start (fun b o e => by cases e))
theorem At.lj {c : Code} {X : Type} (L' : X → Sl) (J : X → World → Prop) (C : X → Prop) (μ : X → Nat) (x0 : X) (hC : C x0) (hL : Sub L (L' x0)) (hJ : J x0 w0)
 (round : ∀ x w1,C x → J x w1 → At dfs n (L' x) H w1 [] (c.wp P (Exit.then (fun a W => ∃ y w2,(C y ∧ μ y < μ x) ∧ J y w2 ∧ Fr dfs n (L' y) a ∧ St H w2 [] W) Q))) :
 At dfs n L H w0 [] ((Code.loop c).wp P Q) := by
 intro a W f s
 refine wp_loop_ghost (fun m a W => ∃ x w1,μ x = m ∧ C x ∧ J x w1 ∧ Fr dfs n (L' x) a ∧ St H w1 [] W) _ ⟨x0,w0,rfl,hC,hJ,f.sub hL,s⟩ ?_
 rintro m a W ⟨x,w1,rfl,hx,hj,f,s⟩
 refine wp_mono (round x w1 hx hj a W f s) fun e a' W' q => ?_
 cases e <;> first | exact q | skip
 obtain ⟨y,w2,⟨hy,hlt⟩,hj,fy,sy⟩ := q
 exact ⟨_,hlt,y,w2,rfl,hy,hj,fy,sy⟩
theorem At.aj {X : Type} {J : X → World → Prop} {L' : X → Sl} {C : X → Prop} {μ : X → Nat} {x : X} (y : X) (hC : C y) (hm : μ y < μ x) (hJ : J y w0) (hL : Sub L (L' y)) :
 At dfs n L H w0 [] (fun a W => ∃ y w2,(C y ∧ μ y < μ x) ∧ J y w2 ∧ Fr dfs n (L' y) a ∧ St H w2 [] W) := fun _ W f s => ⟨y,w0,⟨hC,hm⟩,hJ,f.sub hL,s⟩
theorem seqStops {α : Type} {gf : Nat} {lb : List Value} {enc : α → Value} {S : List α → Prop} {N : Nat} {w : World} {fn : Func} {c : Code} (hf : P.funcs[gf]? = some fn) (hb : fn.body = some c) (hn : fn.ntmps = n) (hl : Nat.ble (lb.length + 1) n = true)
 (hA : ∀ W,Ext w W → Agr H W)
 (h : ∀ l (J Jx : List α → World → Prop) W,(∀ s A B,J s A → Ext A B → J s B) → (∀ s A B,Jx s A → Ext A B → Jx s B) →
  (∀ pre x W1,J pre W1 → pre.length < N → YieldAt Fence.wide 7 P l #[enc x] W1 fun e W' => (e = .returned (.bool true) ∧ J (pre ++ [x]) W' ∧ KpH H W1 W') ∨ (e = .returned (.bool false) ∧ Jx (pre ++ [x]) W')) →
  J [] W → At [] n (slots 0 (.func (.yield l) #[] #[] :: lb)) H W [] (c.wp P (bodyPost P fn fun e W' => (∃ v,e = .returned v) ∧ ((∃ xs,S xs ∧ J xs W') ∨ (∃ pre,True ∧ Jx pre W'))))) :
 SeqStopsK Fence.wide 8 P gf lb.toArray (fun x => #[enc x]) (KpH H) S (fun _ => True) N w := by
 intro l J Jx W hW hJ hJx hY h0
 refine callsIn_wide.2 ?_
 have : (#[Value.func (.yield l) #[] #[]] ++ lb.toArray : Array Value) = (Value.func (.yield l) #[] #[] :: lb).toArray := by simp
 rw [this]
 exact enter hf hb hn hl (hA W (by unfold Ext;exact hW)) (h l J Jx W (fun s A B h e => Sx.AbidesFrom.ext hJ h e) (fun s A B h e => Sx.AbidesFrom.ext hJx h e) hY h0)
end
theorem Res.ok.base {b c : Nat} {W : World} {x : Res} (h : x.ok c W) (hb : b ≤ c) : x.ok b W := by
 cases x with
 | box d l t => exact ⟨Nat.le_trans hb h.1,h.2⟩
 | obj d o => exact ⟨Nat.le_trans hb h.1,h.2⟩
 | big d => exact h
 | row et size v n xs =>
  obtain ⟨hl,⟨rfl,h0⟩ | ⟨g,cap,cur,rfl,hg,hc,hr⟩⟩ := h
  ·exact ⟨hl,.inl ⟨rfl,h0⟩⟩
  ·exact ⟨hl,.inr ⟨g,cap,cur,rfl,Nat.le_trans hb hg,hc,hr⟩⟩
theorem St.join {H H' : Hp} {w0 W W' : World} {bs bs' : List Res} (s : St H w0 bs W) (u : HUp W H H') (k : St H' W bs' W') : St H' w0 (bs' ++ bs) W' := by
 refine ⟨s.ext.trans k.ext,k.agr,fun x hx => ?_,List.pairwise_append.2 ⟨k.apart,s.apart,fun x hx y hy b e e' => ?_⟩⟩
 ·rcases List.mem_append.1 hx with hx | hx
  ·exact ⟨(k.own x hx).1.base s.ext.size,(k.own x hx).2⟩
  ·exact ⟨(s.own x hx).1.ext k.ext,fun b e => u.new b ((s.own x hx).2 b e) ((s.own x hx).1.lt e).2⟩
 ·have h1 := ((k.own x hx).1.lt e).1
  have h2 := ((s.own y hy).1.lt e').2
  omega
section
variable {dfs : List Deferred} {P : Program} {L : Sl} {H : Hp} {w0 : World} {bs : List Res} {ops : Array Oper}
variable {ty : TypeId} {pos : String} {aft : Array Edge} {t : Tmp} {x : Operand}
variable {N hn i k : Nat} {pa : List (Nat × Oper × Value)} {E : Sl → Hp → List Res → Prop} {r : List (Nat × Nat × Oper)}
theorem FlowP.v3 {X : Type} {f : FuncId} {xs : List Operand} {vs fi ca : List Value} {ats : Array TypeId} {C : X → Prop} {val : X → Value} {H' : X → Hp} {bs' : X → List Res} (hx : ev L x = some (.func (.func f) fi.toArray ca.toArray)) (hf : callN P f = true) (hv : evs L xs = some vs)
 (hc : ∀ W,St H w0 bs W → Calls P f (fi ++ vs ++ ca).toArray W fun e W' => ∃ x,C x ∧ e = .returned (val x) ∧ St (H' x) w0 (bs' x) W') (ht : Nat.blt t N = true)
 (hr : ∀ x,C x → RedoP dfs P ops hn w0 N L (H' x) (bs' x) i pa) (h : ∀ x,C x → FlowP dfs P ops hn w0 N E r pa ((t,val x) :: L) (H' x) (bs' x)) : FlowP dfs P ops hn w0 N E ((i,3,⟨some t,.call ⟨.value x,xs.toArray,ats⟩,ty,pos,aft,none⟩) :: r) pa L H bs :=
 ⟨blt_of ht,callSV hx hf hv hc ht fun x hx => FlowP.into (.inr<|.inr<|hr x hx) (h x hx)⟩
end
end Go.Sx
namespace Go.Proofs.YthhoebdlfjffkaaGreatDoor
open Go.RowKit Go.Par Go.Sx
theorem Fx.bsl52_25 (x0 : ByteArray) (x1 : ByteArray) (x2 : ByteArray) (x3 : ByteArray) (x4 : ByteArray) (x5 : ByteArray) (x6 : ByteArray) (x7 : ByteArray) (x8 : ByteArray) (x9 : ByteArray) (x10 : ByteArray) (x11 : ByteArray) (x12 : ByteArray) (x13 : ByteArray) (x14 : ByteArray) (x15 : ByteArray) (x16 : ByteArray) (x17 : ByteArray) (x18 : ByteArray) (x19 : ByteArray) (x20 : ByteArray) (x21 : ByteArray) (x22 : ByteArray) (x23 : ByteArray) (x24 : ByteArray) : bslN Tryz.prog 52 25 [(0,.string x0),(1,.string x1),(2,.string x2),(3,.string x3),(4,.string x4),(5,.string x5),(6,.string x6),(7,.string x7),(8,.string x8),(9,.string x9),(10,.string x10),(11,.string x11),(12,.string x12),(13,.string x13),(14,.string x14),(15,.string x15),(16,.string x16),(17,.string x17),(18,.string x18),(19,.string x19),(20,.string x20),(21,.string x21),(22,.string x22),(23,.string x23),(24,.string x24)] = some (9,[.string x0,.string x1,.string x2,.string x3,.string x4,.string x5,.string x6,.string x7,.string x8,.string x9,.string x10,.string x11,.string x12,.string x13,.string x14,.string x15,.string x16,.string x17,.string x18,.string x19,.string x20,.string x21,.string x22,.string x23,.string x24]) := by kernel_rfl
theorem Fx.bsl52_39 (x0 : ByteArray) (x1 : ByteArray) (x2 : ByteArray) (x3 : ByteArray) (x4 : ByteArray) (x5 : ByteArray) (x6 : ByteArray) (x7 : ByteArray) (x8 : ByteArray) (x9 : ByteArray) (x10 : ByteArray) (x11 : ByteArray) (x12 : ByteArray) (x13 : ByteArray) (x14 : ByteArray) (x15 : ByteArray) (x16 : ByteArray) (x17 : ByteArray) (x18 : ByteArray) (x19 : ByteArray) (x20 : ByteArray) (x21 : ByteArray) (x22 : ByteArray) (x23 : ByteArray) (x24 : ByteArray) (x25 : ByteArray) (x26 : ByteArray) (x27 : ByteArray) (x28 : ByteArray) (x29 : ByteArray) (x30 : ByteArray) (x31 : ByteArray) (x32 : ByteArray) (x33 : ByteArray) (x34 : ByteArray) (x35 : ByteArray) (x36 : ByteArray) (x37 : ByteArray) (x38 : ByteArray) : bslN Tryz.prog 52 39 [(0,.string x0),(1,.string x1),(2,.string x2),(3,.string x3),(4,.string x4),(5,.string x5),(6,.string x6),(7,.string x7),(8,.string x8),(9,.string x9),(10,.string x10),(11,.string x11),(12,.string x12),(13,.string x13),(14,.string x14),(15,.string x15),(16,.string x16),(17,.string x17),(18,.string x18),(19,.string x19),(20,.string x20),(21,.string x21),(22,.string x22),(23,.string x23),(24,.string x24),(25,.string x25),(26,.string x26),(27,.string x27),(28,.string x28),(29,.string x29),(30,.string x30),(31,.string x31),(32,.string x32),(33,.string x33),(34,.string x34),(35,.string x35),(36,.string x36),(37,.string x37),(38,.string x38)] = some (9,[.string x0,.string x1,.string x2,.string x3,.string x4,.string x5,.string x6,.string x7,.string x8,.string x9,.string x10,.string x11,.string x12,.string x13,.string x14,.string x15,.string x16,.string x17,.string x18,.string x19,.string x20,.string x21,.string x22,.string x23,.string x24,.string x25,.string x26,.string x27,.string x28,.string x29,.string x30,.string x31,.string x32,.string x33,.string x34,.string x35,.string x36,.string x37,.string x38]) := by kernel_rfl
theorem Fx.agg133 : aggN Tryz.prog 133 = Option.some (Option.some 3) := by kernel_rfl
theorem Fx.call131 : callN Tryz.prog 131 = Bool.true := by kernel_rfl
theorem Fx.call132 : callN Tryz.prog 132 = Bool.true := by kernel_rfl
theorem Fx.call133 : callN Tryz.prog 133 = Bool.true := by kernel_rfl
theorem Fx.call134 : callN Tryz.prog 134 = Bool.true := by kernel_rfl
theorem Fx.size133 : sizeN Tryz.prog 133 = Option.some 3 := by kernel_rfl
theorem Fx.zero133 : zeroN Tryz.prog 133 = Option.some
 [Go.Value.int Go.IntKind.i64 (Int.ofNat 0),Go.Value.string { data := { toList := [] } },
  Go.Value.int Go.IntKind.i64 (Int.ofNat 0)] := by kernel_rfl
theorem Fx.bld133_0_1_2 (x0 : Int) (x1 : ByteArray) (x2 : Int) : buildN Tryz.prog 133 [(0,.int .i64 x0),(1,.string x1),(2,.int .i64 x2)] = some [.int .i64 x0,.string x1,.int .i64 x2] := by kernel_rfl
theorem Fx.call92 : callN Tryz.prog 92 = Bool.true := by kernel_rfl
theorem Fx.call93 : callN Tryz.prog 93 = Bool.true := by kernel_rfl
theorem Fx.field133_1 : fieldN Tryz.prog 133 1 = Option.some 1 := by kernel_rfl
theorem Fx.row73 : rowN Tryz.prog 73 = Option.some (133,3,32) := by kernel_rfl
theorem Fx.bsl73_1 (x00 x01 x02 : Value) : bslN Tryz.prog 73 1 [(0,.agg [x00,x01,x02].toArray)] = some (133,[x00,x01,x02]) := by kernel_rfl
theorem Fx.sl129 : slN Tryz.prog 129 = Option.some 1 := by kernel_rfl
theorem Fx.bld33_0 (x0 : Int) : buildN Tryz.prog 33 [(0,.int .i64 x0)] = some [.int .i64 x0,.string ⟨#[]⟩,.int .i64 0,.slice none 0 0] := by kernel_rfl
theorem Fx.bld33_0_1 (x0 : Int) (x1 : ByteArray) : buildN Tryz.prog 33 [(0,.int .i64 x0),(1,.string x1)] = some [.int .i64 x0,.string x1,.int .i64 0,.slice none 0 0] := by kernel_rfl
theorem Fx.bld33_0_2 (x0 : Int) (x2 : Int) : buildN Tryz.prog 33 [(0,.int .i64 x0),(2,.int .i64 x2)] = some [.int .i64 x0,.string ⟨#[]⟩,.int .i64 x2,.slice none 0 0] := by kernel_rfl
theorem Fx.bld33_0_3 (x0 : Int) (x3p : Option Addr) (x3n x3c : Nat) : buildN Tryz.prog 33 [(0,.int .i64 x0),(3,.slice x3p x3n x3c)] = some [.int .i64 x0,.string ⟨#[]⟩,.int .i64 0,.slice x3p x3n x3c] := by kernel_rfl
theorem Fx.bsl129_6 (x0 : Int) (x1 : Int) (x2 : Int) (x3 : Int) (x4 : Int) (x5 : Int) : bslN Tryz.prog 129 6 [(0,.int .i64 x0),(1,.int .i64 x1),(2,.int .i64 x2),(3,.int .i64 x3),(4,.int .i64 x4),(5,.int .i64 x5)] = some (3,[.int .i64 x0,.int .i64 x1,.int .i64 x2,.int .i64 x3,.int .i64 x4,.int .i64 x5]) := by kernel_rfl
theorem Fx.bsl31_1 (x00 x01 x02 x03 : Value) : bslN Tryz.prog 31 1 [(0,.agg [x00,x01,x02,x03].toArray)] = some (33,[x00,x01,x02,x03]) := by kernel_rfl
theorem Fx.bsl31_2 (x00 x01 x02 x03 : Value) (x10 x11 x12 x13 : Value) : bslN Tryz.prog 31 2 [(0,.agg [x00,x01,x02,x03].toArray),(1,.agg [x10,x11,x12,x13].toArray)] = some (33,[x00,x01,x02,x03,x10,x11,x12,x13]) := by kernel_rfl
theorem Fx.row31 : rowN Tryz.prog 31 = Option.some (33,4,56) := by kernel_rfl
theorem Fx.agg205 : aggN Tryz.prog 205 = Option.some (Option.some 6) := by kernel_rfl
theorem Fx.size205 : sizeN Tryz.prog 205 = Option.some 6 := by kernel_rfl
theorem Fx.zero205 : zeroN Tryz.prog 205 = Option.some
 [Go.Value.int Go.IntKind.i64 (Int.ofNat 0),Go.Value.string { data := { toList := [] } },
  Go.Value.string { data := { toList := [] } },Go.Value.slice Option.none 0 0,Go.Value.slice Option.none 0 0,
  Go.Value.slice Option.none 0 0] := by kernel_rfl
theorem Fx.bld205_0 (x0 : Int) : buildN Tryz.prog 205 [(0,.int .i64 x0)] = some [.int .i64 x0,.string ⟨#[]⟩,.string ⟨#[]⟩,.slice none 0 0,.slice none 0 0,.slice none 0 0] := by kernel_rfl
theorem Fx.bld205_0_3_5 (x0 : Int) (x3p : Option Addr) (x3n x3c : Nat) (x5p : Option Addr) (x5n x5c : Nat) : buildN Tryz.prog 205 [(0,.int .i64 x0),(3,.slice x3p x3n x3c),(5,.slice x5p x5n x5c)] = some [.int .i64 x0,.string ⟨#[]⟩,.string ⟨#[]⟩,.slice x3p x3n x3c,.slice none 0 0,.slice x5p x5n x5c] := by kernel_rfl
theorem Fx.row156 : rowN Tryz.prog 156 = Option.some (205,6,112) := by kernel_rfl
theorem Fx.bsl156_1 (x00 x01 x02 x03 x04 x05 : Value) : bslN Tryz.prog 156 1 [(0,.agg [x00,x01,x02,x03,x04,x05].toArray)] = some (205,[x00,x01,x02,x03,x04,x05]) := by kernel_rfl
theorem Fx.row152 : rowN Tryz.prog 152 = Option.some (158,3,64) := by kernel_rfl
theorem Fx.bsl152_1 (x00 x01 x02 : Value) : bslN Tryz.prog 152 1 [(0,.agg [x00,x01,x02].toArray)] = some (158,[x00,x01,x02]) := by kernel_rfl
theorem Fx.bsl129_1 (x0 : Int) : bslN Tryz.prog 129 1 [(0,.int .i64 x0)] = some (3,[.int .i64 x0]) := by kernel_rfl
theorem Fx.call13 : callN Tryz.prog 13 = Bool.true := by kernel_rfl
theorem Fx.call28 : callN Tryz.prog 28 = Bool.true := by kernel_rfl
theorem Fx.agg81 : aggN Tryz.prog 81 = Option.some Option.none := by kernel_rfl
theorem Fx.agg82 : aggN Tryz.prog 82 = Option.some Option.none := by kernel_rfl
theorem Fx.agg83 : aggN Tryz.prog 83 = Option.some Option.none := by kernel_rfl
theorem Fx.agg85 : aggN Tryz.prog 85 = Option.some (Option.some 4) := by kernel_rfl
theorem Fx.agg143 : aggN Tryz.prog 143 = Option.some Option.none := by kernel_rfl
theorem Fx.agg144 : aggN Tryz.prog 144 = Option.some Option.none := by kernel_rfl
theorem Fx.agg146 : aggN Tryz.prog 146 = Option.some (Option.some 3) := by kernel_rfl
theorem Fx.field85_1 : fieldN Tryz.prog 85 1 = Option.some 1 := by kernel_rfl
theorem Fx.field85_2 : fieldN Tryz.prog 85 2 = Option.some 2 := by kernel_rfl
theorem Fx.field85_3 : fieldN Tryz.prog 85 3 = Option.some 3 := by kernel_rfl
theorem Fx.field146_1 : fieldN Tryz.prog 146 1 = Option.some 1 := by kernel_rfl
theorem Fx.field146_2 : fieldN Tryz.prog 146 2 = Option.some 2 := by kernel_rfl
theorem Fx.row81 : rowN Tryz.prog 81 = Option.some (141,2,24) := by kernel_rfl
theorem Fx.row82 : rowN Tryz.prog 82 = Option.some (142,3,40) := by kernel_rfl
theorem Fx.row83 : rowN Tryz.prog 83 = Option.some (146,3,64) := by kernel_rfl
theorem Fx.row143 : rowN Tryz.prog 143 = Option.some (148,3,32) := by kernel_rfl
theorem Fx.row144 : rowN Tryz.prog 144 = Option.some (152,1,24) := by kernel_rfl
theorem Fx.size81 : sizeN Tryz.prog 81 = Option.some 1 := by kernel_rfl
theorem Fx.size82 : sizeN Tryz.prog 82 = Option.some 1 := by kernel_rfl
theorem Fx.size83 : sizeN Tryz.prog 83 = Option.some 1 := by kernel_rfl
theorem Fx.size85 : sizeN Tryz.prog 85 = Option.some 4 := by kernel_rfl
theorem Fx.size143 : sizeN Tryz.prog 143 = Option.some 1 := by kernel_rfl
theorem Fx.size144 : sizeN Tryz.prog 144 = Option.some 1 := by kernel_rfl
theorem Fx.size146 : sizeN Tryz.prog 146 = Option.some 3 := by kernel_rfl
theorem Fx.sl81 : slN Tryz.prog 81 = Option.some 2 := by kernel_rfl
theorem Fx.zero85 : zeroN Tryz.prog 85 = Option.some
 [Go.Value.string { data := { toList := [] } },Go.Value.slice Option.none 0 0,Go.Value.slice Option.none 0 0,
  Go.Value.slice Option.none 0 0] := by kernel_rfl
theorem Fx.zero146 : zeroN Tryz.prog 146 = Option.some
 [Go.Value.string { data := { toList := [] } },Go.Value.slice Option.none 0 0,Go.Value.slice Option.none 0 0] := by kernel_rfl
theorem Fx.bld146_0 (x0 : ByteArray) : buildN Tryz.prog 146 [(0,.string x0)] = some [.string x0,.slice none 0 0,.slice none 0 0] := by kernel_rfl
theorem Fx.bsl143_1 (x00 x01 x02 : Value) : bslN Tryz.prog 143 1 [(0,.agg [x00,x01,x02].toArray)] = some (148,[x00,x01,x02]) := by kernel_rfl
theorem Fx.bsl144_1 (x0p : Option Addr) (x0n x0c : Nat) : bslN Tryz.prog 144 1 [(0,.slice x0p x0n x0c)] = some (152,[.slice x0p x0n x0c]) := by kernel_rfl
theorem Fx.bsl81_1 (x00 x01 : Value) : bslN Tryz.prog 81 1 [(0,.agg [x00,x01].toArray)] = some (141,[x00,x01]) := by kernel_rfl
theorem Fx.bsl82_1 (x00 x01 x02 : Value) : bslN Tryz.prog 82 1 [(0,.agg [x00,x01,x02].toArray)] = some (142,[x00,x01,x02]) := by kernel_rfl
theorem Fx.bsl83_1 (x00 x01 x02 : Value) : bslN Tryz.prog 83 1 [(0,.agg [x00,x01,x02].toArray)] = some (146,[x00,x01,x02]) := by kernel_rfl
theorem Fx.agg156 : aggN Tryz.prog 156 = Option.some Option.none := by kernel_rfl
theorem Fx.call60 : callN Tryz.prog 60 = Bool.true := by kernel_rfl
theorem Fx.field205_0 : fieldN Tryz.prog 205 0 = Option.some 0 := by kernel_rfl
theorem Fx.field205_1 : fieldN Tryz.prog 205 1 = Option.some 1 := by kernel_rfl
theorem Fx.field205_2 : fieldN Tryz.prog 205 2 = Option.some 2 := by kernel_rfl
theorem Fx.field205_3 : fieldN Tryz.prog 205 3 = Option.some 3 := by kernel_rfl
theorem Fx.field205_4 : fieldN Tryz.prog 205 4 = Option.some 4 := by kernel_rfl
theorem Fx.field205_5 : fieldN Tryz.prog 205 5 = Option.some 5 := by kernel_rfl
theorem Fx.int206 : intN Tryz.prog 206 = Option.some Go.IntKind.u8 := by kernel_rfl
theorem Fx.row159 : rowN Tryz.prog 159 = Option.some (208,6,112) := by kernel_rfl
theorem Fx.sl156 : slN Tryz.prog 156 = Option.some 6 := by kernel_rfl
theorem Fx.bld208_0_1_2_4_5 (x0 : Int) (x1 : ByteArray) (x2 : ByteArray) (x4p : Option Addr) (x4n x4c : Nat) (x5p : Option Addr) (x5n x5c : Nat) : buildN Tryz.prog 208 [(0,.int .u8 x0),(1,.string x1),(2,.string x2),(4,.slice x4p x4n x4c),(5,.slice x5p x5n x5c)] = some [.int .u8 x0,.string x1,.string x2,.slice none 0 0,.slice x4p x4n x4c,.slice x5p x5n x5c] := by kernel_rfl
theorem Fx.bsl159_1 (x00 x01 x02 x03 x04 x05 : Value) : bslN Tryz.prog 159 1 [(0,.agg [x00,x01,x02,x03,x04,x05].toArray)] = some (208,[x00,x01,x02,x03,x04,x05]) := by kernel_rfl
theorem Fx.agg141 : aggN Tryz.prog 141 = Option.some (Option.some 2) := by kernel_rfl
theorem Fx.agg142 : aggN Tryz.prog 142 = Option.some (Option.some 3) := by kernel_rfl
theorem Fx.agg148 : aggN Tryz.prog 148 = Option.some (Option.some 3) := by kernel_rfl
theorem Fx.agg152 : aggN Tryz.prog 152 = Option.some Option.none := by kernel_rfl
theorem Fx.agg158 : aggN Tryz.prog 158 = Option.some (Option.some 3) := by kernel_rfl
theorem Fx.field85_0 : fieldN Tryz.prog 85 0 = Option.some 0 := by kernel_rfl
theorem Fx.field141_0 : fieldN Tryz.prog 141 0 = Option.some 0 := by kernel_rfl
theorem Fx.field141_1 : fieldN Tryz.prog 141 1 = Option.some 1 := by kernel_rfl
theorem Fx.field142_0 : fieldN Tryz.prog 142 0 = Option.some 0 := by kernel_rfl
theorem Fx.field142_1 : fieldN Tryz.prog 142 1 = Option.some 1 := by kernel_rfl
theorem Fx.field142_2 : fieldN Tryz.prog 142 2 = Option.some 2 := by kernel_rfl
theorem Fx.field146_0 : fieldN Tryz.prog 146 0 = Option.some 0 := by kernel_rfl
theorem Fx.field148_0 : fieldN Tryz.prog 148 0 = Option.some 0 := by kernel_rfl
theorem Fx.field148_1 : fieldN Tryz.prog 148 1 = Option.some 1 := by kernel_rfl
theorem Fx.field148_2 : fieldN Tryz.prog 148 2 = Option.some 2 := by kernel_rfl
theorem Fx.field158_0 : fieldN Tryz.prog 158 0 = Option.some 0 := by kernel_rfl
theorem Fx.field158_1 : fieldN Tryz.prog 158 1 = Option.some 1 := by kernel_rfl
theorem Fx.field158_2 : fieldN Tryz.prog 158 2 = Option.some 2 := by kernel_rfl
theorem Fx.int149 : intN Tryz.prog 149 = Option.some Go.IntKind.u8 := by kernel_rfl
theorem Fx.row45 : rowN Tryz.prog 45 = Option.some (102,2,24) := by kernel_rfl
theorem Fx.row46 : rowN Tryz.prog 46 = Option.some (105,3,40) := by kernel_rfl
theorem Fx.row47 : rowN Tryz.prog 47 = Option.some (110,3,64) := by kernel_rfl
theorem Fx.row107 : rowN Tryz.prog 107 = Option.some (151,3,32) := by kernel_rfl
theorem Fx.row108 : rowN Tryz.prog 108 = Option.some (155,1,24) := by kernel_rfl
theorem Fx.row153 : rowN Tryz.prog 153 = Option.some (162,3,64) := by kernel_rfl
theorem Fx.size45 : sizeN Tryz.prog 45 = Option.some 1 := by kernel_rfl
theorem Fx.size46 : sizeN Tryz.prog 46 = Option.some 1 := by kernel_rfl
theorem Fx.size47 : sizeN Tryz.prog 47 = Option.some 1 := by kernel_rfl
theorem Fx.size49 : sizeN Tryz.prog 49 = Option.some 4 := by kernel_rfl
theorem Fx.size107 : sizeN Tryz.prog 107 = Option.some 1 := by kernel_rfl
theorem Fx.size108 : sizeN Tryz.prog 108 = Option.some 1 := by kernel_rfl
theorem Fx.size141 : sizeN Tryz.prog 141 = Option.some 2 := by kernel_rfl
theorem Fx.size142 : sizeN Tryz.prog 142 = Option.some 3 := by kernel_rfl
theorem Fx.size148 : sizeN Tryz.prog 148 = Option.some 3 := by kernel_rfl
theorem Fx.size153 : sizeN Tryz.prog 153 = Option.some 1 := by kernel_rfl
theorem Fx.size158 : sizeN Tryz.prog 158 = Option.some 3 := by kernel_rfl
theorem Fx.sl82 : slN Tryz.prog 82 = Option.some 3 := by kernel_rfl
theorem Fx.sl83 : slN Tryz.prog 83 = Option.some 3 := by kernel_rfl
theorem Fx.sl143 : slN Tryz.prog 143 = Option.some 3 := by kernel_rfl
theorem Fx.sl144 : slN Tryz.prog 144 = Option.some 1 := by kernel_rfl
theorem Fx.sl152 : slN Tryz.prog 152 = Option.some 3 := by kernel_rfl
theorem Fx.zero49 : zeroN Tryz.prog 49 = Option.some
 [Go.Value.string { data := { toList := [] } },Go.Value.slice Option.none 0 0,Go.Value.slice Option.none 0 0,
  Go.Value.slice Option.none 0 0] := by kernel_rfl
theorem Fx.zero141 : zeroN Tryz.prog 141 = Option.some [Go.Value.string { data := { toList := [] } },Go.Value.bool Bool.false] := by kernel_rfl
theorem Fx.zero142 : zeroN Tryz.prog 142 = Option.some
 [Go.Value.string { data := { toList := [] } },Go.Value.string { data := { toList := [] } },
  Go.Value.int Go.IntKind.i64 (Int.ofNat 0)] := by kernel_rfl
theorem Fx.zero148 : zeroN Tryz.prog 148 = Option.some
 [Go.Value.string { data := { toList := [] } },Go.Value.int Go.IntKind.i64 (Int.ofNat 0),
  Go.Value.int Go.IntKind.i64 (Int.ofNat 0)] := by kernel_rfl
theorem Fx.zero158 : zeroN Tryz.prog 158 = Option.some
 [Go.Value.string { data := { toList := [] } },Go.Value.slice Option.none 0 0,Go.Value.slice Option.none 0 0] := by kernel_rfl
theorem Fx.bld102_0_1 (x0 : ByteArray) (x1 : Bool) : buildN Tryz.prog 102 [(0,.string x0),(1,.bool x1)] = some [.string x0,.bool x1] := by kernel_rfl
theorem Fx.bld105_0_1_2 (x0 : ByteArray) (x1 : ByteArray) (x2 : Int) : buildN Tryz.prog 105 [(0,.string x0),(1,.string x1),(2,.int .i64 x2)] = some [.string x0,.string x1,.int .i64 x2] := by kernel_rfl
theorem Fx.bld110_0 (x0 : ByteArray) : buildN Tryz.prog 110 [(0,.string x0)] = some [.string x0,.slice none 0 0,.slice none 0 0] := by kernel_rfl
theorem Fx.bld151_0_1_2 (x0 : ByteArray) (x1 : Int) (x2 : Int) : buildN Tryz.prog 151 [(0,.string x0),(1,.int .u8 x1),(2,.int .i64 x2)] = some [.string x0,.int .u8 x1,.int .i64 x2] := by kernel_rfl
theorem Fx.bld162_0_1_2 (x0 : ByteArray) (x1p : Option Addr) (x1n x1c : Nat) (x2p : Option Addr) (x2n x2c : Nat) : buildN Tryz.prog 162 [(0,.string x0),(1,.slice x1p x1n x1c),(2,.slice x2p x2n x2c)] = some [.string x0,.slice x1p x1n x1c,.slice x2p x2n x2c] := by kernel_rfl
theorem Fx.bld49_0 (x0 : ByteArray) : buildN Tryz.prog 49 [(0,.string x0)] = some [.string x0,.slice none 0 0,.slice none 0 0,.slice none 0 0] := by kernel_rfl
theorem Fx.bsl107_1 (x00 x01 x02 : Value) : bslN Tryz.prog 107 1 [(0,.agg [x00,x01,x02].toArray)] = some (151,[x00,x01,x02]) := by kernel_rfl
theorem Fx.bsl108_1 (x00 : Value) : bslN Tryz.prog 108 1 [(0,.agg [x00].toArray)] = some (155,[x00]) := by kernel_rfl
theorem Fx.bsl153_1 (x00 x01 x02 : Value) : bslN Tryz.prog 153 1 [(0,.agg [x00,x01,x02].toArray)] = some (162,[x00,x01,x02]) := by kernel_rfl
theorem Fx.bsl45_1 (x00 x01 : Value) : bslN Tryz.prog 45 1 [(0,.agg [x00,x01].toArray)] = some (102,[x00,x01]) := by kernel_rfl
theorem Fx.bsl46_1 (x00 x01 x02 : Value) : bslN Tryz.prog 46 1 [(0,.agg [x00,x01,x02].toArray)] = some (105,[x00,x01,x02]) := by kernel_rfl
theorem Fx.bsl47_1 (x00 x01 x02 : Value) : bslN Tryz.prog 47 1 [(0,.agg [x00,x01,x02].toArray)] = some (110,[x00,x01,x02]) := by kernel_rfl
theorem Fx.eqt102 : eqT Tryz.prog 102 = Option.some [(0,Go.Sx.EK.s),(1,Go.Sx.EK.b)] := by kernel_rfl
theorem Fx.eqt105 : eqT Tryz.prog 105 = Option.some [(0,Go.Sx.EK.s),(1,Go.Sx.EK.s),(2,Go.Sx.EK.i)] := by kernel_rfl
theorem Fx.eqt151 : eqT Tryz.prog 151 = Option.some [(0,Go.Sx.EK.s),(1,Go.Sx.EK.i),(2,Go.Sx.EK.i)] := by kernel_rfl
theorem Fx.call123 : callN Tryz.prog 123 = Bool.true := by kernel_rfl
theorem Fx.call124 : callN Tryz.prog 124 = Bool.true := by kernel_rfl
theorem Fx.call125 : callN Tryz.prog 125 = Bool.true := by kernel_rfl
theorem Fx.call39 : callN Tryz.prog 39 = Bool.true := by kernel_rfl
theorem Fx.call40 : callN Tryz.prog 40 = Bool.true := by kernel_rfl
theorem Fx.call41 : callN Tryz.prog 41 = Bool.true := by kernel_rfl
theorem Fx.call42 : callN Tryz.prog 42 = Bool.true := by kernel_rfl
theorem Fx.call78 : callN Tryz.prog 78 = Bool.true := by kernel_rfl
theorem Fx.call79 : callN Tryz.prog 79 = Bool.true := by kernel_rfl
theorem Fx.call80 : callN Tryz.prog 80 = Bool.true := by kernel_rfl
theorem Fx.call81 : callN Tryz.prog 81 = Bool.true := by kernel_rfl
theorem Fx.call82 : callN Tryz.prog 82 = Bool.true := by kernel_rfl
theorem Fx.agg28 : aggN Tryz.prog 28 = Option.some Option.none := by kernel_rfl
theorem Fx.agg94 : aggN Tryz.prog 94 = Option.some Option.none := by kernel_rfl
theorem Fx.agg96 : aggN Tryz.prog 96 = Option.some (Option.some 3) := by kernel_rfl
theorem Fx.agg97 : aggN Tryz.prog 97 = Option.some Option.none := by kernel_rfl
theorem Fx.call50 : callN Tryz.prog 50 = Bool.true := by kernel_rfl
theorem Fx.call72 : callN Tryz.prog 72 = Bool.true := by kernel_rfl
theorem Fx.call73 : callN Tryz.prog 73 = Bool.true := by kernel_rfl
theorem Fx.call91 : callN Tryz.prog 91 = Bool.true := by kernel_rfl
theorem Fx.call118 : callN Tryz.prog 118 = Bool.true := by kernel_rfl
theorem Fx.field96_0 : fieldN Tryz.prog 96 0 = Option.some 0 := by kernel_rfl
theorem Fx.field96_1 : fieldN Tryz.prog 96 1 = Option.some 1 := by kernel_rfl
theorem Fx.field99_0 : fieldN Tryz.prog 99 0 = Option.some 0 := by kernel_rfl
theorem Fx.field99_1 : fieldN Tryz.prog 99 1 = Option.some 1 := by kernel_rfl
theorem Fx.field99_2 : fieldN Tryz.prog 99 2 = Option.some 2 := by kernel_rfl
theorem Fx.field99_4 : fieldN Tryz.prog 99 4 = Option.some 7 := by kernel_rfl
theorem Fx.field99_5 : fieldN Tryz.prog 99 5 = Option.some 8 := by kernel_rfl
theorem Fx.size28 : sizeN Tryz.prog 28 = Option.some 1 := by kernel_rfl
theorem Fx.size96 : sizeN Tryz.prog 96 = Option.some 3 := by kernel_rfl
theorem Fx.sl97 : slN Tryz.prog 97 = Option.some 3 := by kernel_rfl
theorem Fx.zero96 : zeroN Tryz.prog 96 = Option.some
 [Go.Value.int Go.IntKind.u8 (Int.ofNat 0),Go.Value.string { data := { toList := [] } },
  Go.Value.int Go.IntKind.i64 (Int.ofNat 0)] := by kernel_rfl
theorem Fx.bld96_2 (x2 : Int) : buildN Tryz.prog 96 [(2,.int .i64 x2)] = some [.int .u8 0,.string ⟨#[]⟩,.int .i64 x2] := by kernel_rfl
def posN (ts : List Tk) (q : Sg) : Nat := ts.length - q.r.length
theorem suf_len {q : Sg} {ts : List Tk} (h : q.r <:+ ts) : q.r.length ≤ ts.length := h.length_le
theorem posN_end {q : Sg} {ts : List Tk} (h : q.r <:+ ts) (hi : ¬ posN ts q < ts.length) : q.r = [] := by
 have := suf_len h
 unfold posN at hi
 exact List.eq_nil_of_length_eq_zero (by omega)
theorem posN_tk {q : Sg} {ts : List Tk} {n : Nat} (h : q.r <:+ ts) (hi : posN ts q < ts.length) : ts[posN ts q] = tkH n q.r ∧ q.r ≠ [] := by
 obtain ⟨p,e⟩ := h
 have hp : posN ts q = p.length := by unfold posN;rw [← e,List.length_append];omega
 cases hr : q.r with
 | nil => rw [hr,List.append_nil] at e;rw [hp,e] at hi;omega
 | cons t l =>
  refine ⟨?_,by simp⟩
  have e2 : ts[posN ts q]? = some t := by rw [hp,← e,hr];simp
  rw [List.getElem?_eq_getElem hi] at e2
  exact Option.some.inj e2
theorem posN_tl {q : Sg} {ts : List Tk} (h : q.r <:+ ts) (hr : q.r ≠ []) : posN ts q.tl = posN ts q + 1 ∧ posN ts q < ts.length := by
 have h1 := suf_len h
 cases hl : q.r with
 | nil => exact absurd hl hr
 | cons t l =>
  rw [hl,List.length_cons] at h1
  unfold posN Sg.tl
  simp only [hl,List.tail_cons,List.length_cons]
  omega
structure Tkm (H : Hp) (ts : List Tk) (tp : Option Addr) (tc : Nat) : Prop where
 rep : Rep H (.seq 3 (ts.map (dTk .u8))) [.slice tp ts.length tc]
 good : ∀ t ∈ ts,Tkg t
 num : ∀ t ∈ ts,t.k = 3 → pre digB t.t = t.t.length
 short : ∀ t ∈ ts,t.t.length ≤ 1000000
theorem Tkm.up {H H' : Hp} {ts : List Tk} {tp : Option Addr} {tc : Nat} (h : Tkm H ts tp tc) (u : Up H H') : Tkm H' ts tp tc := ⟨h.rep.up u,h.good,h.num,h.short⟩
theorem tkH_mem {q : Sg} {ts : List Tk} {n : Nat} (h : q.r <:+ ts) : q.r = [] ∨ tkH n q.r ∈ ts := by
 cases hr : q.r with
 | nil => exact .inl rfl
 | cons t l => exact .inr (h.subset (by rw [hr];exact List.mem_cons_self ..))
theorem Tkm.tk {H : Hp} {q : Sg} {ts : List Tk} {tp : Option Addr} {tc n : Nat} (K : Tkm H ts tp tc) (h : q.r <:+ ts) : (tkH n q.r).t.length ≤ 1000000 := by
 rcases tkH_mem (n := n) h with e | e
 ·rw [e];show (0 : Nat) ≤ _;omega
 ·exact K.short _ e
theorem fld_tk0 (a b c : Value) : ∀ W,(Instr.field 96 (.agg [a,b,c].toArray) 0).run Tryz.prog W = .ok a W := fun _ => by kernel_rfl
theorem fld_tk1 (a b c : Value) : ∀ W,(Instr.field 96 (.agg [a,b,c].toArray) 1).run Tryz.prog W = .ok b W := fun _ => by kernel_rfl
theorem fld_tk2 (a b c : Value) : ∀ W,(Instr.field 96 (.agg [a,b,c].toArray) 2).run Tryz.prog W = .ok c W := fun _ => by kernel_rfl
set_option maxRecDepth 100000 in
theorem token_st {H : Hp} {w0 W : World} {bs : List Res} {b n : Nat} {ts : List Tk} {tp : Option Addr} {tc : Nat} {t0 t1 t2 t3 : Value} {q : Sg} (K : Tkm H ts tp tc) (hq : q.r <:+ ts) (s : St H w0 (.box b [.slice tp ts.length tc,.int .i64 (posN ts q : Nat),.int .i64 (n : Nat),t0,t1,t2,t3,.int .i64 (q.o : Nat),.int .i64 (q.e : Nat)] 99 :: bs) W) :
 Calls Tryz.prog 91 #[.pointer (some ⟨b,0,none⟩)] W fun e W' => ∃ _ : Unit,(True) ∧ e = .returned (.agg (cTk .u8 (tkH n q.r)).toArray) ∧ St H w0 (.box b [.slice tp ts.length tc,.int .i64 (posN ts q : Nat),.int .i64 (n : Nat),t0,t1,t2,t3,.int .i64 (q.o : Nat),.int .i64 (q.e : Nat)] 99 :: bs) W' := by
 have hcap := K.rep.cap
 refine Sx.enterS Tryz.func91 rfl Tryz.ntmps91 rfl s ?_
 refine .sr<|.al Fx.zero96 Z fun b2 => .nt<|.sq<|.sq<|.fl (trip := [(_,_,_),(_,_,_),(_,_,_),(_,_,_),(_,_,_),(_,_,_),(_,_,_),(_,_,_),(_,_,_)]) 9 [(0,0),(1,0),(2,0),(3,0),(4,0),(5,0),(6,0),(7,0),(8,0)] (by kernel_rfl) (by kernel_rfl) Z<|.m Z Z<|.yv (.nilCheck Z) Z<|.yv (.fieldAddr Z Fx.field99_1) Z<|.yv (.load Z Fx.agg3 (.tail _<|.head _) Z) Z<|.m Z Z<|.yv (.nilCheck Z) Z<|.yv (.fieldAddr Z Fx.field99_0) Z<|.yv (.load Z Fx.agg97 (.tail _<|.head _) Z) Z<|.yv (.lenSl Fx.sl97 Z) Z<|.fn (tl := [_]) Z<|.yv (.lss Z Z) Z<|.nt<|.cd Z (fun h12 => ?_) (fun h12 => ?_)
 ·try simp only [dt] at h12
  have hi : posN ts q < ts.length := by omega
  obtain ⟨et,_⟩ := posN_tk (n := n) hq hi
  obtain ⟨bE,oE,cE,hpE,rE,lE,mE⟩ := K.rep.elem (map_at (f := dTk .u8) hi)
  cases hpE
  rw [et] at rE
  obtain ⟨rfl,_⟩ := tk_open rE
  refine .sq<|.fl (trip := [(_,_,_),(_,_,_),(_,_,_),(_,_,_),(_,_,_),(_,_,_),(_,_,_),(_,_,_),(_,_,_),(_,_,_)]) 10 [(0,0),(1,0),(2,0),(3,0),(4,0),(5,0),(6,0),(7,0),(8,0),(9,0)] (by kernel_rfl) (by kernel_rfl) Z<|.m Z Z<|.yv (.nilCheck Z) Z<|.yv (.fieldAddr Z Fx.field99_0) Z<|.yv (.load Z Fx.agg97 (.tail _<|.head _) Z) Z<|.m Z Z<|.yv (.nilCheck Z) Z<|.yv (.fieldAddr Z Fx.field99_1) Z<|.yv (.load Z Fx.agg3 (.tail _<|.head _) Z) Z<|.yv (.indexSl Fx.sl97 Z Z Z (by omega) (q := oE + posN ts q * 3) Z) Z<|.yv (.loadMW Z Fx.agg96 mE Z) Z<|.fn (tl := [_]) Z<|.sW .head Z Z Fx.size96 (by simp [cTk,Value.oneCell',strV]) Z<|.nt<|.rt<|.tR<|?_
  refine Sx.ret1 (.inl rfl) rfl (.cell rfl Fx.agg96 (.head _) rfl) fun W s => ?_
  first
   | (exact ⟨(),trivial,rfl,s.pickT (hd := [_,_]) (tl := bs) (hd' := [_]) [1] rfl rfl⟩)
   | (exact ⟨(),trivial,(by rw [hr];rfl),s.pickT (hd := [_,_]) (tl := bs) (hd' := [_]) [1] rfl rfl⟩)
 try simp only [df] at h12
 have hr := posN_end hq (by omega)
 refine .sk<|.tN<|.sr<|.m Z Z<|.yv (.nilCheck Z) Z<|.yv (.fieldAddr Z Fx.field99_2) Z<|.yv (.load Z Fx.agg3 (.tail _<|.head _) Z) Z<|.yv (.build Z (Fx.bld96_2 _)) Z<|.sW .head Z Z Fx.size96 (by simp [cTk,Value.oneCell',strV]) Z<|.nt<|.rt<|?_
 refine Sx.ret1 (.inl rfl) rfl (.cell rfl Fx.agg96 (.head _) rfl) fun W s => ?_
 first
  | (exact ⟨(),trivial,rfl,s.pickT (hd := [_,_]) (tl := bs) (hd' := [_]) [1] rfl rfl⟩)
  | (exact ⟨(),trivial,(by rw [hr];rfl),s.pickT (hd := [_,_]) (tl := bs) (hd' := [_]) [1] rfl rfl⟩)
set_option maxRecDepth 100000 in
theorem fail_st {H : Hp} {w0 W : World} {bs : List Res} {b n : Nat} {ts : List Tk} {tp : Option Addr} {tc : Nat} {t0 t1 t2 t3 : Value} {q : Sg} (K : Tkm H ts tp tc) (hq : q.r <:+ ts) (c : Nat) (s : St H w0 (.box b [.slice tp ts.length tc,.int .i64 (posN ts q : Nat),.int .i64 (n : Nat),t0,t1,t2,t3,.int .i64 (q.o : Nat),.int .i64 (q.e : Nat)] 99 :: bs) W) :
 Calls Tryz.prog 50 #[.pointer (some ⟨b,0,none⟩),.int .i64 (c : Nat)] W fun e W' => ∃ _ : Unit,(True) ∧ e = .returned (.tuple #[]) ∧ St H w0 (.box b [.slice tp ts.length tc,.int .i64 (posN ts (q.fail n c) : Nat),.int .i64 (n : Nat),t0,t1,t2,t3,.int .i64 ((q.fail n c).o : Nat),.int .i64 ((q.fail n c).e : Nat)] 99 :: bs) W' := by
 refine Sx.enterS Tryz.func50 rfl Tryz.ntmps50 rfl s ?_
 refine .sr<|.m Z Z<|.yv (.nilCheck Z) Z<|.yv (.fieldAddr Z Fx.field99_5) Z<|.yv (.load Z Fx.agg28 (.head _) Z) Z<|.yv (.eql Z Z) Z<|.nt<|.cd Z (fun h8 => ?_) (fun h8 => ?_)
 ·try simp only [dt] at h8
  have h0 : q.e = 0 := by omega
  have e1 : q.fail n c = ⟨q.r,c,(tkH n q.r).o⟩ := by unfold Sg.fail;rw [if_pos h0,tkH_o]
  rw [e1]
  refine .rg<|.m Z Z<|.m Z Z<|.m Z Z<|.cs (X := Unit) Fx.call91 Z (fun W s => token_st K hq  (s.pickT (hd := [_]) (tl := bs) (hd' := [_]) [0] Z Z)) Z fun _ _ => .yv (.fld Z (fld_tk2 _ _ _)) Z<|.m Z Z<|.yv (.nilCheck Z) Z<|.yv (.fieldAddr Z Fx.field99_4) Z<|.st .head Z Z Fx.size3 Z (nb Z) Z<|.yv (.nilCheck Z) Z<|.yv (.fieldAddr Z Fx.field99_5) Z<|.st .head Z Z Fx.size28 Z (nb Z) Z<|.nl<|?_
  refine Sx.retN (.inr rfl) rfl .nil rfl fun W s => ⟨(),trivial,rfl,?_⟩
  exact s.pickT (hd := [_]) (tl := bs) (hd' := [_]) [0] rfl rfl
 try simp only [df] at h8
 have h0 : ¬ q.e = 0 := by omega
 have e1 : q.fail n c = q := by unfold Sg.fail;rw [if_neg h0]
 rw [e1]
 refine .sk<|?_
 refine Sx.retN (.inr rfl) rfl .nil rfl fun W s => ⟨(),trivial,rfl,?_⟩
 exact s.pickT (hd := [_]) (tl := bs) (hd' := [_]) [0] rfl rfl
set_option maxRecDepth 100000 in
theorem is_st {H : Hp} {w0 W : World} {bs : List Res} {b n : Nat} {ts : List Tk} {tp : Option Addr} {tc : Nat} {t0 t1 t2 t3 : Value} {q : Sg} (K : Tkm H ts tp tc) (hq : q.r <:+ ts) (w : Str) (s : St H w0 (.box b [.slice tp ts.length tc,.int .i64 (posN ts q : Nat),.int .i64 (n : Nat),t0,t1,t2,t3,.int .i64 (q.o : Nat),.int .i64 (q.e : Nat)] 99 :: bs) W) :
 Calls Tryz.prog 118 #[.pointer (some ⟨b,0,none⟩),strV w] W fun e W' => ∃ _ : Unit,(True) ∧ e = .returned (.bool (tcB n w q)) ∧ St H w0 (.box b [.slice tp ts.length tc,.int .i64 (posN ts q : Nat),.int .i64 (n : Nat),t0,t1,t2,t3,.int .i64 (q.o : Nat),.int .i64 (q.e : Nat)] 99 :: bs) W' := by
 refine Sx.enterS Tryz.func118 rfl Tryz.ntmps118 rfl s ?_
 refine .sr<|.a Z Z<|.ns<|.m Z Z<|.yv (.nilCheck Z) Z<|.yv (.fieldAddr Z Fx.field99_5) Z<|.yv (.load Z Fx.agg28 (.head _) Z) Z<|.yv (.eql Z Z) Z<|.m Z Z<|.b2 (fun h10 => ?_) (fun h10 => ?_)
 ·skip
  refine .gd Z Z<|.yv (.move Z) Z<|.gd Z Z<|.cs (X := Unit) Fx.call91 Z (fun W s => token_st K hq  (s.pickT (hd := [_]) (tl := bs) (hd' := [_]) [0] Z Z)) Z fun _ _ => .gd Z Z<|.yv (.fld Z (fld_tk1 _ _ _)) Z<|.gd Z Z<|.yv (.move Z) Z<|.gd Z Z<|.yv (.eqS Z Z) Z<|.yv (.pickT Z Z) Z<|.a Z Z<|.nt<|.rt<|?_
  refine Sx.ret1 (.inl rfl) rfl (.tmp rfl) fun W s => ?_
  first
   | (exact ⟨(),trivial,(by unfold tcB;rw [decide_eq_true (show q.e = 0 by have := of_decide_eq_true h10;omega),Bool.true_and]),s.pickT (hd := [_]) (tl := bs) (hd' := [_]) [0] rfl rfl⟩)
   | (exact ⟨(),trivial,(by unfold tcB;rw [decide_eq_false (show ¬ q.e = 0 by have := of_decide_eq_false h10;omega),Bool.false_and]),s.pickT (hd := [_]) (tl := bs) (hd' := [_]) [0] rfl rfl⟩)
 skip
 refine .gF Z Z Z Z<|.gF Z Z Z Z<|.gF Z Z Z Z<|.gF Z Z Z Z<|.gF Z Z Z Z<|.yv (.pickF Z Z) Z<|.a Z Z<|.nt<|.rt<|?_
 refine Sx.ret1 (.inl rfl) rfl (.tmp rfl) fun W s => ?_
 first
  | (exact ⟨(),trivial,(by unfold tcB;rw [decide_eq_true (show q.e = 0 by have := of_decide_eq_true h10;omega),Bool.true_and]),s.pickT (hd := [_]) (tl := bs) (hd' := [_]) [0] rfl rfl⟩)
  | (exact ⟨(),trivial,(by unfold tcB;rw [decide_eq_false (show ¬ q.e = 0 by have := of_decide_eq_false h10;omega),Bool.false_and]),s.pickT (hd := [_]) (tl := bs) (hd' := [_]) [0] rfl rfl⟩)
def tcS (n : Nat) (w : Str) (q : Sg) : Sg := if tcB n w q then q.tl else q
theorem tcB_ne {n : Nat} {w : Str} {q : Sg} (hw : w ≠ []) (h : tcB n w q = true) : q.r ≠ [] := by
 intro e
 unfold tcB at h
 rw [Bool.and_eq_true,decide_eq_true_eq,decide_eq_true_eq,e] at h
 exact hw h.2.symm
set_option maxRecDepth 100000 in
theorem accept_st {H : Hp} {w0 W : World} {bs : List Res} {b n : Nat} {ts : List Tk} {tp : Option Addr} {tc : Nat} {t0 t1 t2 t3 : Value} {q : Sg} (K : Tkm H ts tp tc) (hq : q.r <:+ ts) (w : Str) (hw : w ≠ []) (s : St H w0 (.box b [.slice tp ts.length tc,.int .i64 (posN ts q : Nat),.int .i64 (n : Nat),t0,t1,t2,t3,.int .i64 (q.o : Nat),.int .i64 (q.e : Nat)] 99 :: bs) W) :
 Calls Tryz.prog 72 #[.pointer (some ⟨b,0,none⟩),strV w] W fun e W' => ∃ _ : Unit,(True) ∧ e = .returned (.bool (tcB n w q)) ∧ St H w0 (.box b [.slice tp ts.length tc,.int .i64 (posN ts (tcS n w q) : Nat),.int .i64 (n : Nat),t0,t1,t2,t3,.int .i64 ((tcS n w q).o : Nat),.int .i64 ((tcS n w q).e : Nat)] 99 :: bs) W' := by
 have hcap := K.rep.cap
 refine Sx.enterS Tryz.func72 rfl Tryz.ntmps72 rfl s ?_
 refine .sr<|.a Z Z<|.nt<|.sq<|.sr<|.m Z Z<|.m Z Z<|.cs (X := Unit) Fx.call118 Z (fun W s => is_st K hq w (s.pickT (hd := [_]) (tl := bs) (hd' := [_]) [0] Z Z)) Z fun _ _ => .yv (.not Z) Z<|.nt<|.cd Z (fun h8 => ?_) (fun h8 => ?_)
 ·have e1 : tcS n w q = q := by unfold tcS;rw [if_neg (by simpa using h8)]
  rw [e1]
  have hb : tcB n w q = false := by simpa using h8
  refine .sr<|.a Z Z<|.nt<|.rt<|.tR<|?_
  refine Sx.ret1 (.inl rfl) rfl (.tmp rfl) fun W s => ?_
  exact ⟨(),trivial,(by rw [hb]),s.pickT (hd := [_]) (tl := bs) (hd' := [_]) [0] rfl rfl⟩
 have hb : tcB n w q = true := by simpa using h8
 have e1 : tcS n w q = q.tl := by unfold tcS;rw [if_pos hb]
 rw [e1]
 obtain ⟨hp,hi⟩ := posN_tl hq (tcB_ne hw hb)
 refine .sk<|.tN<|.sr<|.m Z Z<|.yv (.nilCheck Z) Z<|.yv (.fieldAddr Z Fx.field99_1) Z<|.yv (.load Z Fx.agg3 (.head _) Z) Z<|.yv (.add Z Z (c := ((posN ts q.tl : Nat) : Int)) ((w6 (by omega)).trans (by omega))) Z<|.yv (.nilCheck Z) Z<|.yv (.fieldAddr Z Fx.field99_1) Z<|.st .head Z Z Fx.size3 Z (nb Z) Z<|.ns<|.a Z Z<|.nt<|.rt<|?_
 refine Sx.ret1 (.inl rfl) rfl (.tmp rfl) fun W s => ?_
 exact ⟨(),trivial,(by rw [hb]),s.pickT (hd := [_]) (tl := bs) (hd' := [_]) [0] rfl rfl⟩
theorem wd_ne' {w : Str} (hw : w ∈ words ∨ w ∈ symbols) : w ≠ [] := wd_ne w (List.mem_append.2 hw)
theorem accept_ac {H : Hp} {w0 W : World} {bs : List Res} {b n : Nat} {ts : List Tk} {tp : Option Addr} {tc : Nat} {t0 t1 t2 t3 : Value} {q : Sg} (K : Tkm H ts tp tc) (hq : q.r <:+ ts) (w : Str) (hw : w ∈ words ∨ w ∈ symbols) (s : St H w0 (.box b [.slice tp ts.length tc,.int .i64 (posN ts q : Nat),.int .i64 (n : Nat),t0,t1,t2,t3,.int .i64 (q.o : Nat),.int .i64 (q.e : Nat)] 99 :: bs) W) :
 Calls Tryz.prog 72 #[.pointer (some ⟨b,0,none⟩),strV w] W fun e W' => ∃ _ : Unit,(True) ∧ e = .returned (.bool (ac w q)) ∧ St H w0 (.box b [.slice tp ts.length tc,.int .i64 (posN ts (acS w q) : Nat),.int .i64 (n : Nat),t0,t1,t2,t3,.int .i64 ((acS w q).o : Nat),.int .i64 ((acS w q).e : Nat)] 99 :: bs) W' := by
 have h := accept_st K hq w (wd_ne' hw) s
 unfold tcS at h
 rw [tcB_ac K.good hq hw] at h
 exact h
theorem is_ac {H : Hp} {w0 W : World} {bs : List Res} {b n : Nat} {ts : List Tk} {tp : Option Addr} {tc : Nat} {t0 t1 t2 t3 : Value} {q : Sg} (K : Tkm H ts tp tc) (hq : q.r <:+ ts) (w : Str) (hw : w ∈ words ∨ w ∈ symbols) (s : St H w0 (.box b [.slice tp ts.length tc,.int .i64 (posN ts q : Nat),.int .i64 (n : Nat),t0,t1,t2,t3,.int .i64 (q.o : Nat),.int .i64 (q.e : Nat)] 99 :: bs) W) :
 Calls Tryz.prog 118 #[.pointer (some ⟨b,0,none⟩),strV w] W fun e W' => ∃ _ : Unit,(True) ∧ e = .returned (.bool (ac w q)) ∧ St H w0 (.box b [.slice tp ts.length tc,.int .i64 (posN ts q : Nat),.int .i64 (n : Nat),t0,t1,t2,t3,.int .i64 (q.o : Nat),.int .i64 (q.e : Nat)] 99 :: bs) W' := by
 have h := is_st K hq w s
 rw [tcB_ac K.good hq hw] at h
 exact h
set_option maxRecDepth 100000 in
theorem expect_st {H : Hp} {w0 W : World} {bs : List Res} {b n : Nat} {ts : List Tk} {tp : Option Addr} {tc : Nat} {t0 t1 t2 t3 : Value} {q : Sg} (K : Tkm H ts tp tc) (hq : q.r <:+ ts) (w : Str) (hw : w ≠ []) (s : St H w0 (.box b [.slice tp ts.length tc,.int .i64 (posN ts q : Nat),.int .i64 (n : Nat),t0,t1,t2,t3,.int .i64 (q.o : Nat),.int .i64 (q.e : Nat)] 99 :: bs) W) :
 Calls Tryz.prog 73 #[.pointer (some ⟨b,0,none⟩),strV w] W fun e W' => ∃ _ : Unit,(True) ∧ e = .returned (.tuple #[]) ∧ St H w0 (.box b [.slice tp ts.length tc,.int .i64 (posN ts (if tcB n w q then q.tl else q.fail n 8) : Nat),.int .i64 (n : Nat),t0,t1,t2,t3,.int .i64 ((if tcB n w q then q.tl else q.fail n 8).o : Nat),.int .i64 ((if tcB n w q then q.tl else q.fail n 8).e : Nat)] 99 :: bs) W' := by
 refine Sx.enterS Tryz.func73 rfl Tryz.ntmps73 rfl s ?_
 refine .sr<|.m Z Z<|.m Z Z<|.cs (X := Unit) Fx.call72 Z (fun W s => accept_st K hq w hw (s.pickT (hd := [_]) (tl := bs) (hd' := [_]) [0] Z Z)) Z fun _ _ => .yv (.not Z) Z<|.nt<|.cd Z (fun h7 => ?_) (fun h7 => ?_)
 ·have e1 : tcS n w q = q := by unfold tcS;rw [if_neg (by simpa using h7)]
  rw [e1,if_neg (show ¬ tcB n w q = true by simpa using h7)]
  refine .rg<|.m Z Z<|.cs (X := Unit) Fx.call50 Z (fun W s => fail_st K hq 8 (s.pickT (hd := [_]) (tl := bs) (hd' := [_]) [0] Z Z)) Z fun _ _ => .nl<|?_
  refine Sx.retN (.inr rfl) rfl .nil rfl fun W s => ⟨(),trivial,rfl,?_⟩
  exact s.pickT (hd := [_]) (tl := bs) (hd' := [_]) [0] rfl rfl
 have e1 : tcS n w q = q.tl := by unfold tcS;rw [if_pos (by simpa using h7)]
 rw [e1,if_pos (show tcB n w q = true by simpa using h7)]
 refine .sk<|?_
 refine Sx.retN (.inr rfl) rfl .nil rfl fun W s => ⟨(),trivial,rfl,?_⟩
 exact s.pickT (hd := [_]) (tl := bs) (hd' := [_]) [0] rfl rfl
theorem expect_nd {H : Hp} {w0 W : World} {bs : List Res} {b n : Nat} {ts : List Tk} {tp : Option Addr} {tc : Nat} {t0 t1 t2 t3 : Value} {q : Sg} (K : Tkm H ts tp tc) (hq : q.r <:+ ts) (w : Str) (hw : w ∈ words ∨ w ∈ symbols) (s : St H w0 (.box b [.slice tp ts.length tc,.int .i64 (posN ts q : Nat),.int .i64 (n : Nat),t0,t1,t2,t3,.int .i64 (q.o : Nat),.int .i64 (q.e : Nat)] 99 :: bs) W) :
 Calls Tryz.prog 73 #[.pointer (some ⟨b,0,none⟩),strV w] W fun e W' => ∃ _ : Unit,(True) ∧ e = .returned (.tuple #[]) ∧ St H w0 (.box b [.slice tp ts.length tc,.int .i64 (posN ts (up n (gNd w) q) : Nat),.int .i64 (n : Nat),t0,t1,t2,t3,.int .i64 ((up n (gNd w) q).o : Nat),.int .i64 ((up n (gNd w) q).e : Nat)] 99 :: bs) W' := by
 have h := expect_st K hq w (wd_ne' hw) s
 rw [tcB_ac K.good hq hw,← nd_eq] at h
 exact h
theorem expect_nn {H : Hp} {w0 W : World} {bs : List Res} {b n : Nat} {ts : List Tk} {tp : Option Addr} {tc : Nat} {t0 t1 t2 t3 : Value} {q : Sg} (K : Tkm H ts tp tc) (hq : q.r <:+ ts) (w : Str) (hw : w = [50] ∨ w = [51]) (s : St H w0 (.box b [.slice tp ts.length tc,.int .i64 (posN ts q : Nat),.int .i64 (n : Nat),t0,t1,t2,t3,.int .i64 (q.o : Nat),.int .i64 (q.e : Nat)] 99 :: bs) W) :
 Calls Tryz.prog 73 #[.pointer (some ⟨b,0,none⟩),strV w] W fun e W' => ∃ _ : Unit,(True) ∧ e = .returned (.tuple #[]) ∧ St H w0 (.box b [.slice tp ts.length tc,.int .i64 (posN ts (up n (gNn w) q) : Nat),.int .i64 (n : Nat),t0,t1,t2,t3,.int .i64 ((up n (gNn w) q).o : Nat),.int .i64 ((up n (gNn w) q).e : Nat)] 99 :: bs) W' := by
 have h := expect_st K hq w (by rcases hw with rfl | rfl <;> simp) s
 rw [← nn_eq K.good hq hw] at h
 exact h
theorem tkH_ne {n : Nat} {r : List Tk} (h : (tkH n r).k ≠ 0) : r ≠ [] := fun e => by subst e;exact h rfl
set_option maxRecDepth 100000 in
theorem name_st {H : Hp} {w0 W : World} {bs : List Res} {b n : Nat} {ts : List Tk} {tp : Option Addr} {tc : Nat} {t0 t1 t2 t3 : Value} {q : Sg} (K : Tkm H ts tp tc) (hq : q.r <:+ ts) (s : St H w0 (.box b [.slice tp ts.length tc,.int .i64 (posN ts q : Nat),.int .i64 (n : Nat),t0,t1,t2,t3,.int .i64 (q.o : Nat),.int .i64 (q.e : Nat)] 99 :: bs) W) :
 Calls Tryz.prog 74 #[.pointer (some ⟨b,0,none⟩)] W fun e W' => ∃ x : Str,(vl gNm q x ∧ x.length ≤ 1000000) ∧ e = .returned (strV x) ∧ St H w0 (.box b [.slice tp ts.length tc,.int .i64 (posN ts (up n gNm q) : Nat),.int .i64 (n : Nat),t0,t1,t2,t3,.int .i64 ((up n gNm q).o : Nat),.int .i64 ((up n gNm q).e : Nat)] 99 :: bs) W' := by
 have hcap := K.rep.cap
 refine Sx.enterS Tryz.func74 rfl Tryz.ntmps74 rfl s ?_
 refine .sr<|.a Z Z<|.ns<|.m Z Z<|.cs (X := Unit) Fx.call91 Z (fun W s => token_st K hq  (s.pickT (hd := [_]) (tl := bs) (hd' := [_]) [0] Z Z)) Z fun _ _ => .al Fx.zero96 Z fun b3 => .sW .head Z Z Fx.size96 (by simp [cTk,Value.oneCell',strV]) Z<|.nt<|.sq<|.sr<|.yv (.fieldAddr Z Fx.field96_0) Z<|.yv (.load Z Fx.agg94 (.head _) Z) Z<|.yv (.neq Z Z) Z<|.nt<|.cd Z (fun h8 => ?_) (fun h8 => ?_)
 ·have hk : ¬ (tkH n q.r).k = 1 := fun e => of_decide_eq_true h8 (by rw [e];rfl)
  have e1 : up n gNm q = q.fail n 8 := by rw [nm_eq,if_neg (fun h => hk h.2)]
  have e2 : (if q.e = 0 ∧ (tkH n q.r).k = 1 then (tkH n q.r).t else []) = [] := if_neg (fun h => hk h.2)
  rw [e1]
  have e3 : (q.fail n 8).e ≠ 0 := by
   unfold Sg.fail
   split
   ·exact Nat.succ_ne_zero 7
   ·assumption
  refine .rg<|.m Z Z<|.cs (X := Unit) Fx.call50 Z (fun W s => fail_st K hq 8 (s.pickT (hd := [_,_]) (tl := bs) (hd' := [_,_]) [1,0] Z Z)) Z fun _ _ => .nt<|.sq<|.sr<|.m Z Z<|.yv (.nilCheck Z) Z<|.yv (.fieldAddr Z Fx.field99_5) Z<|.yv (.load Z Fx.agg28 (.head _) Z) Z<|.yv (.neq Z Z) Z<|.nt<|.cd Z (fun h15 => ?_) (fun h15 => ?_)
  ·skip
   refine .sr<|.a Z Z<|.nt<|.rt<|.tR<|?_
   refine Sx.ret1 (.inl rfl) rfl (.tmp rfl) fun W s => ?_
   exact ⟨[],⟨by have := nm_vl (n := n) (s := q);rw [e2] at this;exact this,Nat.zero_le _⟩,rfl,s.pickT (hd := [_,_]) (tl := bs) (hd' := [_]) [0] rfl rfl⟩
  exact absurd (show (q.fail n 8).e = 0 by have := Classical.not_not.1 (of_decide_eq_false h15);omega) e3
 have hk : (tkH n q.r).k = 1 := UInt8.toNat_inj.1 (by have := Classical.not_not.1 (of_decide_eq_false h8);exact Int.ofNat.inj this)
 refine .sk<|.tN<|.sq<|.sr<|.m Z Z<|.yv (.nilCheck Z) Z<|.yv (.fieldAddr Z Fx.field99_5) Z<|.yv (.load Z Fx.agg28 (.tail _<|.head _) Z) Z<|.yv (.neq Z Z) Z<|.nt<|.cd Z (fun h15 => ?_) (fun h15 => ?_)
 ·try simp only [dt] at h15
  have h0 : ¬ q.e = 0 := by omega
  have e1 : up n gNm q = q := up_er h0
  have e2 : (if q.e = 0 ∧ (tkH n q.r).k = 1 then (tkH n q.r).t else []) = [] := if_neg (fun h => h0 h.1)
  rw [e1]
  refine .sr<|.a Z Z<|.nt<|.rt<|.tR<|?_
  refine Sx.ret1 (.inl rfl) rfl (.tmp rfl) fun W s => ?_
  exact ⟨[],⟨by have := nm_vl (n := n) (s := q);rw [e2] at this;exact this,Nat.zero_le _⟩,rfl,s.pickT (hd := [_,_]) (tl := bs) (hd' := [_]) [1] rfl rfl⟩
 try simp only [df] at h15
 have h0 : q.e = 0 := by omega
 have e1 : up n gNm q = q.tl := by rw [nm_eq,if_pos ⟨h0,hk⟩]
 have e2 : (if q.e = 0 ∧ (tkH n q.r).k = 1 then (tkH n q.r).t else []) = (tkH n q.r).t := if_pos ⟨h0,hk⟩
 rw [e1]
 obtain ⟨hp,hi⟩ := posN_tl hq (tkH_ne (n := n) (by rw [hk];decide))
 refine .sk<|.tN<|.sr<|.m Z Z<|.yv (.nilCheck Z) Z<|.yv (.fieldAddr Z Fx.field99_1) Z<|.yv (.load Z Fx.agg3 (.tail _<|.head _) Z) Z<|.yv (.add Z Z (c := ((posN ts q.tl : Nat) : Int)) ((w6 (by omega)).trans (by omega))) Z<|.yv (.nilCheck Z) Z<|.yv (.fieldAddr Z Fx.field99_1) Z<|.st (.tail<|.head) Z Z Fx.size3 Z (nb Z) Z<|.ns<|.yv (.fieldAddr Z Fx.field96_1) Z<|.yv (.load Z Fx.agg9 (.head _) Z) Z<|.a Z Z<|.nt<|.rt<|?_
 refine Sx.ret1 (.inl rfl) rfl (.tmp rfl) fun W s => ?_
 exact ⟨(tkH n q.r).t,⟨by have := nm_vl (n := n) (s := q);rw [e2] at this;exact this,K.tk hq⟩,rfl,s.pickT (hd := [_,_]) (tl := bs) (hd' := [_]) [1] rfl rfl⟩
set_option maxRecDepth 100000 in
theorem truth_st {H : Hp} {w0 W : World} {bs : List Res} {b n : Nat} {ts : List Tk} {tp : Option Addr} {tc : Nat} {t0 t1 t2 t3 : Value} {q : Sg} (K : Tkm H ts tp tc) (hq : q.r <:+ ts) (s : St H w0 (.box b [.slice tp ts.length tc,.int .i64 (posN ts q : Nat),.int .i64 (n : Nat),t0,t1,t2,t3,.int .i64 (q.o : Nat),.int .i64 (q.e : Nat)] 99 :: bs) W) :
 Calls Tryz.prog 119 #[.pointer (some ⟨b,0,none⟩)] W fun e W' => ∃ x : Bool,(vl gTr q x) ∧ e = .returned (.bool x) ∧ St H w0 (.box b [.slice tp ts.length tc,.int .i64 (posN ts (up n gTr q) : Nat),.int .i64 (n : Nat),t0,t1,t2,t3,.int .i64 ((up n gTr q).o : Nat),.int .i64 ((up n gTr q).e : Nat)] 99 :: bs) W' := by
 refine Sx.enterS Tryz.func119 rfl Tryz.ntmps119 rfl s ?_
 refine .sr<|.a Z Z<|.nt<|.sq<|.sr<|.m Z Z<|.cs (X := Unit) Fx.call72 Z (fun W s => accept_ac K hq [116,114,117,101] (by decide +kernel) (s.pickT (hd := [_]) (tl := bs) (hd' := [_]) [0] Z Z)) Z fun _ _ => .nt<|.cd Z (fun h4 => ?_) (fun h4 => ?_)
 ·rw [acS_T h4]
  refine .sr<|.a Z Z<|.nt<|.rt<|.tR<|?_
  refine Sx.ret1 (.inl rfl) rfl (.tmp rfl) fun W s => ?_
  rw [show up n gTr q = q.tl by unfold gTr;rw [up_altT h4,up_pure]]
  exact ⟨true,(by unfold gTr;exact vl_altT h4 vl_pure),rfl,s.pickT (hd := [_]) (tl := bs) (hd' := [_]) [0] rfl rfl⟩
 rw [acS_F h4]
 refine .sk<|.tN<|.sr<|.m Z Z<|.cs (X := Unit) Fx.call73 Z (fun W s => expect_nd K hq [102,97,108,115,101] (by decide +kernel) (s.pickT (hd := [_]) (tl := bs) (hd' := [_]) [0] Z Z)) Z fun _ _ => .ns<|.a Z Z<|.nt<|.rt<|?_
 refine Sx.ret1 (.inl rfl) rfl (.tmp rfl) fun W s => ?_
 rw [show up n gTr q = up n (gNd [102,97,108,115,101]) q by unfold gTr;rw [up_altF h4,up_bind (x := ()) (Cz.nd _) vl_unit,up_pure]]
 exact ⟨false,(by unfold gTr;exact vl_altF h4 (vl_bind (n := n) vl_unit vl_pure)),rfl,s.pickT (hd := [_]) (tl := bs) (hd' := [_]) [0] rfl rfl⟩
set_option maxRecDepth 100000 in
theorem close_st {H : Hp} {w0 W : World} {bs : List Res} {b n : Nat} {ts : List Tk} {tp : Option Addr} {tc : Nat} {t0 t1 t2 t3 : Value} {q : Sg} (K : Tkm H ts tp tc) (hq : q.r <:+ ts) (s : St H w0 (.box b [.slice tp ts.length tc,.int .i64 (posN ts q : Nat),.int .i64 (n : Nat),t0,t1,t2,t3,.int .i64 (q.o : Nat),.int .i64 (q.e : Nat)] 99 :: bs) W) :
 Calls Tryz.prog 24 #[.pointer (some ⟨b,0,none⟩)] W fun e W' => ∃ _ : Unit,(True) ∧ e = .returned (.tuple #[.int .i64 ((q.cl n).o : Nat),.int .i64 ((q.cl n).e : Nat)]) ∧ St H w0 (.box b [.slice tp ts.length tc,.int .i64 (posN ts (q.cl n) : Nat),.int .i64 (n : Nat),t0,t1,t2,t3,.int .i64 ((q.cl n).o : Nat),.int .i64 ((q.cl n).e : Nat)] 99 :: bs) W' := by
 have hcap := K.rep.cap
 refine Sx.enterS Tryz.func24 rfl Tryz.ntmps24 rfl s ?_
 refine .sr<|.a Z Z<|.a Z Z<|.nt<|.sq<|.sq<|.fl (trip := [(_,_,_),(_,_,_),(_,_,_),(_,_,_),(_,_,_),(_,_,_),(_,_,_),(_,_,_),(_,_,_)]) 9 [(0,0),(1,0),(2,0),(3,0),(4,0),(5,0),(6,0),(7,0),(8,0)] (by kernel_rfl) (by kernel_rfl) Z<|.m Z Z<|.yv (.nilCheck Z) Z<|.yv (.fieldAddr Z Fx.field99_1) Z<|.yv (.load Z Fx.agg3 (.head _) Z) Z<|.m Z Z<|.yv (.nilCheck Z) Z<|.yv (.fieldAddr Z Fx.field99_0) Z<|.yv (.load Z Fx.agg97 (.head _) Z) Z<|.yv (.lenSl Fx.sl97 Z) Z<|.fn (tl := [_]) Z<|.yv (.lss Z Z) Z<|.nt<|.cd Z (fun h13 => ?_) (fun h13 => ?_)
 ·try simp only [dt] at h13
  have hi : posN ts q < ts.length := by omega
  obtain ⟨_,hr⟩ := posN_tk (n := n) hq hi
  have e1 : q.cl n = q.fail n 8 := by unfold Sg.cl;rw [if_neg hr]
  rw [e1]
  refine .rg<|.m Z Z<|.cs (X := Unit) Fx.call50 Z (fun W s => fail_st K hq 8 (s.pickT (hd := [_]) (tl := bs) (hd' := [_]) [0] Z Z)) Z fun _ _ => .nt<|.sq<|.fl (trip := [(_,_,_),(_,_,_),(_,_,_),(_,_,_),(_,_,_),(_,_,_),(_,_,_),(_,_,_),(_,_,_)]) 9 [(0,0),(1,0),(2,0),(3,0),(4,0),(5,0),(6,0),(7,0),(8,0)] (by kernel_rfl) (by kernel_rfl) Z<|.m Z Z<|.yv (.nilCheck Z) Z<|.yv (.fieldAddr Z Fx.field99_4) Z<|.yv (.load Z Fx.agg3 (.head _) Z) Z<|.m Z Z<|.yv (.nilCheck Z) Z<|.yv (.fieldAddr Z Fx.field99_5) Z<|.yv (.load Z Fx.agg28 (.head _) Z) Z<|.a Z Z<|.fn (tl := [_]) Z<|.a Z Z<|.nt<|.rt<|?_
  refine Sx.retN (.inl rfl) rfl (.cons (.tmp rfl) (.cons (.tmp rfl) .nil)) rfl fun W s => ⟨(),trivial,rfl,?_⟩
  exact s.pickT (hd := [_]) (tl := bs) (hd' := [_]) [0] rfl rfl
 try simp only [df] at h13
 have hr := posN_end hq (by omega)
 have e1 : q.cl n = q := by unfold Sg.cl;rw [if_pos hr]
 rw [e1]
 refine .sk<|.tN<|.sq<|.fl (trip := [(_,_,_),(_,_,_),(_,_,_),(_,_,_),(_,_,_),(_,_,_),(_,_,_),(_,_,_),(_,_,_)]) 9 [(0,0),(1,0),(2,0),(3,0),(4,0),(5,0),(6,0),(7,0),(8,0)] (by kernel_rfl) (by kernel_rfl) Z<|.m Z Z<|.yv (.nilCheck Z) Z<|.yv (.fieldAddr Z Fx.field99_4) Z<|.yv (.load Z Fx.agg3 (.head _) Z) Z<|.m Z Z<|.yv (.nilCheck Z) Z<|.yv (.fieldAddr Z Fx.field99_5) Z<|.yv (.load Z Fx.agg28 (.head _) Z) Z<|.a Z Z<|.fn (tl := [_]) Z<|.a Z Z<|.nt<|.rt<|?_
 refine Sx.retN (.inl rfl) rfl (.cons (.tmp rfl) (.cons (.tmp rfl) .nil)) rfl fun W s => ⟨(),trivial,rfl,?_⟩
 exact s.pickT (hd := [_]) (tl := bs) (hd' := [_]) [0] rfl rfl
theorem blk_of {c : UInt8} (h : (c.toNat : Int) = 32 ∨ (c.toNat : Int) = 9 ∨ (c.toNat : Int) = 10 ∨ (c.toNat : Int) = 13) : blkB c = true := by
 simp only [blkB,Bool.or_eq_true,decide_eq_true_eq,← UInt8.toNat_inj]
 rcases h with h | h | h | h
 ·exact .inl (.inl (.inl (by show c.toNat = 32;omega)))
 ·exact .inl (.inl (.inr (by show c.toNat = 9;omega)))
 ·exact .inl (.inr (by show c.toNat = 10;omega))
 ·exact .inr (by show c.toNat = 13;omega)
theorem nblk_of {c : UInt8} (h : ¬ ((c.toNat : Int) = 32 ∨ (c.toNat : Int) = 9 ∨ (c.toNat : Int) = 10 ∨ (c.toNat : Int) = 13)) : blkB c = false := by
 cases e : blkB c with
 | false => rfl
 | true =>
  refine absurd ?_ h
  simp only [blkB,Bool.or_eq_true,decide_eq_true_eq] at e
  rcases e with ((e | e) | e) | e <;> subst e <;> simp
theorem skip_blk {s R : Str} {k : Nat} (hk : k < s.length) (hb : blkB s[k] = true) (h : skipS false (s.drop k) = R) : skipS false (s.drop (k + 1)) = R := by
 rw [List.drop_eq_getElem_cons hk,skipS_blk hb] at h;exact h
theorem skip_in {s R : Str} {k : Nat} (hk : k + 1 < s.length) (h1 : (s[k].toNat : Int) = 47) (h2 : (s[k + 1].toNat : Int) = 47) (h : skipS false (s.drop k) = R) : skipS true (s.drop k) = R := by
 have e1 : s[k] = 47 := UInt8.toNat_inj.1 (by show s[k].toNat = 47;omega)
 have e2 : s[k + 1] = 47 := UInt8.toNat_inj.1 (by show s[k + 1].toNat = 47;omega)
 rw [List.drop_eq_getElem_cons (show k < s.length by omega),List.drop_eq_getElem_cons hk,e1,e2] at h ⊢
 rw [← skipS_two];exact h
theorem skip_com {s R : Str} {k : Nat} (hk : k < s.length) (hb : ¬ (s[k].toNat : Int) = 10) (h : skipS true (s.drop k) = R) : skipS true (s.drop (k + 1)) = R := by
 rw [List.drop_eq_getElem_cons hk,skipS_com (fun e => hb (by rw [e];rfl))] at h;exact h
theorem skip_out1 {s R : Str} {k : Nat} (hk : s.length ≤ k) (h : skipS true (s.drop k) = R) : skipS false (s.drop k) = R := by
 rw [List.drop_of_length_le hk,skipS_nil] at h ⊢;exact h
theorem skip_out2 {s R : Str} {k : Nat} (hk : k < s.length) (hb : (s[k].toNat : Int) = 10) (h : skipS true (s.drop k) = R) : skipS false (s.drop k) = R := by
 have e1 : s[k] = 10 := UInt8.toNat_inj.1 (by show s[k].toNat = 10;omega)
 rw [List.drop_eq_getElem_cons hk,e1] at h ⊢
 rw [← skipS_end];exact h
theorem stop_no {s : Str} {k : Nat} (hk : k < s.length) (hb : blkB s[k] = false) (h : ¬ (s[k].toNat : Int) = 47 ∨ ¬ k + 1 < s.length ∨ ∃ h : k + 1 < s.length,¬ (s[k + 1].toNat : Int) = 47) : skipS false (s.drop k) = s.drop k := by
 rw [List.drop_eq_getElem_cons hk]
 refine skipS_stop hb ?_
 rintro ⟨e1,e2⟩
 rcases h with h | h | ⟨h0,h⟩
 ·exact h (by rw [e1];rfl)
 ·rw [List.drop_of_length_le (by omega)] at e2;cases e2
 ·rw [List.drop_eq_getElem_cons h0] at e2
  exact h (by rw [Option.some.inj e2];rfl)
theorem stop_end {s : Str} {k : Nat} (hk : s.length ≤ k) : skipS false (s.drop k) = s.drop k := by rw [List.drop_of_length_le hk,skipS_nil]
theorem stop_val {s R : Str} {k : Nat} (hk : k ≤ s.length) (h : skipS false (s.drop k) = R) (h2 : skipS false (s.drop k) = s.drop k) : s.length - R.length = k := by
 rw [← h,h2,List.length_drop];omega
set_option maxRecDepth 100000 in
theorem skip_any (s : Str) (hl : s.length ≤ 1000000) (o : Nat) (ho : o ≤ s.length) (w : World) :
 Calls Tryz.prog 92 #[strV s,.int .i64 (o : Nat)] w fun r w' => r = .returned (.int .i64 ((s.length - (skipS false (s.drop o)).length : Nat) : Int)) ∧ Ext w w' := by
 refine Sx.enter (H := (fun _ => none)) Tryz.func92 rfl Tryz.ntmps92 rfl (fun _ _ e => by cases e) ?_
 refine .sr<|.a Z Z<|.nt<|.sq<|.bk<|.lp (X := Nat) [(0,_)] ⟨rfl,trivial⟩ [] (fun k => [(1,.int .i64 (k : Nat))]) (fun k => (fun _ => none)) (fun k => []) (fun k => k ≤ s.length ∧ skipS false (s.drop k) = skipS false (s.drop o)) (fun k => s.length - k) o (fun _ s => s) ⟨rfl,trivial⟩ ⟨ho,rfl⟩ fun k hC => ?_
 obtain ⟨hk0,hC2⟩ := hC
 refine .sq<|.sr<|.m Z Z<|.m Z Z<|.yv (.lenS Fx.str9 Z) Z<|.yv (.lss Z Z) Z<|.nt<|.cd Z (fun h8 => ?_) (fun h8 => ?_)
 ·try simp only [dt] at h8
  have hk : k < s.length := by omega
  refine .sk<|.tN<|.bk<|.sr<|.m Z Z<|.m Z Z<|.yv (.idxS Fx.str9 Z Z Z (b := s[k]) (j := k) (List.getElem?_eq_getElem hk)) Z<|.yv (.eql Z Z) Z<|.m Z Z<|.b2 (fun h13 => ?_) (fun h13 => ?_)
  ·try simp only [dt] at h13
   exact .gF Z Z Z Z<|.gF Z Z Z Z<|.gF Z Z Z Z<|.gF Z Z Z Z<|.yv (.pickT Z Z) Z<|.m Z Z<|.gF Z Z Z Z<|.gF Z Z Z Z<|.gF Z Z Z Z<|.gF Z Z Z Z<|.yv (.pickT Z Z) Z<|.m Z Z<|.gF Z Z Z Z<|.gF Z Z Z Z<|.gF Z Z Z Z<|.gF Z Z Z Z<|.yv (.pickT Z Z) Z<|.nt<|.cT Z<|.rg<|.m Z Z<|.yv (.add Z Z (w6 (by omega))) Z<|.a Z Z<|.nl<|.bN<|.tN<|.ag (k + 1) ⟨rfl,trivial⟩ ⟨rfl,trivial⟩ (fun _ s => s) ⟨by omega,skip_blk (by omega) (blk_of (by omega)) hC2⟩ (by first | omega | (have : j ≠ k := fun e => by subst e;omega);omega)
  try simp only [df] at h13
  refine .gd Z Z<|.yv (.move Z) Z<|.gd Z Z<|.yv (.move Z) Z<|.gd Z Z<|.yv (.idxS Fx.str9 Z Z Z (b := s[k]) (j := k) (List.getElem?_eq_getElem hk)) Z<|.gd Z Z<|.yv (.eql Z Z) Z<|.yv (.pickF Z Z) Z<|.m Z Z<|.b2 (fun h19 => ?_) (fun h19 => ?_)
  ·try simp only [dt] at h19
   exact .gF Z Z Z Z<|.gF Z Z Z Z<|.gF Z Z Z Z<|.gF Z Z Z Z<|.yv (.pickT Z Z) Z<|.m Z Z<|.gF Z Z Z Z<|.gF Z Z Z Z<|.gF Z Z Z Z<|.gF Z Z Z Z<|.yv (.pickT Z Z) Z<|.nt<|.cT Z<|.rg<|.m Z Z<|.yv (.add Z Z (w6 (by omega))) Z<|.a Z Z<|.nl<|.bN<|.tN<|.ag (k + 1) ⟨rfl,trivial⟩ ⟨rfl,trivial⟩ (fun _ s => s) ⟨by omega,skip_blk (by omega) (blk_of (by omega)) hC2⟩ (by first | omega | (have : j ≠ k := fun e => by subst e;omega);omega)
  try simp only [df] at h19
  refine .gd Z Z<|.yv (.move Z) Z<|.gd Z Z<|.yv (.move Z) Z<|.gd Z Z<|.yv (.idxS Fx.str9 Z Z Z (b := s[k]) (j := k) (List.getElem?_eq_getElem hk)) Z<|.gd Z Z<|.yv (.eql Z Z) Z<|.yv (.pickF Z Z) Z<|.m Z Z<|.b2 (fun h25 => ?_) (fun h25 => ?_)
  ·try simp only [dt] at h25
   exact .gF Z Z Z Z<|.gF Z Z Z Z<|.gF Z Z Z Z<|.gF Z Z Z Z<|.yv (.pickT Z Z) Z<|.nt<|.cT Z<|.rg<|.m Z Z<|.yv (.add Z Z (w6 (by omega))) Z<|.a Z Z<|.nl<|.bN<|.tN<|.ag (k + 1) ⟨rfl,trivial⟩ ⟨rfl,trivial⟩ (fun _ s => s) ⟨by omega,skip_blk (by omega) (blk_of (by omega)) hC2⟩ (by first | omega | (have : j ≠ k := fun e => by subst e;omega);omega)
  try simp only [df] at h25
  refine .gd Z Z<|.yv (.move Z) Z<|.gd Z Z<|.yv (.move Z) Z<|.gd Z Z<|.yv (.idxS Fx.str9 Z Z Z (b := s[k]) (j := k) (List.getElem?_eq_getElem hk)) Z<|.gd Z Z<|.yv (.eql Z Z) Z<|.yv (.pickF Z Z) Z<|.nt<|.cd Z (fun h30 => ?_) (fun h30 => ?_)
  ·try simp only [dt] at h30
   exact .rg<|.m Z Z<|.yv (.add Z Z (w6 (by omega))) Z<|.a Z Z<|.nl<|.bN<|.tN<|.ag (k + 1) ⟨rfl,trivial⟩ ⟨rfl,trivial⟩ (fun _ s => s) ⟨by omega,skip_blk (by omega) (blk_of (by omega)) hC2⟩ (by first | omega | (have : j ≠ k := fun e => by subst e;omega);omega)
  try simp only [df] at h30
  refine .sr<|.m Z Z<|.yv (.add Z Z (w6 (by omega))) Z<|.m Z Z<|.yv (.lenS Fx.str9 Z) Z<|.yv (.lss Z Z) Z<|.m Z Z<|.b2 (fun h38 => ?_) (fun h38 => ?_)
  ·try simp only [dt] at h38
   have hk1 : k + 1 < s.length := by omega
   refine .gd Z Z<|.yv (.move Z) Z<|.gd Z Z<|.yv (.move Z) Z<|.gd Z Z<|.yv (.idxS Fx.str9 Z Z Z (b := s[k]) (j := k) (List.getElem?_eq_getElem hk)) Z<|.gd Z Z<|.yv (.eql Z Z) Z<|.yv (.pickT Z Z) Z<|.m Z Z<|.b2 (fun h44 => ?_) (fun h44 => ?_)
   ·try simp only [dt] at h44
    refine .gd Z Z<|.yv (.move Z) Z<|.gd Z Z<|.yv (.move Z) Z<|.gd Z Z<|.yv (.add Z Z (w6 (by omega))) Z<|.gd Z Z<|.yv (.idxS Fx.str9 Z Z (by omega) (b := s[(k + 1)]) (j := (k + 1)) (List.getElem?_eq_getElem hk1)) Z<|.gd Z Z<|.yv (.eql Z Z) Z<|.yv (.pickT Z Z) Z<|.nt<|.cd Z (fun h50 => ?_) (fun h50 => ?_)
    ·try simp only [dt] at h50
     refine .bk<|.lp (X := Nat) [(0,_)] ⟨rfl,trivial⟩ [] (fun j => [(1,.int .i64 (j : Nat))]) (fun j => (fun _ => none)) (fun j => []) (fun j => k ≤ j ∧ j ≤ s.length ∧ skipS true (s.drop j) = skipS false (s.drop o)) (fun j => s.length - j) k (fun _ s => s) ⟨rfl,trivial⟩ ⟨by omega,by omega,skip_in (by omega) (by omega) (by omega) hC2⟩ fun j hC => ?_
     obtain ⟨hj0,hj1,hC3⟩ := hC
     refine .sq<|.sr<|.m Z Z<|.m Z Z<|.yv (.lenS Fx.str9 Z) Z<|.yv (.lss Z Z) Z<|.m Z Z<|.b2 (fun h55 => ?_) (fun h55 => ?_)
     ·try simp only [dt] at h55
      have hj : j < s.length := by omega
      refine .gd Z Z<|.yv (.move Z) Z<|.gd Z Z<|.yv (.move Z) Z<|.gd Z Z<|.yv (.idxS Fx.str9 Z Z Z (b := s[j]) (j := j) (List.getElem?_eq_getElem hj)) Z<|.gd Z Z<|.yv (.neq Z Z) Z<|.yv (.pickT Z Z) Z<|.nt<|.cd Z (fun h60 => ?_) (fun h60 => ?_)
      ·try simp only [dt] at h60
       exact .sk<|.tN<|.bk<|.rg<|.m Z Z<|.yv (.add Z Z (w6 (by omega))) Z<|.a Z Z<|.nl<|.bN<|.tN<|.ag (j + 1) ⟨rfl,trivial⟩ ⟨rfl,trivial⟩ (fun _ s => s) ⟨by omega,by omega,skip_com (by omega) (by omega) hC3⟩ (by omega)
      try simp only [df] at h60
      exact .ex<|.tE<|.tE<|.bE<|.bN<|.tN<|.ag j ⟨rfl,trivial⟩ ⟨rfl,trivial⟩ (fun _ s => s) ⟨by omega,by first | exact skip_out1 (by omega) hC3 | exact skip_out2 (show j < s.length by omega) (by omega) hC3⟩ (by first | omega | (have : j ≠ k := fun e => by subst e;omega);omega)
     try simp only [df] at h55
     exact .gF Z Z Z Z<|.gF Z Z Z Z<|.gF Z Z Z Z<|.gF Z Z Z Z<|.yv (.pickF Z Z) Z<|.nt<|.cF Z<|.ex<|.tE<|.tE<|.bE<|.bN<|.tN<|.ag j ⟨rfl,trivial⟩ ⟨rfl,trivial⟩ (fun _ s => s) ⟨by omega,by first | exact skip_out1 (by omega) hC3 | exact skip_out2 (show j < s.length by omega) (by omega) hC3⟩ (by first | omega | (have : j ≠ k := fun e => by subst e;omega);omega)
    try simp only [df] at h50
    refine .sr<|.m Z Z<|.a Z Z<|.nt<|.rt<|.bR<|.tR<|.bR<|.tR<|?_
    refine Sx.ret1 (.inl rfl) rfl (.tmp rfl) fun W s => ⟨?_,s.ext⟩
    first
     | (rw [stop_val hk0 hC2 (stop_no hk (nblk_of (by omega)) (.inl (by omega)))])
     | (rw [stop_val hk0 hC2 (stop_no hk (nblk_of (by omega)) (.inr (.inl (by omega))))])
     | (rw [stop_val hk0 hC2 (stop_no hk (nblk_of (by omega)) (.inr (.inr ⟨hk1,by omega⟩)))])
     | (rw [stop_val hk0 hC2 (stop_end (by omega))])
   try simp only [df] at h44
   refine .gF Z Z Z Z<|.gF Z Z Z Z<|.gF Z Z Z Z<|.gF Z Z Z Z<|.gF Z Z Z Z<|.yv (.pickF Z Z) Z<|.nt<|.cF Z<|.sr<|.m Z Z<|.a Z Z<|.nt<|.rt<|.bR<|.tR<|.bR<|.tR<|?_
   refine Sx.ret1 (.inl rfl) rfl (.tmp rfl) fun W s => ⟨?_,s.ext⟩
   first
    | (rw [stop_val hk0 hC2 (stop_no hk (nblk_of (by omega)) (.inl (by omega)))])
    | (rw [stop_val hk0 hC2 (stop_no hk (nblk_of (by omega)) (.inr (.inl (by omega))))])
    | (rw [stop_val hk0 hC2 (stop_no hk (nblk_of (by omega)) (.inr (.inr ⟨hk1,by omega⟩)))])
    | (rw [stop_val hk0 hC2 (stop_end (by omega))])
  try simp only [df] at h38
  refine .gF Z Z Z Z<|.gF Z Z Z Z<|.gF Z Z Z Z<|.gF Z Z Z Z<|.yv (.pickF Z Z) Z<|.m Z Z<|.gF Z Z Z Z<|.gF Z Z Z Z<|.gF Z Z Z Z<|.gF Z Z Z Z<|.gF Z Z Z Z<|.yv (.pickF Z Z) Z<|.nt<|.cF Z<|.sr<|.m Z Z<|.a Z Z<|.nt<|.rt<|.bR<|.tR<|.bR<|.tR<|?_
  refine Sx.ret1 (.inl rfl) rfl (.tmp rfl) fun W s => ⟨?_,s.ext⟩
  first
   | (rw [stop_val hk0 hC2 (stop_no hk (nblk_of (by omega)) (.inl (by omega)))])
   | (rw [stop_val hk0 hC2 (stop_no hk (nblk_of (by omega)) (.inr (.inl (by omega))))])
   | (rw [stop_val hk0 hC2 (stop_no hk (nblk_of (by omega)) (.inr (.inr ⟨hk1,by omega⟩)))])
   | (rw [stop_val hk0 hC2 (stop_end (by omega))])
 try simp only [df] at h8
 obtain rfl : k = s.length := by omega
 refine .ex<|.tE<|.tE<|.bE<|.tN<|.sr<|.m Z Z<|.a Z Z<|.nt<|.rt<|?_
 refine Sx.ret1 (.inl rfl) rfl (.tmp rfl) fun W s => ⟨?_,s.ext⟩
 first
  | (rw [stop_val hk0 hC2 (stop_no hk (nblk_of (by omega)) (.inl (by omega)))])
  | (rw [stop_val hk0 hC2 (stop_no hk (nblk_of (by omega)) (.inr (.inl (by omega))))])
  | (rw [stop_val hk0 hC2 (stop_no hk (nblk_of (by omega)) (.inr (.inr ⟨hk1,by omega⟩)))])
  | (rw [stop_val hk0 hC2 (stop_end (by omega))])
set_option maxRecDepth 100000 in
theorem keywordsR_any (H : Hp) (w : World) (hA : Agr H w) : Calls Tryz.prog 133 #[] w fun r w' => ∃ (b : Nat) (H' : Hp),MemAt H' b 0 (words.map strV) ∧ r = .returned (.slice (some ⟨b,0,none⟩) 39 39) ∧ Grow H w H' w' := by
 refine Sx.enter (H := H) Tryz.func133 rfl Tryz.ntmps133 rfl hA ?_
 refine .sr<|.a Z Z<|.ns<|.bl Z (Fx.bsl52_39 _ _ _ _ _ _ _ _ _ _ _ _ _ _ _ _ _ _ _ _ _ _ _ _ _ _ _ _ _ _ _ _ _ _ _ _ _ _ _) Z fun b1 => ?_
 refine Sx.freezeBox fun H1 u1 m1 => ?_
 refine .a Z Z<|.nt<|.rt<|?_
 exact Sx.ret1 (.inl rfl) rfl (.tmp rfl) fun W s => ⟨b1,H1,m1,rfl,u1.grow s⟩
set_option maxRecDepth 100000 in
theorem symbolsR_any (H : Hp) (w : World) (hA : Agr H w) : Calls Tryz.prog 134 #[] w fun r w' => ∃ (b : Nat) (H' : Hp),MemAt H' b 0 (symbols.map strV) ∧ r = .returned (.slice (some ⟨b,0,none⟩) 25 25) ∧ Grow H w H' w' := by
 refine Sx.enter (H := H) Tryz.func134 rfl Tryz.ntmps134 rfl hA ?_
 refine .sr<|.a Z Z<|.ns<|.bl Z (Fx.bsl52_25 _ _ _ _ _ _ _ _ _ _ _ _ _ _ _ _ _ _ _ _ _ _ _ _ _) Z fun b1 => ?_
 refine Sx.freezeBox fun H1 u1 m1 => ?_
 refine .a Z Z<|.nt<|.rt<|?_
 exact Sx.ret1 (.inl rfl) rfl (.tmp rfl) fun W s => ⟨b1,H1,m1,rfl,u1.grow s⟩
theorem ins_of {c : UInt8} (h : letB c = true ∨ digB c = true ∨ (c.toNat : Int) = 95) : insB c = true := by
 simp only [insB,Bool.or_eq_true,decide_eq_true_eq]
 rcases h with h | h | h
 ·exact .inl (.inl h)
 ·exact .inl (.inr h)
 ·exact .inr (by omega)
theorem nins_of {c : UInt8} (h1 : letB c = false) (h2 : digB c = false) (h3 : ¬ (c.toNat : Int) = 95) : insB c = false := by
 simp only [insB,Bool.or_eq_false_iff,decide_eq_false_iff_not]
 exact ⟨⟨h1,h2⟩,by omega⟩
theorem pre_end {q : UInt8 → Bool} {l : Str} {k : Nat} (h : k ≤ pre q l) (hk : ¬ k < l.length) : k = pre q l := by
 have := pre_le q l;omega
theorem mid_take (s : Str) (o n : Nat) : (s.take (o + n)).drop o = (s.drop o).take n := by
 rw [List.drop_take,Nat.add_sub_cancel_left]
theorem sym_take {l x : Str} (h : symbols.find? (fun x => x.isPrefixOf l) = some x) : l.take x.length = x := by
 have h1 := List.find?_some (p := fun (x : Str) => x.isPrefixOf l) h
 obtain ⟨t,ht⟩ := List.isPrefixOf_iff_prefix.1 h1
 rw [← ht,List.take_left]
theorem word_in {l : Str} {k : Nat} (hk : k < 39) (h : words.getD k [] = l) : words.contains l = true := by
 rw [List.contains_iff_mem,← h,getD_at (show k < words.length from hk)]
 exact List.getElem_mem _
theorem word_no {l : Str} (h : ∀ j,j < 39 → words.getD j [] ≠ l) : words.contains l = false := by
 rw [Bool.eq_false_iff,Ne,List.contains_iff_mem]
 intro hm
 obtain ⟨j,hj,e⟩ := List.mem_iff_getElem.1 hm
 exact h j hj (by rw [getD_at hj];exact e)
set_option maxRecDepth 100000 in
theorem next_any (H : Hp) (s : Str) (hl : s.length ≤ 1000000) (o : Nat) (ho : o < s.length) (w : World) (hA : Agr H w) :
 Calls Tryz.prog 93 #[strV s,.int .i64 (o : Nat)] w fun r w' => r = .returned (.agg [.int .i64 ((readK (s.drop o)).1.toNat : Nat),strV ((s.drop o).take (readK (s.drop o)).2),.int .i64 (o : Nat)].toArray) ∧ Ext w w' := by
 obtain ⟨l,hm⟩ : ∃ l,l = s.drop o := ⟨_,rfl⟩
 rw [← hm]
 have hlen : o + l.length = s.length := by rw [hm,List.length_drop];omega
 have hget : ∀ k (h : k < l.length),s[o + k]? = some l[k] := fun k h => by rw [← List.getElem?_drop,← hm,List.getElem?_eq_getElem h]
 cases l with
 | nil => simp only [List.length_nil] at hlen;omega
 | cons c m =>
 have hlen2 : (c :: m).length = m.length + 1 := rfl
 refine Sx.enter (H := H) Tryz.func93 rfl Tryz.ntmps93 rfl hA ?_
 refine .sr<|.al Fx.zero133 Z fun b4 => .ns<|.m Z Z<|.a Z Z<|.nt<|.sq<|.sr<|.m Z Z<|.m Z Z<|.yv (.idxS Fx.str9 Z Z Z (b := c) (j := o) (by rw [← Nat.add_zero o];exact hget 0 (by simp))) Z<|.yv (.call Fx.call131 Z (fun W s => rletter_any _ W)) Z<|.nt<|.cd Z (fun h15 => ?_) (fun h15 => ?_)
 ·skip
  refine .cu (X := Unit) [(0,_),(1,_),(4,_)] ⟨rfl,rfl,rfl,trivial⟩ (fun z => [(5,.int .i64 ((o + pre insB (c :: m) : Nat) : Int))]) (fun z => H) (fun z => [.box b4 [.int .i64 0,.string ⟨#[]⟩,.int .i64 0] 133]) (fun z => True) ?_ fun z hC => ?_
  ·
   refine .bk<|.lp (X := Nat) [(0,_),(1,_),(4,_)] ⟨rfl,rfl,rfl,trivial⟩ [_] (fun k => [(5,.int .i64 ((o + k : Nat) : Int))]) (fun k => H) (fun k => []) (fun k => k ≤ pre insB (c :: m)) (fun k => pre insB (c :: m) - k) 0 (fun _ s => s) ⟨rfl,trivial⟩ (by omega) fun k hC => ?_
   refine .sq<|.sr<|.m Z Z<|.m Z Z<|.yv (.lenS Fx.str9 Z) Z<|.yv (.lss Z Z) Z<|.m Z Z<|.b2 (fun h20 => ?_) (fun h20 => ?_)
   ·try simp only [dt] at h20
    have hk : k < (c :: m).length := by omega
    refine .gd Z Z<|.yv (.move Z) Z<|.gd Z Z<|.yv (.move Z) Z<|.gd Z Z<|.yv (.idxS Fx.str9 Z Z Z (b := (c :: m)[k]) (j := o + k) (hget k hk)) Z<|.gd Z Z<|.yv (.call Fx.call131 Z (fun W s => rletter_any _ W)) Z<|.gd Z Z<|.yv (.move Z) Z<|.b2 (fun h25 => ?_) (fun h25 => ?_)
    ·skip
     exact .gF Z Z Z Z<|.gF Z Z Z Z<|.gF Z Z Z Z<|.gF Z Z Z Z<|.gd Z Z<|.yv (.pickT Z Z) Z<|.gd Z Z<|.yv (.move Z) Z<|.gF Z Z Z Z<|.gF Z Z Z Z<|.gF Z Z Z Z<|.gF Z Z Z Z<|.gd Z Z<|.yv (.pickT Z Z) Z<|.yv (.pickT Z Z) Z<|.nt<|.cT Z<|.sk<|.tN<|.bk<|.rg<|.m Z Z<|.yv (.add Z Z (c := ((o + (k + 1) : Nat) : Int)) ((w6 (by omega)).trans (by omega))) Z<|.a Z Z<|.nl<|.bN<|.tN<|.ag (k + 1) ⟨rfl,trivial⟩ ⟨rfl,rfl,rfl,trivial⟩ (fun _ s => s) (pre_step hk hC (ins_of (by first | exact .inl (by assumption) | exact .inr (.inl (by assumption)) | exact .inr (.inr (by omega))))) (by have := pre_step hk hC (ins_of (by first | exact .inl (by assumption) | exact .inr (.inl (by assumption)) | exact .inr (.inr (by omega))));omega)
    skip
    refine .gd Z Z<|.yv (.move Z) Z<|.gd Z Z<|.yv (.move Z) Z<|.gd Z Z<|.yv (.idxS Fx.str9 Z Z Z (b := (c :: m)[k]) (j := o + k) (hget k hk)) Z<|.gd Z Z<|.yv (.call Fx.call132 Z (fun W s => rdigit_any _ W)) Z<|.gd Z Z<|.yv (.pickF Z Z) Z<|.gd Z Z<|.yv (.move Z) Z<|.b2 (fun h31 => ?_) (fun h31 => ?_)
    ·skip
     exact .gF Z Z Z Z<|.gF Z Z Z Z<|.gF Z Z Z Z<|.gF Z Z Z Z<|.gd Z Z<|.yv (.pickT Z Z) Z<|.yv (.pickT Z Z) Z<|.nt<|.cT Z<|.sk<|.tN<|.bk<|.rg<|.m Z Z<|.yv (.add Z Z (c := ((o + (k + 1) : Nat) : Int)) ((w6 (by omega)).trans (by omega))) Z<|.a Z Z<|.nl<|.bN<|.tN<|.ag (k + 1) ⟨rfl,trivial⟩ ⟨rfl,rfl,rfl,trivial⟩ (fun _ s => s) (pre_step hk hC (ins_of (by first | exact .inl (by assumption) | exact .inr (.inl (by assumption)) | exact .inr (.inr (by omega))))) (by have := pre_step hk hC (ins_of (by first | exact .inl (by assumption) | exact .inr (.inl (by assumption)) | exact .inr (.inr (by omega))));omega)
    skip
    refine .gd Z Z<|.yv (.move Z) Z<|.gd Z Z<|.yv (.move Z) Z<|.gd Z Z<|.yv (.idxS Fx.str9 Z Z Z (b := (c :: m)[k]) (j := o + k) (hget k hk)) Z<|.gd Z Z<|.yv (.eql Z Z) Z<|.gd Z Z<|.yv (.pickF Z Z) Z<|.yv (.pickT Z Z) Z<|.nt<|.cd Z (fun h37 => ?_) (fun h37 => ?_)
    ·try simp only [dt] at h37
     exact .sk<|.tN<|.bk<|.rg<|.m Z Z<|.yv (.add Z Z (c := ((o + (k + 1) : Nat) : Int)) ((w6 (by omega)).trans (by omega))) Z<|.a Z Z<|.nl<|.bN<|.tN<|.ag (k + 1) ⟨rfl,trivial⟩ ⟨rfl,rfl,rfl,trivial⟩ (fun _ s => s) (pre_step hk hC (ins_of (by first | exact .inl (by assumption) | exact .inr (.inl (by assumption)) | exact .inr (.inr (by omega))))) (by have := pre_step hk hC (ins_of (by first | exact .inl (by assumption) | exact .inr (.inl (by assumption)) | exact .inr (.inr (by omega))));omega)
    try simp only [df] at h37
    exact .ex<|.tE<|.tE<|.bE<|.tN<|.me () ⟨(by first | (rw [← pre_end hC (by omega)];rfl) | (rw [← pre_stop hk hC (by first | exact nins_of (by assumption) (by assumption) (by omega) | assumption)];rfl)),trivial⟩ ⟨rfl,rfl,rfl,trivial⟩ (fun _ s => s) trivial
   try simp only [df] at h20
   skip
   exact .gF Z Z Z Z<|.gF Z Z Z Z<|.gF Z Z Z Z<|.gF Z Z Z Z<|.gF Z Z Z Z<|.gU Z Z Z<|.gU Z Z Z<|.gU Z Z Z<|.gU Z Z Z<|.gF Z Z Z Z<|.gF Z Z Z Z<|.gU Z Z Z<|.gU Z Z Z<|.gU Z Z Z<|.gU Z Z Z<|.gF Z Z Z Z<|.yv (.pickF Z Z) Z<|.nt<|.cF Z<|.ex<|.tE<|.tE<|.bE<|.tN<|.me () ⟨(by first | (rw [← pre_end hC (by omega)];rfl) | (rw [← pre_stop hk hC (by first | exact nins_of (by assumption) (by assumption) (by omega) | assumption)];rfl)),trivial⟩ ⟨rfl,rfl,rfl,trivial⟩ (fun _ s => s) trivial
  refine .sr<|.m Z Z<|.m Z Z<|.m Z Z<|.yv (.cast (.midS Fx.str9 Z Z Z Z Z (by omega) (by have := pre_le insB (c :: m);omega)) (by rw [mid_take,← hm])) Z<|.a Z Z<|.nt<|.sq<|.sr<|.ct (X := Nat) Fx.call133 Z (fun W s => keywordsR_any H W s.agr) Z fun b44 H1 m1 u1 => .yv (.lenSl Fx.sl52 Z) Z<|.m Z Z<|.nt<|.bk<|.lp (X := Nat) [(0,_),(1,_),(4,_),(5,_),(6,_),(44,_),(45,_)] ⟨rfl,rfl,rfl,rfl,rfl,rfl,rfl,trivial⟩ [_] (fun k => [(46,.int .i64 (k : Nat))]) (fun k => H1) (fun k => []) (fun k => k ≤ 39 ∧ ∀ j,j < k → words.getD j [] ≠ ((c :: m).take (pre insB (c :: m)))) (fun k => 39 - k) 0 (fun _ s => s) ⟨rfl,trivial⟩ ⟨by omega,fun j hj => by omega⟩ fun k hC => ?_
  obtain ⟨hk0,hne⟩ := hC
  refine .sr<|.yv (.lss Z Z) Z<|.nt<|.sq<|.cd Z (fun h47 => ?_) (fun h47 => ?_)
  ·try simp only [dt] at h47
   refine .sk<|.tN<|.sq<|.bk<|.sr<|.yv (.indexSl Fx.sl52 Z Z Z (by omega) (q := k) (by omega)) Z<|.yv (.loadM Z Fx.agg9 m1 (k := k) (by omega) (list_at (by show k < 39;omega) [])) Z<|.a Z Z<|.ns<|.m Z Z<|.m Z Z<|.yv (.eqS Z Z) Z<|.nt<|.cd Z (fun h52 => ?_) (fun h52 => ?_)
   ·try simp only [dt] at h52
    have hw := word_in (by omega) h52
    refine .sr<|.m Z Z<|.m Z Z<|.yv (.build Z (Fx.bld133_0_1_2 _ _ _)) Z<|.sW .head Z Z Fx.size133 (by simp [Value.oneCell',strV]) Z<|.nt<|.rt<|.bR<|.tR<|.tR<|.bR<|.tR<|.tR<|?_
    refine Sx.ret1 (.inl rfl) rfl (.cell rfl Fx.agg133 (.head _) rfl) fun W s => ⟨?_,(u1.grow s).ext⟩
    first
     | (simp only [readK,List.headD_cons,h15,hw,if_true,if_false,Bool.false_eq_true];rfl)
     | (simp only [readK,List.headD_cons,h15,hw,if_true,if_false,Bool.false_eq_true,List.take_length];rfl)
     | (simp only [readK,List.headD_cons,h15,hw,hw9,if_true,if_false,Bool.false_eq_true];rfl)
     | (simp only [readK,List.headD_cons,h15,hw,hw9,if_true,if_false,Bool.false_eq_true,List.take_length];rfl)
     | (simp only [readK,List.headD_cons,h15,h71,hor,if_true,if_false,Bool.false_eq_true];rfl)
     | (simp only [readK,List.headD_cons,h15,h71,hor,if_true,if_false,Bool.false_eq_true,List.take_length];rfl)
     | (simp only [readK,List.headD_cons,h15,h71,hfind,if_true,if_false,Bool.false_eq_true];rfl)
     | (simp only [readK,List.headD_cons,h15,h71,hfind,if_true,if_false,Bool.false_eq_true,List.take_length];rfl)
     | (simp only [readK,List.headD_cons,h15,h71,hfind,if_true,if_false,Bool.false_eq_true,sym_take hfind];rfl)
     | (simp only [readK,List.headD_cons,h15,h71,hfind,if_true,if_false,Bool.false_eq_true,List.take_length];rfl)
   try simp only [df] at h52
   exact .sk<|.bN<|.tN<|.rg<|.yv (.add Z Z (w6 (by omega))) Z<|.m Z Z<|.nt<|.ag (k + 1) ⟨rfl,trivial⟩ ⟨rfl,rfl,rfl,rfl,rfl,rfl,rfl,trivial⟩ (fun _ s => s) ⟨by omega,fun j hj => by
   by_cases e : j = k
   ·subst e;exact h52
   ·exact hne j (by omega)⟩ (by omega)
  try simp only [df] at h47
  have hw := word_no (fun j hj => hne j (by omega))
  refine .ex<|.tE<|.tE<|.bE<|.tN<|.sq<|.sr<|.m Z Z<|.yv (.lenS Fx.str9 Z) Z<|.yv (.leq Z Z) Z<|.nt<|.cd Z (fun h59 => ?_) (fun h59 => ?_)
  ·try simp only [dt] at h59
   have hw9 : pre insB (c :: m) ≤ 12 := by have := pre_le insB (c :: m);rw [List.length_take] at h59;omega
   refine .sr<|.m Z Z<|.m Z Z<|.yv (.build Z (Fx.bld133_0_1_2 _ _ _)) Z<|.sW .head Z Z Fx.size133 (by simp [Value.oneCell',strV]) Z<|.nt<|.rt<|.tR<|.tR<|?_
   refine Sx.ret1 (.inl rfl) rfl (.cell rfl Fx.agg133 (.head _) rfl) fun W s => ⟨?_,(u1.grow s).ext⟩
   first
    | (simp only [readK,List.headD_cons,h15,hw,if_true,if_false,Bool.false_eq_true];rfl)
    | (simp only [readK,List.headD_cons,h15,hw,if_true,if_false,Bool.false_eq_true,List.take_length];rfl)
    | (simp only [readK,List.headD_cons,h15,hw,hw9,if_true,if_false,Bool.false_eq_true];rfl)
    | (simp only [readK,List.headD_cons,h15,hw,hw9,if_true,if_false,Bool.false_eq_true,List.take_length];rfl)
    | (simp only [readK,List.headD_cons,h15,h71,hor,if_true,if_false,Bool.false_eq_true];rfl)
    | (simp only [readK,List.headD_cons,h15,h71,hor,if_true,if_false,Bool.false_eq_true,List.take_length];rfl)
    | (simp only [readK,List.headD_cons,h15,h71,hfind,if_true,if_false,Bool.false_eq_true];rfl)
    | (simp only [readK,List.headD_cons,h15,h71,hfind,if_true,if_false,Bool.false_eq_true,List.take_length];rfl)
    | (simp only [readK,List.headD_cons,h15,h71,hfind,if_true,if_false,Bool.false_eq_true,sym_take hfind];rfl)
    | (simp only [readK,List.headD_cons,h15,h71,hfind,if_true,if_false,Bool.false_eq_true,List.take_length];rfl)
  try simp only [df] at h59
  have hw9 : ¬ pre insB (c :: m) ≤ 12 := by have := pre_le insB (c :: m);rw [List.length_take] at h59;omega
  refine .sk<|.tN<|.sr<|.m Z Z<|.m Z Z<|.yv (.cast (.dropS Fx.str9 Z Z Z (by omega)) (by rw [← hm])) Z<|.m Z Z<|.yv (.build Z (Fx.bld133_0_1_2 _ _ _)) Z<|.sW .head Z Z Fx.size133 (by simp [Value.oneCell',strV]) Z<|.nt<|.rt<|.tR<|?_
  refine Sx.ret1 (.inl rfl) rfl (.cell rfl Fx.agg133 (.head _) rfl) fun W s => ⟨?_,(u1.grow s).ext⟩
  first
   | (simp only [readK,List.headD_cons,h15,hw,if_true,if_false,Bool.false_eq_true];rfl)
   | (simp only [readK,List.headD_cons,h15,hw,if_true,if_false,Bool.false_eq_true,List.take_length];rfl)
   | (simp only [readK,List.headD_cons,h15,hw,hw9,if_true,if_false,Bool.false_eq_true];rfl)
   | (simp only [readK,List.headD_cons,h15,hw,hw9,if_true,if_false,Bool.false_eq_true,List.take_length];rfl)
   | (simp only [readK,List.headD_cons,h15,h71,hor,if_true,if_false,Bool.false_eq_true];rfl)
   | (simp only [readK,List.headD_cons,h15,h71,hor,if_true,if_false,Bool.false_eq_true,List.take_length];rfl)
   | (simp only [readK,List.headD_cons,h15,h71,hfind,if_true,if_false,Bool.false_eq_true];rfl)
   | (simp only [readK,List.headD_cons,h15,h71,hfind,if_true,if_false,Bool.false_eq_true,List.take_length];rfl)
   | (simp only [readK,List.headD_cons,h15,h71,hfind,if_true,if_false,Bool.false_eq_true,sym_take hfind];rfl)
   | (simp only [readK,List.headD_cons,h15,h71,hfind,if_true,if_false,Bool.false_eq_true,List.take_length];rfl)
 skip
 refine .sk<|.tN<|.sq<|.sr<|.m Z Z<|.m Z Z<|.yv (.idxS Fx.str9 Z Z Z (b := c) (j := o) (by rw [← Nat.add_zero o];exact hget 0 (by simp))) Z<|.yv (.call Fx.call132 Z (fun W s => rdigit_any _ W)) Z<|.nt<|.cd Z (fun h71 => ?_) (fun h71 => ?_)
 ·skip
  refine .cu (X := Unit) [(0,_),(1,_),(4,_)] ⟨rfl,rfl,rfl,trivial⟩ (fun z => [(5,.int .i64 ((o + pre digB (c :: m) : Nat) : Int))]) (fun z => H) (fun z => [.box b4 [.int .i64 0,.string ⟨#[]⟩,.int .i64 0] 133]) (fun z => True) ?_ fun z hC => ?_
  ·
   refine .bk<|.lp (X := Nat) [(0,_),(1,_),(4,_)] ⟨rfl,rfl,rfl,trivial⟩ [_] (fun k => [(5,.int .i64 ((o + k : Nat) : Int))]) (fun k => H) (fun k => []) (fun k => k ≤ pre digB (c :: m)) (fun k => pre digB (c :: m) - k) 0 (fun _ s => s) ⟨rfl,trivial⟩ (by omega) fun k hC => ?_
   refine .sq<|.sr<|.m Z Z<|.m Z Z<|.yv (.lenS Fx.str9 Z) Z<|.yv (.lss Z Z) Z<|.m Z Z<|.b2 (fun h76 => ?_) (fun h76 => ?_)
   ·try simp only [dt] at h76
    have hk : k < (c :: m).length := by omega
    refine .gd Z Z<|.yv (.move Z) Z<|.gd Z Z<|.yv (.move Z) Z<|.gd Z Z<|.yv (.idxS Fx.str9 Z Z Z (b := (c :: m)[k]) (j := o + k) (hget k hk)) Z<|.gd Z Z<|.yv (.call Fx.call132 Z (fun W s => rdigit_any _ W)) Z<|.yv (.pickT Z Z) Z<|.nt<|.cd Z (fun h81 => ?_) (fun h81 => ?_)
    ·skip
     exact .sk<|.tN<|.bk<|.rg<|.m Z Z<|.yv (.add Z Z (c := ((o + (k + 1) : Nat) : Int)) ((w6 (by omega)).trans (by omega))) Z<|.a Z Z<|.nl<|.bN<|.tN<|.ag (k + 1) ⟨rfl,trivial⟩ ⟨rfl,rfl,rfl,trivial⟩ (fun _ s => s) (pre_step hk hC (by assumption)) (by have := pre_step hk hC (by assumption);omega)
    skip
    exact .ex<|.tE<|.tE<|.bE<|.tN<|.me () ⟨(by first | (rw [← pre_end hC (by omega)];rfl) | (rw [← pre_stop hk hC (by first | exact nins_of (by assumption) (by assumption) (by omega) | assumption)];rfl)),trivial⟩ ⟨rfl,rfl,rfl,trivial⟩ (fun _ s => s) trivial
   try simp only [df] at h76
   skip
   exact .gF Z Z Z Z<|.gF Z Z Z Z<|.gF Z Z Z Z<|.gF Z Z Z Z<|.yv (.pickF Z Z) Z<|.nt<|.cF Z<|.ex<|.tE<|.tE<|.bE<|.tN<|.me () ⟨(by first | (rw [← pre_end hC (by omega)];rfl) | (rw [← pre_stop hk hC (by first | exact nins_of (by assumption) (by assumption) (by omega) | assumption)];rfl)),trivial⟩ ⟨rfl,rfl,rfl,trivial⟩ (fun _ s => s) trivial
  refine .sq<|.sr<|.m Z Z<|.m Z Z<|.yv (.idxS Fx.str9 Z Z Z (b := c) (j := o) (by rw [← Nat.add_zero o];exact hget 0 (by simp))) Z<|.yv (.eql Z Z) Z<|.m Z Z<|.b2 (fun h88 => ?_) (fun h88 => ?_)
  ·try simp only [dt] at h88
   have h48 : c = 48 := UInt8.toNat_inj.1 (by show c.toNat = 48;omega)
   refine .gd Z Z<|.yv (.move Z) Z<|.gd Z Z<|.yv (.move Z) Z<|.gd Z Z<|.yv (.add Z Z (w6 (by omega))) Z<|.gd Z Z<|.yv (.gtr Z Z) Z<|.yv (.pickT Z Z) Z<|.nt<|.cd Z (fun h93 => ?_) (fun h93 => ?_)
   ·try simp only [dt] at h93
    have hor : ¬ (pre digB (c :: m) = 1 ∨ c ≠ 48) := by
     rintro (h | h)
     ·omega
     ·exact h h48
    refine .sr<|.m Z Z<|.m Z Z<|.yv (.cast (.dropS Fx.str9 Z Z Z (by omega)) (by rw [← hm])) Z<|.m Z Z<|.yv (.build Z (Fx.bld133_0_1_2 _ _ _)) Z<|.sW .head Z Z Fx.size133 (by simp [Value.oneCell',strV]) Z<|.nt<|.rt<|.tR<|.tR<|?_
    refine Sx.ret1 (.inl rfl) rfl (.cell rfl Fx.agg133 (.head _) rfl) fun W s => ⟨?_,(s.ext)⟩
    first
     | (simp only [readK,List.headD_cons,h15,hw,if_true,if_false,Bool.false_eq_true];rfl)
     | (simp only [readK,List.headD_cons,h15,hw,if_true,if_false,Bool.false_eq_true,List.take_length];rfl)
     | (simp only [readK,List.headD_cons,h15,hw,hw9,if_true,if_false,Bool.false_eq_true];rfl)
     | (simp only [readK,List.headD_cons,h15,hw,hw9,if_true,if_false,Bool.false_eq_true,List.take_length];rfl)
     | (simp only [readK,List.headD_cons,h15,h71,hor,if_true,if_false,Bool.false_eq_true];rfl)
     | (simp only [readK,List.headD_cons,h15,h71,hor,if_true,if_false,Bool.false_eq_true,List.take_length];rfl)
     | (simp only [readK,List.headD_cons,h15,h71,hfind,if_true,if_false,Bool.false_eq_true];rfl)
     | (simp only [readK,List.headD_cons,h15,h71,hfind,if_true,if_false,Bool.false_eq_true,List.take_length];rfl)
     | (simp only [readK,List.headD_cons,h15,h71,hfind,if_true,if_false,Bool.false_eq_true,sym_take hfind];rfl)
     | (simp only [readK,List.headD_cons,h15,h71,hfind,if_true,if_false,Bool.false_eq_true,List.take_length];rfl)
   try simp only [df] at h93
   have hp1 := pre_step (l := c :: m) (k := 0) (by simp) (Nat.zero_le _) h71
   have hor : (pre digB (c :: m) = 1 ∨ c ≠ 48) := .inl (by omega)
   refine .sk<|.tN<|.sr<|.m Z Z<|.m Z Z<|.m Z Z<|.yv (.cast (.midS Fx.str9 Z Z Z Z Z (by omega) (by have := pre_le digB (c :: m);omega)) (by rw [mid_take,← hm])) Z<|.m Z Z<|.yv (.build Z (Fx.bld133_0_1_2 _ _ _)) Z<|.sW .head Z Z Fx.size133 (by simp [Value.oneCell',strV]) Z<|.nt<|.rt<|.tR<|?_
   refine Sx.ret1 (.inl rfl) rfl (.cell rfl Fx.agg133 (.head _) rfl) fun W s => ⟨?_,(s.ext)⟩
   first
    | (simp only [readK,List.headD_cons,h15,hw,if_true,if_false,Bool.false_eq_true];rfl)
    | (simp only [readK,List.headD_cons,h15,hw,if_true,if_false,Bool.false_eq_true,List.take_length];rfl)
    | (simp only [readK,List.headD_cons,h15,hw,hw9,if_true,if_false,Bool.false_eq_true];rfl)
    | (simp only [readK,List.headD_cons,h15,hw,hw9,if_true,if_false,Bool.false_eq_true,List.take_length];rfl)
    | (simp only [readK,List.headD_cons,h15,h71,hor,if_true,if_false,Bool.false_eq_true];rfl)
    | (simp only [readK,List.headD_cons,h15,h71,hor,if_true,if_false,Bool.false_eq_true,List.take_length];rfl)
    | (simp only [readK,List.headD_cons,h15,h71,hfind,if_true,if_false,Bool.false_eq_true];rfl)
    | (simp only [readK,List.headD_cons,h15,h71,hfind,if_true,if_false,Bool.false_eq_true,List.take_length];rfl)
    | (simp only [readK,List.headD_cons,h15,h71,hfind,if_true,if_false,Bool.false_eq_true,sym_take hfind];rfl)
    | (simp only [readK,List.headD_cons,h15,h71,hfind,if_true,if_false,Bool.false_eq_true,List.take_length];rfl)
  try simp only [df] at h88
  have hor : (pre digB (c :: m) = 1 ∨ c ≠ 48) := .inr (fun e => h88 (by rw [e];rfl))
  refine .gF Z Z Z Z<|.gF Z Z Z Z<|.gF Z Z Z Z<|.gF Z Z Z Z<|.yv (.pickF Z Z) Z<|.nt<|.cF Z<|.sk<|.tN<|.sr<|.m Z Z<|.m Z Z<|.m Z Z<|.yv (.cast (.midS Fx.str9 Z Z Z Z Z (by omega) (by have := pre_le digB (c :: m);omega)) (by rw [mid_take,← hm])) Z<|.m Z Z<|.yv (.build Z (Fx.bld133_0_1_2 _ _ _)) Z<|.sW .head Z Z Fx.size133 (by simp [Value.oneCell',strV]) Z<|.nt<|.rt<|.tR<|?_
  refine Sx.ret1 (.inl rfl) rfl (.cell rfl Fx.agg133 (.head _) rfl) fun W s => ⟨?_,(s.ext)⟩
  first
   | (simp only [readK,List.headD_cons,h15,hw,if_true,if_false,Bool.false_eq_true];rfl)
   | (simp only [readK,List.headD_cons,h15,hw,if_true,if_false,Bool.false_eq_true,List.take_length];rfl)
   | (simp only [readK,List.headD_cons,h15,hw,hw9,if_true,if_false,Bool.false_eq_true];rfl)
   | (simp only [readK,List.headD_cons,h15,hw,hw9,if_true,if_false,Bool.false_eq_true,List.take_length];rfl)
   | (simp only [readK,List.headD_cons,h15,h71,hor,if_true,if_false,Bool.false_eq_true];rfl)
   | (simp only [readK,List.headD_cons,h15,h71,hor,if_true,if_false,Bool.false_eq_true,List.take_length];rfl)
   | (simp only [readK,List.headD_cons,h15,h71,hfind,if_true,if_false,Bool.false_eq_true];rfl)
   | (simp only [readK,List.headD_cons,h15,h71,hfind,if_true,if_false,Bool.false_eq_true,List.take_length];rfl)
   | (simp only [readK,List.headD_cons,h15,h71,hfind,if_true,if_false,Bool.false_eq_true,sym_take hfind];rfl)
   | (simp only [readK,List.headD_cons,h15,h71,hfind,if_true,if_false,Bool.false_eq_true,List.take_length];rfl)
 skip
 refine .sk<|.tN<|.sq<|.sr<|.ct (X := Nat) Fx.call134 Z (fun W s => symbolsR_any H W s.agr) Z fun b105 H1 m1 u1 => .yv (.lenSl Fx.sl52 Z) Z<|.m Z Z<|.nt<|.bk<|.lp (X := Nat) [(0,_),(1,_),(4,_),(105,_),(106,_)] ⟨rfl,rfl,rfl,rfl,rfl,trivial⟩ [_] (fun k => [(107,.int .i64 (k : Nat))]) (fun k => H1) (fun k => []) (fun k => k ≤ 25 ∧ ∀ j,j < k → hasP (c :: m) (symbols.getD j []) = false) (fun k => 25 - k) 0 (fun _ s => s) ⟨rfl,trivial⟩ ⟨by omega,fun j hj => by omega⟩ fun k hC => ?_
 obtain ⟨hk0,hne⟩ := hC
 refine .sr<|.yv (.lss Z Z) Z<|.nt<|.sq<|.cd Z (fun h108 => ?_) (fun h108 => ?_)
 ·try simp only [dt] at h108
  refine .sk<|.tN<|.sq<|.bk<|.sr<|.yv (.indexSl Fx.sl52 Z Z Z (by omega) (q := k) (by omega)) Z<|.yv (.loadM Z Fx.agg9 m1 (k := k) (by omega) (list_at (by show k < 25;omega) [])) Z<|.a Z Z<|.ns<|.m Z Z<|.yv (.lenS Fx.str9 Z) Z<|.m Z Z<|.yv (.sub Z Z (w6 (by omega))) Z<|.m Z Z<|.yv (.lenS Fx.str9 Z) Z<|.yv (.geq Z Z) Z<|.m Z Z<|.b2 (fun h118 => ?_) (fun h118 => ?_)
  ·try simp only [dt] at h118
   refine .gd Z Z<|.yv (.move Z) Z<|.gd Z Z<|.yv (.move Z) Z<|.gd Z Z<|.yv (.move Z) Z<|.gd Z Z<|.yv (.move Z) Z<|.gd Z Z<|.yv (.lenS Fx.str9 Z) Z<|.gd Z Z<|.yv (.add Z Z (w6 (by omega))) Z<|.gd Z Z<|.yv (.cast (.midS Fx.str9 Z Z Z Z (hi := o + (symbols.getD k []).length) (by omega) (by omega) (by omega)) (by rw [mid_take,← hm])) Z<|.gd Z Z<|.yv (.move Z) Z<|.gd Z Z<|.yv (.eqS Z Z) Z<|.yv (.pickT Z Z) Z<|.nt<|.cd Z (fun h128 => ?_) (fun h128 => ?_)
   ·try simp only [dt] at h128
    have hfind := sym_find (l := c :: m) (by omega) hne (by simp only [hasP,Bool.and_eq_true,decide_eq_true_eq] at *;exact ⟨by omega,by assumption⟩)
    refine .sr<|.m Z Z<|.m Z Z<|.yv (.build Z (Fx.bld133_0_1_2 _ _ _)) Z<|.sW .head Z Z Fx.size133 (by simp [Value.oneCell',strV]) Z<|.nt<|.rt<|.bR<|.tR<|.tR<|.bR<|.tR<|?_
    refine Sx.ret1 (.inl rfl) rfl (.cell rfl Fx.agg133 (.head _) rfl) fun W s => ⟨?_,(u1.grow s).ext⟩
    first
     | (simp only [readK,List.headD_cons,h15,hw,if_true,if_false,Bool.false_eq_true];rfl)
     | (simp only [readK,List.headD_cons,h15,hw,if_true,if_false,Bool.false_eq_true,List.take_length];rfl)
     | (simp only [readK,List.headD_cons,h15,hw,hw9,if_true,if_false,Bool.false_eq_true];rfl)
     | (simp only [readK,List.headD_cons,h15,hw,hw9,if_true,if_false,Bool.false_eq_true,List.take_length];rfl)
     | (simp only [readK,List.headD_cons,h15,h71,hor,if_true,if_false,Bool.false_eq_true];rfl)
     | (simp only [readK,List.headD_cons,h15,h71,hor,if_true,if_false,Bool.false_eq_true,List.take_length];rfl)
     | (simp only [readK,List.headD_cons,h15,h71,hfind,if_true,if_false,Bool.false_eq_true];rfl)
     | (simp only [readK,List.headD_cons,h15,h71,hfind,if_true,if_false,Bool.false_eq_true,List.take_length];rfl)
     | (simp only [readK,List.headD_cons,h15,h71,hfind,if_true,if_false,Bool.false_eq_true,sym_take hfind];rfl)
     | (simp only [readK,List.headD_cons,h15,h71,hfind,if_true,if_false,Bool.false_eq_true,List.take_length];rfl)
   try simp only [df] at h128
   exact .sk<|.bN<|.tN<|.rg<|.yv (.add Z Z (w6 (by omega))) Z<|.m Z Z<|.nt<|.ag (k + 1) ⟨rfl,trivial⟩ ⟨rfl,rfl,rfl,rfl,rfl,trivial⟩ (fun _ s => s) ⟨by omega,fun j hj => by
   by_cases e : j = k
   ·subst e;simp only [hasP,Bool.and_eq_false_iff,decide_eq_false_iff_not] at *;first | exact .inl (by omega) | exact .inr (by assumption)
   ·exact hne j (by omega)⟩ (by omega)
  try simp only [df] at h118
  exact .gF Z Z Z Z<|.gF Z Z Z Z<|.gF Z Z Z Z<|.gF Z Z Z Z<|.gF Z Z Z Z<|.gF Z Z Z Z<|.gF Z Z Z Z<|.gF Z Z Z Z<|.gF Z Z Z Z<|.yv (.pickF Z Z) Z<|.nt<|.cF Z<|.sk<|.bN<|.tN<|.rg<|.yv (.add Z Z (w6 (by omega))) Z<|.m Z Z<|.nt<|.ag (k + 1) ⟨rfl,trivial⟩ ⟨rfl,rfl,rfl,rfl,rfl,trivial⟩ (fun _ s => s) ⟨by omega,fun j hj => by
   by_cases e : j = k
   ·subst e;simp only [hasP,Bool.and_eq_false_iff,decide_eq_false_iff_not] at *;first | exact .inl (by omega) | exact .inr (by assumption)
   ·exact hne j (by omega)⟩ (by omega)
 try simp only [df] at h108
 have hfind := sym_none (l := c :: m) (fun j hj => hne j (by omega))
 refine .ex<|.tE<|.tE<|.bE<|.tN<|.sr<|.m Z Z<|.m Z Z<|.yv (.cast (.dropS Fx.str9 Z Z Z (by omega)) (by rw [← hm])) Z<|.m Z Z<|.yv (.build Z (Fx.bld133_0_1_2 _ _ _)) Z<|.sW .head Z Z Fx.size133 (by simp [Value.oneCell',strV]) Z<|.nt<|.rt<|?_
 refine Sx.ret1 (.inl rfl) rfl (.cell rfl Fx.agg133 (.head _) rfl) fun W s => ⟨?_,(u1.grow s).ext⟩
 first
  | (simp only [readK,List.headD_cons,h15,hw,if_true,if_false,Bool.false_eq_true];rfl)
  | (simp only [readK,List.headD_cons,h15,hw,if_true,if_false,Bool.false_eq_true,List.take_length];rfl)
  | (simp only [readK,List.headD_cons,h15,hw,hw9,if_true,if_false,Bool.false_eq_true];rfl)
  | (simp only [readK,List.headD_cons,h15,hw,hw9,if_true,if_false,Bool.false_eq_true,List.take_length];rfl)
  | (simp only [readK,List.headD_cons,h15,h71,hor,if_true,if_false,Bool.false_eq_true];rfl)
  | (simp only [readK,List.headD_cons,h15,h71,hor,if_true,if_false,Bool.false_eq_true,List.take_length];rfl)
  | (simp only [readK,List.headD_cons,h15,h71,hfind,if_true,if_false,Bool.false_eq_true];rfl)
  | (simp only [readK,List.headD_cons,h15,h71,hfind,if_true,if_false,Bool.false_eq_true,List.take_length];rfl)
  | (simp only [readK,List.headD_cons,h15,h71,hfind,if_true,if_false,Bool.false_eq_true,sym_take hfind];rfl)
  | (simp only [readK,List.headD_cons,h15,h71,hfind,if_true,if_false,Bool.false_eq_true,List.take_length];rfl)
theorem lex_next {s m : Str} {o : Nat} (hm : m = s.drop o) (h : o < s.length) (hsl : (skipS false (m.drop (readK m).2)).length ≤ m.length - (readK m).2) :
 skipS false (m.drop (readK m).2) = s.drop (o + (m.length - (skipS false (m.drop (readK m).2)).length)) := by
 have h1 := skipS_drop false (m.drop (readK m).2)
 rw [List.length_drop,List.drop_drop] at h1
 by_cases h0 : (readK m).2 ≤ m.length
 ·rw [show (readK m).2 + (m.length - (readK m).2 - (skipS false (m.drop (readK m).2)).length) = m.length - (skipS false (m.drop (readK m).2)).length by omega] at h1
  rw [← List.drop_drop,← hm]
  exact h1.symm
 ·have e : m.drop (readK m).2 = [] := List.drop_of_length_le (by omega)
  rw [e,skipS_nil,← List.drop_drop,← hm]
  simp
theorem next_m (H : Hp) (s : Str) (hl : s.length ≤ 1000000) (o : Nat) (ho : o < s.length) (m : Str) (hm : m = s.drop o) (w : World) (hA : Agr H w) :
 Calls Tryz.prog 93 #[strV s,.int .i64 (o : Nat)] w fun r w' => r = .returned (.agg (cTk .i64 ⟨(readK m).1,m.take (readK m).2,o⟩).toArray) ∧ Ext w w' := by
 subst hm
 exact next_any H s hl o ho w hA
set_option maxRecDepth 100000 in
theorem lexR_any (H : Hp) (s : Str) (hl : s.length ≤ 1000000) (w : World) (hA : Agr H w) :
 Calls Tryz.prog 51 #[strV s] w fun r w' => ∃ (v : Value) (H' : Hp),Rep H' (.seq 3 ((lexR s).map (dTk .i64))) [v] ∧ r = .returned v ∧ Grow H w H' w' := by
 refine Sx.enter (H := H) Tryz.func51 rfl Tryz.ntmps51 rfl hA ?_
 refine .sr<|.a Z Z<|.ns<|.a Z Z<|?_
 refine Sx.row0 133 3 ?_
 refine .ns<|.m Z Z<|.yv (.call Fx.call92 Z (fun W _ => skip_any s hl 0 (by omega) W)) Z<|.a Z Z<|.nt<|.sq<|.bk<|.lp (X := Nat × Nat × Value × List Value) [(0,_)] ⟨rfl,trivial⟩ [] (fun z => [(3,z.2.2.1),(4,.int .i64 (z.1 : Nat))]) (fun z => H) (fun z => [.row 133 3 z.2.2.1 z.2.1 z.2.2.2]) (fun z => z.1 ≤ s.length ∧ z.2.1 ≤ z.1 ∧ ∃ tk : List Tk,tk.length = z.2.1 ∧ RepZ H 3 (tk.map (dTk .i64)) z.2.2.2 ∧ tk ++ tokF (s.length + 1) z.1 (s.drop z.1) = lexR s) (fun z => s.length - z.1) (s.length - (skipS false s).length,0,.slice none 0 0,[]) (fun _ s => s) ⟨rfl,rfl,trivial⟩ ⟨by dsimp only;omega,by dsimp only;omega,[],rfl,RepZ.nil,by rw [skipS_drop];rfl⟩ fun z hC => ?_
 obtain ⟨o,n,r,xs⟩ := z
 dsimp only at hC ⊢
 obtain ⟨ho,hn,tk,hk,hz,htk⟩ := hC
 refine .sq<|.sr<|.m Z Z<|.m Z Z<|.yv (.lenS Fx.str9 Z) Z<|.yv (.lss Z Z) Z<|.nt<|.cd Z (fun h11 => ?_) (fun h11 => ?_)
 ·try simp only [dt] at h11
  have hlt : o < s.length := by omega
  obtain ⟨m,hm⟩ : ∃ m,m = s.drop o := ⟨_,rfl⟩
  have hml : m.length = s.length - o := by rw [hm,List.length_drop]
  have hm0 : m ≠ [] := by intro e;rw [e] at hml;simp at hml;omega
  have hrk := readK_bnd hm0
  have htl : (m.take (readK m).2).length = (readK m).2 := by rw [List.length_take];omega
  rw [← hm] at htk
  have hsl := skipS_len false (m.drop (readK m).2)
  rw [List.length_drop] at hsl
  exact .sk<|.tN<|.bk<|.sr<|.m Z Z<|.m Z Z<|.yv (.call Fx.call93 Z (fun W t => next_m H s hl o hlt m hm W t.agr)) Z<|.al Fx.zero133 Z fun b5 => .sW .head Z Z Fx.size133 (by simp [cTk,Value.oneCell',strV]) Z<|.ns<|.m Z Z<|.yv (.loadW Z Fx.agg133 (.head _) Z) Z<|.bl Z (Fx.bsl73_1 _ _ _) Z fun b17 => .ap (news := cTk .i64 ⟨(readK m).1,m.take (readK m).2,o⟩) Fx.row73 Z (fun _ => (.tail<|.tail<|.head)) Z (.box (.head _) z0) Z (by simp [cTk,Value.oneCell',strV]) (by simp [maxLen];omega) (by omega) Z fun r18 _ => .a Z Z<|.nt<|.rg<|.m Z Z<|.m Z Z<|.yv (.fieldAddr Z Fx.field133_1) Z<|.yv (.load Z Fx.agg9 (.tail _<|.head _) Z) Z<|.yv (.lenS Fx.str9 Z) Z<|.yv (.add Z Z (c := ((o + (readK m).2 : Nat) : Int)) (by rw [htl];exact (w6 (by omega)).trans (by omega))) Z<|.yv (.cast (.call Fx.call92 Z (fun W _ => skip_any s hl (o + (readK m).2) (by omega) W)) (by rw [← List.drop_drop,← hm,show s.length - (skipS false (m.drop (readK m).2)).length = o + (m.length - (skipS false (m.drop (readK m).2)).length) by omega])) Z<|.a Z Z<|.nl<|.bN<|.tN<|.ag (x := (o,n,r,xs)) (o + (m.length - (skipS false (m.drop (readK m).2)).length),n + 1,r18,xs ++ cTk .i64 ⟨(readK m).1,m.take (readK m).2,o⟩) ⟨rfl,rfl,trivial⟩ ⟨rfl,trivial⟩ (fun _ s => (s.pick [2] _ Z Z)) ⟨by dsimp only;omega,by dsimp only;omega,tk ++ [⟨(readK m).1,m.take (readK m).2,o⟩],by simp;omega,by dsimp only;rw [List.map_append];exact hz.snoc (tk_shut (by rw [htl];omega)) Z,by dsimp only;rw [← htk,List.append_assoc,← lex_next hm hlt hsl,tokF_step hm0,List.cons_append,List.nil_append,tokF_more (s.length + 1) s.length _ _ (by omega) (by omega)]⟩ (by dsimp only;omega)
 try simp only [df] at h11
 obtain rfl : o = s.length := by omega
 rw [List.drop_length,tokF_nil,List.append_nil] at htk
 refine .ex<|.tE<|.tE<|.bE<|.tN<|.sr<|.m Z Z<|.a Z Z<|.nt<|.rt<|?_
 refine At.pm [0] [_] rfl rfl ?_
 refine Sx.freezeSeq (ds := (lexR s).map (dTk .i64)) (by rw [← htk];simp;omega) (by rw [← htk];exact hz) fun H3 p3 c3 u3 hr3 hs3 => ?_
 exact Sx.ret1 (.inl rfl) rfl (.tmp rfl) fun W t => ⟨r,H3,hs3,rfl,u3.grow t⟩
theorem Fx.agg125 : aggN Tryz.prog 125 = Option.some (Option.some 2) := by kernel_rfl
theorem Fx.call146 : callN Tryz.prog 146 = Bool.true := by kernel_rfl
theorem Fx.field125_0 : fieldN Tryz.prog 125 0 = Option.some 0 := by kernel_rfl
theorem Fx.field125_1 : fieldN Tryz.prog 125 1 = Option.some 1 := by kernel_rfl
theorem Fx.int2 : intN Tryz.prog 2 = Option.some Go.IntKind.i64 := by kernel_rfl
theorem Fx.size125 : sizeN Tryz.prog 125 = Option.some 2 := by kernel_rfl
theorem Fx.sl195 : slN Tryz.prog 195 = Option.some 2 := by kernel_rfl
theorem Fx.zero125 : zeroN Tryz.prog 125 = Option.some [Go.Value.string { data := { toList := [] } },Go.Value.int Go.IntKind.u8 (Int.ofNat 0)] := by kernel_rfl
theorem Fx.call89 : callN Tryz.prog 89 = Bool.true := by kernel_rfl
theorem Fx.bld27_0_3 (x0 : Int) (x3p : Option Addr) (x3n x3c : Nat) : buildN Tryz.prog 27 [(0,.int .u8 x0),(3,.slice x3p x3n x3c)] = some [.int .u8 x0,.string ⟨#[]⟩,.int .i64 0,.slice x3p x3n x3c] := by kernel_rfl
theorem Fx.bsl25_2 (x00 x01 x02 x03 : Value) (x10 x11 x12 x13 : Value) : bslN Tryz.prog 25 2 [(0,.agg [x00,x01,x02,x03].toArray),(1,.agg [x10,x11,x12,x13].toArray)] = some (27,[x00,x01,x02,x03,x10,x11,x12,x13]) := by kernel_rfl
theorem Fx.call48 : callN Tryz.prog 48 = Bool.true := by kernel_rfl
theorem Fx.call49 : callN Tryz.prog 49 = Bool.true := by kernel_rfl
theorem Fx.call90 : callN Tryz.prog 90 = Bool.true := by kernel_rfl
theorem Fx.call130 : callN Tryz.prog 130 = Bool.true := by kernel_rfl
theorem Fx.call157 : callN Tryz.prog 157 = Bool.true := by kernel_rfl
theorem Fx.call172 : callN Tryz.prog 172 = Bool.true := by kernel_rfl
theorem Fx.call182 : callN Tryz.prog 182 = Bool.true := by kernel_rfl
theorem Fx.bld125_0_1 (x0 : ByteArray) (x1 : Int) : buildN Tryz.prog 125 [(0,.string x0),(1,.int .u8 x1)] = some [.string x0,.int .u8 x1] := by kernel_rfl
theorem Fx.bsl195_1 (x00 x01 : Value) : bslN Tryz.prog 195 1 [(0,.agg [x00,x01].toArray)] = some (125,[x00,x01]) := by kernel_rfl
theorem Fx.bsl195_2 (x00 x01 : Value) (x10 x11 : Value) : bslN Tryz.prog 195 2 [(0,.agg [x00,x01].toArray),(1,.agg [x10,x11].toArray)] = some (125,[x00,x01,x10,x11]) := by kernel_rfl
theorem Fx.bsl195_3 (x00 x01 : Value) (x10 x11 : Value) (x20 x21 : Value) : bslN Tryz.prog 195 3 [(0,.agg [x00,x01].toArray),(1,.agg [x10,x11].toArray),(2,.agg [x20,x21].toArray)] = some (125,[x00,x01,x10,x11,x20,x21]) := by kernel_rfl
theorem Fx.bsl195_6 (x00 x01 : Value) (x10 x11 : Value) (x20 x21 : Value) (x30 x31 : Value) (x40 x41 : Value) (x50 x51 : Value) : bslN Tryz.prog 195 6 [(0,.agg [x00,x01].toArray),(1,.agg [x10,x11].toArray),(2,.agg [x20,x21].toArray),(3,.agg [x30,x31].toArray),(4,.agg [x40,x41].toArray),(5,.agg [x50,x51].toArray)] = some (125,[x00,x01,x10,x11,x20,x21,x30,x31,x40,x41,x50,x51]) := by kernel_rfl
theorem Fx.call23 : callN Tryz.prog 23 = Bool.true := by kernel_rfl
theorem Fx.call74 : callN Tryz.prog 74 = Bool.true := by kernel_rfl
theorem Fx.call120 : callN Tryz.prog 120 = Bool.true := by kernel_rfl
theorem Fx.call185 : callN Tryz.prog 185 = Bool.true := by kernel_rfl
theorem Fx.bld27_0 (x0 : Int) : buildN Tryz.prog 27 [(0,.int .u8 x0)] = some [.int .u8 x0,.string ⟨#[]⟩,.int .i64 0,.slice none 0 0] := by kernel_rfl
theorem Fx.bld27_0_1 (x0 : Int) (x1 : ByteArray) : buildN Tryz.prog 27 [(0,.int .u8 x0),(1,.string x1)] = some [.int .u8 x0,.string x1,.int .i64 0,.slice none 0 0] := by kernel_rfl
theorem Fx.bld27_0_1_3 (x0 : Int) (x1 : ByteArray) (x3p : Option Addr) (x3n x3c : Nat) : buildN Tryz.prog 27 [(0,.int .u8 x0),(1,.string x1),(3,.slice x3p x3n x3c)] = some [.int .u8 x0,.string x1,.int .i64 0,.slice x3p x3n x3c] := by kernel_rfl
theorem Fx.bld27_0_2 (x0 : Int) (x2 : Int) : buildN Tryz.prog 27 [(0,.int .u8 x0),(2,.int .i64 x2)] = some [.int .u8 x0,.string ⟨#[]⟩,.int .i64 x2,.slice none 0 0] := by kernel_rfl
theorem Fx.call69 : callN Tryz.prog 69 = Bool.true := by kernel_rfl
theorem Fx.call111 : callN Tryz.prog 111 = Bool.true := by kernel_rfl
theorem Fx.call113 : callN Tryz.prog 113 = Bool.true := by kernel_rfl
theorem Fx.bld96_0_1_2 (x0 : Int) (x1 : ByteArray) (x2 : Int) : buildN Tryz.prog 96 [(0,.int .u8 x0),(1,.string x1),(2,.int .i64 x2)] = some [.int .u8 x0,.string x1,.int .i64 x2] := by kernel_rfl
theorem Fx.agg65 : aggN Tryz.prog 65 = Option.some Option.none := by kernel_rfl
theorem Fx.call37 : callN Tryz.prog 37 = Bool.true := by kernel_rfl
theorem Fx.call68 : callN Tryz.prog 68 = Bool.true := by kernel_rfl
theorem Fx.row97 : rowN Tryz.prog 97 = Option.some (96,3,32) := by kernel_rfl
theorem Fx.size65 : sizeN Tryz.prog 65 = Option.some 1 := by kernel_rfl
theorem Fx.size97 : sizeN Tryz.prog 97 = Option.some 1 := by kernel_rfl
theorem Fx.zero65 : zeroN Tryz.prog 65 = Option.some [Go.Value.pointer Option.none] := by kernel_rfl
theorem Fx.bld99_2 (x2 : Int) : buildN Tryz.prog 99 [(2,.int .i64 x2)] = some [.slice none 0 0,.int .i64 0,.int .i64 x2,.string ⟨#[]⟩,.slice none 0 0,.slice none 0 0,.slice none 0 0,.int .i64 0,.int .i64 0] := by kernel_rfl
theorem Fx.bsl97_1 (x00 x01 x02 : Value) : bslN Tryz.prog 97 1 [(0,.agg [x00,x01,x02].toArray)] = some (96,[x00,x01,x02]) := by kernel_rfl
theorem Fx.call22 : callN Tryz.prog 22 = Bool.true := by kernel_rfl
theorem Fx.call24 : callN Tryz.prog 24 = Bool.true := by kernel_rfl
theorem Fx.bld27  : buildN Tryz.prog 27 [] = some [.int .u8 0,.string ⟨#[]⟩,.int .i64 0,.slice none 0 0] := by kernel_rfl
theorem Fx.agg73 : aggN Tryz.prog 73 = Option.some Option.none := by kernel_rfl
theorem Fx.call54 : callN Tryz.prog 54 = Bool.true := by kernel_rfl
theorem Fx.call55 : callN Tryz.prog 55 = Bool.true := by kernel_rfl
theorem Fx.call56 : callN Tryz.prog 56 = Bool.true := by kernel_rfl
theorem Fx.call95 : callN Tryz.prog 95 = Bool.true := by kernel_rfl
theorem Fx.field75_0 : fieldN Tryz.prog 75 0 = Option.some 0 := by kernel_rfl
theorem Fx.field75_1 : fieldN Tryz.prog 75 1 = Option.some 1 := by kernel_rfl
theorem Fx.field75_2 : fieldN Tryz.prog 75 2 = Option.some 2 := by kernel_rfl
theorem Fx.field75_3 : fieldN Tryz.prog 75 3 = Option.some 3 := by kernel_rfl
theorem Fx.field75_4 : fieldN Tryz.prog 75 4 = Option.some 4 := by kernel_rfl
theorem Fx.field133_0 : fieldN Tryz.prog 133 0 = Option.some 0 := by kernel_rfl
theorem Fx.sl73 : slN Tryz.prog 73 = Option.some 3 := by kernel_rfl
theorem Fx.bld133_2 (x2 : Int) : buildN Tryz.prog 133 [(2,.int .i64 x2)] = some [.int .i64 0,.string ⟨#[]⟩,.int .i64 x2] := by kernel_rfl
structure Tkr (H : Hp) (t : Str) (n : Nat) (ts : List Tk) (tp : Option Addr) (tc : Nat) : Prop where
 rep : Rep H (.seq 3 (ts.map (dTk .i64))) [.slice tp ts.length tc]
 good : ∀ x ∈ ts,Tkg x
 num : ∀ x ∈ ts,x.k = 3 → pre digB x.t = x.t.length
 short : ∀ x ∈ ts,x.t.length ≤ 1000000
 kz : ∀ x ∈ ts,x.k ≠ 0
 len : t.length = n
theorem Tkr.up {H H' : Hp} {t : Str} {n : Nat} {ts : List Tk} {tp : Option Addr} {tc : Nat} (h : Tkr H t n ts tp tc) (u : Up H H') : Tkr H' t n ts tp tc := ⟨h.rep.up u,h.good,h.num,h.short,h.kz,h.len⟩
theorem Tkr.tk {H : Hp} {t : Str} {n : Nat} {q : Sg} {ts : List Tk} {tp : Option Addr} {tc : Nat} (K : Tkr H t n ts tp tc) (h : q.r <:+ ts) : (tkH n q.r).t.length ≤ 1000000 := by
 rcases tkH_mem (n := n) h with e | e
 ·rw [e];show (0 : Nat) ≤ _;omega
 ·exact K.short _ e
theorem Tkr.numD {H : Hp} {t : Str} {n : Nat} {q : Sg} {ts : List Tk} {tp : Option Addr} {tc : Nat} (K : Tkr H t n ts tp tc) (h : q.r <:+ ts) : (tkH n q.r).k = 3 → pre digB (tkH n q.r).t = (tkH n q.r).t.length ∧ ¬ (tkH n q.r).t = [] := by
 intro hk
 rcases tkH_mem (n := n) h with e | e
 ·rw [e] at hk;cases hk
 ·exact ⟨K.num _ e hk,(K.good _ e).2.2⟩
theorem Tkr.last {H : Hp} {t : Str} {n : Nat} {q : Sg} {ts : List Tk} {tp : Option Addr} {tc : Nat} (K : Tkr H t n ts tp tc) (h : q.r <:+ ts) : (tkH n q.r).k = 0 ↔ q.r = [] := by
 constructor
 ·intro hk
  cases hr : q.r with
  | nil => rfl
  | cons x l =>
   refine absurd ?_ (K.kz x (h.subset (by rw [hr];exact List.mem_cons_self ..)))
   rw [hr] at hk
   exact hk
 ·intro e;rw [e];rfl
theorem fld_tr0 (a b c : Value) : ∀ W,(Instr.field 133 (.agg [a,b,c].toArray) 0).run Tryz.prog W = .ok a W := fun _ => by kernel_rfl
theorem fld_tr2 (a b c : Value) : ∀ W,(Instr.field 133 (.agg [a,b,c].toArray) 2).run Tryz.prog W = .ok c W := fun _ => by kernel_rfl
theorem ac_k {n : Nat} {w : Str} {q : Sg} : ac w q = (decide (((q.e : Nat) : Int) = 0) && ((decide ((((tkH n q.r).k.toNat : Nat) : Int) = 2) || decide ((((tkH n q.r).k.toNat : Nat) : Int) = 4)) && decide ((tkH n q.r).t = w))) := by
 have he : decide (((q.e : Nat) : Int) = 0) = decide (q.e = 0) := by
  rw [Bool.eq_iff_iff,decide_eq_true_eq,decide_eq_true_eq];omega
 unfold ac
 rw [he]
 refine congrArg (decide (q.e = 0) && ·) ?_
 cases hr : q.r with
 | nil => rfl
 | cons x l =>
  have hk : ∀ m : Nat,m < 256 → (x.k == UInt8.ofNat m) = decide (((x.k.toNat : Nat) : Int) = (m : Int)) := by
   intro m hm
   rw [Bool.eq_iff_iff,beq_iff_eq,decide_eq_true_eq]
   constructor
   ·intro e;rw [e,UInt8.toNat_ofNat_of_lt' hm]
   ·intro e;exact UInt8.toNat_inj.1 (by rw [UInt8.toNat_ofNat_of_lt' hm];omega)
  show ((x.k == UInt8.ofNat 2 || x.k == UInt8.ofNat 4) && decide (x.t = w)) = _
  rw [hk 2 (by decide),hk 4 (by decide)]
  rfl
theorem ac_tl {w : Str} {q : Sg} (h : ac w q = true) : q.r ≠ [] := by
 intro e
 have := (ac_e h).2
 rw [e] at this
 cases this
set_option maxRecDepth 100000 in
theorem tok_r {H : Hp} {w0 W : World} {bs : List Res} {b n : Nat} {t : Str} {ts : List Tk} {tp : Option Addr} {tc : Nat} {q : Sg} (K : Tkr H t n ts tp tc) (hq : q.r <:+ ts) (s : St H w0 (.box b [strV t,.slice tp ts.length tc,.int .i64 (posN ts q : Nat),.int .i64 (q.o : Nat),.int .i64 (q.e : Nat)] 75 :: bs) W) :
 Calls Tryz.prog 55 #[.pointer (some ⟨b,0,none⟩)] W fun e W' => ∃ _ : Unit,(True) ∧ e = .returned (.agg (cTk .i64 (tkH n q.r)).toArray) ∧ St H w0 (.box b [strV t,.slice tp ts.length tc,.int .i64 (posN ts q : Nat),.int .i64 (q.o : Nat),.int .i64 (q.e : Nat)] 75 :: bs) W' := by
 have hcap := K.rep.cap
 refine Sx.enterS Tryz.func55 rfl Tryz.ntmps55 rfl s ?_
 refine .sr<|.al Fx.zero133 Z fun b2 => .nt<|.sq<|.sq<|.fl (trip := [(_,_,_),(_,_,_),(_,_,_),(_,_,_),(_,_,_),(_,_,_),(_,_,_),(_,_,_),(_,_,_)]) 9 [(0,0),(1,0),(2,0),(3,0),(4,0),(5,0),(6,0),(7,0),(8,0)] (by kernel_rfl) (by kernel_rfl) Z<|.m Z Z<|.yv (.nilCheck Z) Z<|.yv (.fieldAddr Z Fx.field75_2) Z<|.yv (.load Z Fx.agg3 (.tail _<|.head _) Z) Z<|.m Z Z<|.yv (.nilCheck Z) Z<|.yv (.fieldAddr Z Fx.field75_1) Z<|.yv (.load Z Fx.agg73 (.tail _<|.head _) Z) Z<|.yv (.lenSl Fx.sl73 Z) Z<|.fn (tl := [_]) Z<|.yv (.lss Z Z) Z<|.nt<|.cd Z (fun h12 => ?_) (fun h12 => ?_)
 ·try simp only [dt] at h12
  have hi : posN ts q < ts.length := by omega
  obtain ⟨et,_⟩ := posN_tk (n := n) hq hi
  obtain ⟨bE,oE,cE,hpE,rE,lE,mE⟩ := K.rep.elem (map_at (f := dTk .i64) hi)
  cases hpE
  rw [et] at rE
  obtain ⟨rfl,_⟩ := tk_open rE
  refine .sq<|.fl (trip := [(_,_,_),(_,_,_),(_,_,_),(_,_,_),(_,_,_),(_,_,_),(_,_,_),(_,_,_),(_,_,_),(_,_,_)]) 10 [(0,0),(1,0),(2,0),(3,0),(4,0),(5,0),(6,0),(7,0),(8,0),(9,0)] (by kernel_rfl) (by kernel_rfl) Z<|.m Z Z<|.yv (.nilCheck Z) Z<|.yv (.fieldAddr Z Fx.field75_1) Z<|.yv (.load Z Fx.agg73 (.tail _<|.head _) Z) Z<|.m Z Z<|.yv (.nilCheck Z) Z<|.yv (.fieldAddr Z Fx.field75_2) Z<|.yv (.load Z Fx.agg3 (.tail _<|.head _) Z) Z<|.yv (.indexSl Fx.sl73 Z Z Z (by omega) (q := oE + posN ts q * 3) Z) Z<|.yv (.loadMW Z Fx.agg133 mE Z) Z<|.fn (tl := [_]) Z<|.sW .head Z Z Fx.size133 (by simp [cTk,Value.oneCell',strV]) Z<|.nt<|.rt<|.tR<|?_
  refine Sx.ret1 (.inl rfl) rfl (.cell rfl Fx.agg133 (.head _) rfl) fun W s => ?_
  first
   | (exact ⟨(),trivial,rfl,s.pickT (hd := [_,_]) (tl := bs) (hd' := [_]) [1] rfl rfl⟩)
   | (exact ⟨(),trivial,(by rw [hr];rfl),s.pickT (hd := [_,_]) (tl := bs) (hd' := [_]) [1] rfl rfl⟩)
 try simp only [df] at h12
 have hr := posN_end hq (by omega)
 obtain rfl := K.len
 refine .sk<|.tN<|.sr<|.m Z Z<|.yv (.nilCheck Z) Z<|.yv (.fieldAddr Z Fx.field75_0) Z<|.yv (.load Z Fx.agg9 (.tail _<|.head _) Z) Z<|.yv (.lenS Fx.str9 Z) Z<|.yv (.build Z (Fx.bld133_2 _)) Z<|.sW .head Z Z Fx.size133 (by simp [cTk,Value.oneCell',strV]) Z<|.nt<|.rt<|?_
 refine Sx.ret1 (.inl rfl) rfl (.cell rfl Fx.agg133 (.head _) rfl) fun W s => ?_
 first
  | (exact ⟨(),trivial,rfl,s.pickT (hd := [_,_]) (tl := bs) (hd' := [_]) [1] rfl rfl⟩)
  | (exact ⟨(),trivial,(by rw [hr];rfl),s.pickT (hd := [_,_]) (tl := bs) (hd' := [_]) [1] rfl rfl⟩)
set_option maxRecDepth 100000 in
theorem fail_r {H : Hp} {w0 W : World} {bs : List Res} {b n : Nat} {t : Str} {ts : List Tk} {tp : Option Addr} {tc : Nat} {q : Sg} (K : Tkr H t n ts tp tc) (hq : q.r <:+ ts) (c : Nat) (s : St H w0 (.box b [strV t,.slice tp ts.length tc,.int .i64 (posN ts q : Nat),.int .i64 (q.o : Nat),.int .i64 (q.e : Nat)] 75 :: bs) W) :
 Calls Tryz.prog 56 #[.pointer (some ⟨b,0,none⟩),.int .i64 (c : Nat)] W fun e W' => ∃ _ : Unit,(True) ∧ e = .returned (.tuple #[]) ∧ St H w0 (.box b [strV t,.slice tp ts.length tc,.int .i64 (posN ts (q.fail n c) : Nat),.int .i64 ((q.fail n c).o : Nat),.int .i64 ((q.fail n c).e : Nat)] 75 :: bs) W' := by
 refine Sx.enterS Tryz.func56 rfl Tryz.ntmps56 rfl s ?_
 refine .sr<|.m Z Z<|.yv (.nilCheck Z) Z<|.yv (.fieldAddr Z Fx.field75_4) Z<|.yv (.load Z Fx.agg3 (.head _) Z) Z<|.yv (.eql Z Z) Z<|.nt<|.cd Z (fun h8 => ?_) (fun h8 => ?_)
 ·try simp only [dt] at h8
  have h0 : q.e = 0 := by omega
  have e1 : q.fail n c = ⟨q.r,c,(tkH n q.r).o⟩ := by unfold Sg.fail;rw [if_pos h0,tkH_o]
  rw [e1]
  refine .sr<|.m Z Z<|.m Z Z<|.yv (.nilCheck Z) Z<|.yv (.fieldAddr Z Fx.field75_4) Z<|.st .head Z Z Fx.size3 Z (nb Z) Z<|.nt<|.rg<|.m Z Z<|.m Z Z<|.cs (X := Unit) Fx.call55 Z (fun W s => tok_r (q := ⟨q.r,c,q.o⟩) K hq  (s.pickT (hd := [_]) (tl := bs) (hd' := [_]) [0] Z Z)) Z fun _ _ => .yv (.fld Z (fld_tr2 _ _ _)) Z<|.yv (.nilCheck Z) Z<|.yv (.fieldAddr Z Fx.field75_3) Z<|.st .head Z Z Fx.size3 Z (nb Z) Z<|.nl<|?_
  refine Sx.retN (.inr rfl) rfl .nil rfl fun W s => ⟨(),trivial,rfl,?_⟩
  exact s.pickT (hd := [_]) (tl := bs) (hd' := [_]) [0] rfl rfl
 try simp only [df] at h8
 have h0 : ¬ q.e = 0 := by omega
 have e1 : q.fail n c = q := by unfold Sg.fail;rw [if_neg h0]
 rw [e1]
 refine .sk<|?_
 refine Sx.retN (.inr rfl) rfl .nil rfl fun W s => ⟨(),trivial,rfl,?_⟩
 exact s.pickT (hd := [_]) (tl := bs) (hd' := [_]) [0] rfl rfl
set_option maxRecDepth 100000 in
theorem is_r {H : Hp} {w0 W : World} {bs : List Res} {b n : Nat} {t : Str} {ts : List Tk} {tp : Option Addr} {tc : Nat} {q : Sg} (K : Tkr H t n ts tp tc) (hq : q.r <:+ ts) (w : Str) (s : St H w0 (.box b [strV t,.slice tp ts.length tc,.int .i64 (posN ts q : Nat),.int .i64 (q.o : Nat),.int .i64 (q.e : Nat)] 75 :: bs) W) :
 Calls Tryz.prog 95 #[.pointer (some ⟨b,0,none⟩),strV w] W fun e W' => ∃ _ : Unit,(True) ∧ e = .returned (.bool (ac w q)) ∧ St H w0 (.box b [strV t,.slice tp ts.length tc,.int .i64 (posN ts q : Nat),.int .i64 (q.o : Nat),.int .i64 (q.e : Nat)] 75 :: bs) W' := by
 refine Sx.enterS Tryz.func95 rfl Tryz.ntmps95 rfl s ?_
 refine .sr<|.a Z Z<|.ns<|.m Z Z<|.cs (X := Unit) Fx.call55 Z (fun W s => tok_r K hq  (s.pickT (hd := [_]) (tl := bs) (hd' := [_]) [0] Z Z)) Z fun _ _ => .al Fx.zero133 Z fun b5 => .sW .head Z Z Fx.size133 (by simp [cTk,Value.oneCell',strV]) Z<|.ns<|.m Z Z<|.yv (.nilCheck Z) Z<|.yv (.fieldAddr Z Fx.field75_4) Z<|.yv (.load Z Fx.agg3 (.tail _<|.head _) Z) Z<|.yv (.eql Z Z) Z<|.m Z Z<|.b2 (fun h13 => ?_) (fun h13 => ?_)
 ·skip
  refine .gd Z Z<|.yv (.fieldAddr Z Fx.field133_0) Z<|.gd Z Z<|.yv (.load Z Fx.agg3 (.head _) Z) Z<|.gd Z Z<|.yv (.eql Z Z) Z<|.gd Z Z<|.yv (.move Z) Z<|.b2 (fun h17 => ?_) (fun h17 => ?_)
  ·skip
   refine .gF Z Z Z Z<|.gF Z Z Z Z<|.gF Z Z Z Z<|.gd Z Z<|.yv (.pickT Z Z) Z<|.yv (.pickT Z Z) Z<|.m Z Z<|.gd Z Z<|.yv (.fieldAddr Z Fx.field133_1) Z<|.gd Z Z<|.yv (.load Z Fx.agg9 (.head _) Z) Z<|.gd Z Z<|.yv (.move Z) Z<|.gd Z Z<|.yv (.eqS Z Z) Z<|.yv (.pickT Z Z) Z<|.a Z Z<|.nt<|.rt<|?_
   refine Sx.ret1 (.inl rfl) rfl (.tmp rfl) fun W s => ?_
   first
    | (exact ⟨(),trivial,(by rw [ac_k (n := n),h13,h17];rfl),s.pickT (hd := [_,_]) (tl := bs) (hd' := [_]) [1] rfl rfl⟩)
    | (exact ⟨(),trivial,(by rw [ac_k (n := n),h13];rfl),s.pickT (hd := [_,_]) (tl := bs) (hd' := [_]) [1] rfl rfl⟩)
    | (exact ⟨(),trivial,(by rw [ac_k (n := n),h13,h17,h23];rfl),s.pickT (hd := [_,_]) (tl := bs) (hd' := [_]) [1] rfl rfl⟩)
    | (exact ⟨(),trivial,(by rw [ac_k (n := n),h13,h23];rfl),s.pickT (hd := [_,_]) (tl := bs) (hd' := [_]) [1] rfl rfl⟩)
  skip
  refine .gd Z Z<|.yv (.fieldAddr Z Fx.field133_0) Z<|.gd Z Z<|.yv (.load Z Fx.agg3 (.head _) Z) Z<|.gd Z Z<|.yv (.eql Z Z) Z<|.gd Z Z<|.yv (.pickF Z Z) Z<|.yv (.pickT Z Z) Z<|.m Z Z<|.b2 (fun h23 => ?_) (fun h23 => ?_)
  ·skip
   refine .gd Z Z<|.yv (.fieldAddr Z Fx.field133_1) Z<|.gd Z Z<|.yv (.load Z Fx.agg9 (.head _) Z) Z<|.gd Z Z<|.yv (.move Z) Z<|.gd Z Z<|.yv (.eqS Z Z) Z<|.yv (.pickT Z Z) Z<|.a Z Z<|.nt<|.rt<|?_
   refine Sx.ret1 (.inl rfl) rfl (.tmp rfl) fun W s => ?_
   first
    | (exact ⟨(),trivial,(by rw [ac_k (n := n),h13,h17];rfl),s.pickT (hd := [_,_]) (tl := bs) (hd' := [_]) [1] rfl rfl⟩)
    | (exact ⟨(),trivial,(by rw [ac_k (n := n),h13];rfl),s.pickT (hd := [_,_]) (tl := bs) (hd' := [_]) [1] rfl rfl⟩)
    | (exact ⟨(),trivial,(by rw [ac_k (n := n),h13,h17,h23];rfl),s.pickT (hd := [_,_]) (tl := bs) (hd' := [_]) [1] rfl rfl⟩)
    | (exact ⟨(),trivial,(by rw [ac_k (n := n),h13,h23];rfl),s.pickT (hd := [_,_]) (tl := bs) (hd' := [_]) [1] rfl rfl⟩)
  skip
  refine .gF Z Z Z Z<|.gF Z Z Z Z<|.gF Z Z Z Z<|.gF Z Z Z Z<|.yv (.pickF Z Z) Z<|.a Z Z<|.nt<|.rt<|?_
  refine Sx.ret1 (.inl rfl) rfl (.tmp rfl) fun W s => ?_
  first
   | (exact ⟨(),trivial,(by rw [ac_k (n := n),h13,h17];rfl),s.pickT (hd := [_,_]) (tl := bs) (hd' := [_]) [1] rfl rfl⟩)
   | (exact ⟨(),trivial,(by rw [ac_k (n := n),h13];rfl),s.pickT (hd := [_,_]) (tl := bs) (hd' := [_]) [1] rfl rfl⟩)
   | (exact ⟨(),trivial,(by rw [ac_k (n := n),h13,h17,h23];rfl),s.pickT (hd := [_,_]) (tl := bs) (hd' := [_]) [1] rfl rfl⟩)
   | (exact ⟨(),trivial,(by rw [ac_k (n := n),h13,h23];rfl),s.pickT (hd := [_,_]) (tl := bs) (hd' := [_]) [1] rfl rfl⟩)
 skip
 refine .gF Z Z Z Z<|.gF Z Z Z Z<|.gF Z Z Z Z<|.gF Z Z Z Z<|.gU Z Z Z<|.gU Z Z Z<|.gU Z Z Z<|.gF Z Z Z Z<|.yv (.pickF Z Z) Z<|.m Z Z<|.gF Z Z Z Z<|.gF Z Z Z Z<|.gF Z Z Z Z<|.gF Z Z Z Z<|.yv (.pickF Z Z) Z<|.a Z Z<|.nt<|.rt<|?_
 refine Sx.ret1 (.inl rfl) rfl (.tmp rfl) fun W s => ?_
 first
  | (exact ⟨(),trivial,(by rw [ac_k (n := n),h13,h17];rfl),s.pickT (hd := [_,_]) (tl := bs) (hd' := [_]) [1] rfl rfl⟩)
  | (exact ⟨(),trivial,(by rw [ac_k (n := n),h13];rfl),s.pickT (hd := [_,_]) (tl := bs) (hd' := [_]) [1] rfl rfl⟩)
  | (exact ⟨(),trivial,(by rw [ac_k (n := n),h13,h17,h23];rfl),s.pickT (hd := [_,_]) (tl := bs) (hd' := [_]) [1] rfl rfl⟩)
  | (exact ⟨(),trivial,(by rw [ac_k (n := n),h13,h23];rfl),s.pickT (hd := [_,_]) (tl := bs) (hd' := [_]) [1] rfl rfl⟩)
set_option maxRecDepth 100000 in
theorem take_r {H : Hp} {w0 W : World} {bs : List Res} {b n : Nat} {t : Str} {ts : List Tk} {tp : Option Addr} {tc : Nat} {q : Sg} (K : Tkr H t n ts tp tc) (hq : q.r <:+ ts) (w : Str) (s : St H w0 (.box b [strV t,.slice tp ts.length tc,.int .i64 (posN ts q : Nat),.int .i64 (q.o : Nat),.int .i64 (q.e : Nat)] 75 :: bs) W) :
 Calls Tryz.prog 54 #[.pointer (some ⟨b,0,none⟩),strV w] W fun e W' => ∃ _ : Unit,(True) ∧ e = .returned (.bool (ac w q)) ∧ St H w0 (.box b [strV t,.slice tp ts.length tc,.int .i64 (posN ts (acS w q) : Nat),.int .i64 ((acS w q).o : Nat),.int .i64 ((acS w q).e : Nat)] 75 :: bs) W' := by
 have hcap := K.rep.cap
 refine Sx.enterS Tryz.func54 rfl Tryz.ntmps54 rfl s ?_
 refine .sr<|.a Z Z<|.nt<|.sq<|.sr<|.m Z Z<|.m Z Z<|.cs (X := Unit) Fx.call95 Z (fun W s => is_r K hq w (s.pickT (hd := [_]) (tl := bs) (hd' := [_]) [0] Z Z)) Z fun _ _ => .nt<|.cd Z (fun h7 => ?_) (fun h7 => ?_)
 ·rw [acS_T h7,h7]
  obtain ⟨hp,hi⟩ := posN_tl hq (ac_tl h7)
  refine .sr<|.m Z Z<|.yv (.nilCheck Z) Z<|.yv (.fieldAddr Z Fx.field75_2) Z<|.yv (.load Z Fx.agg3 (.head _) Z) Z<|.yv (.add Z Z (c := ((posN ts q.tl : Nat) : Int)) ((w6 (by omega)).trans (by omega))) Z<|.yv (.nilCheck Z) Z<|.yv (.fieldAddr Z Fx.field75_2) Z<|.st .head Z Z Fx.size3 Z (nb Z) Z<|.ns<|.a Z Z<|.nt<|.rt<|.tR<|?_
  refine Sx.ret1 (.inl rfl) rfl (.tmp rfl) fun W s => ?_
  exact ⟨(),trivial,rfl,s.pickT (hd := [_]) (tl := bs) (hd' := [_]) [0] rfl rfl⟩
 rw [acS_F h7,h7]
 refine .sk<|.tN<|.sr<|.a Z Z<|.nt<|.rt<|?_
 refine Sx.ret1 (.inl rfl) rfl (.tmp rfl) fun W s => ?_
 exact ⟨(),trivial,rfl,s.pickT (hd := [_]) (tl := bs) (hd' := [_]) [0] rfl rfl⟩
set_option maxRecDepth 100000 in
theorem need_r {H : Hp} {w0 W : World} {bs : List Res} {b n : Nat} {t : Str} {ts : List Tk} {tp : Option Addr} {tc : Nat} {q : Sg} (K : Tkr H t n ts tp tc) (hq : q.r <:+ ts) (w : Str) (s : St H w0 (.box b [strV t,.slice tp ts.length tc,.int .i64 (posN ts q : Nat),.int .i64 (q.o : Nat),.int .i64 (q.e : Nat)] 75 :: bs) W) :
 Calls Tryz.prog 96 #[.pointer (some ⟨b,0,none⟩),strV w] W fun e W' => ∃ _ : Unit,(True) ∧ e = .returned (.tuple #[]) ∧ St H w0 (.box b [strV t,.slice tp ts.length tc,.int .i64 (posN ts (up n (gNd w) q) : Nat),.int .i64 ((up n (gNd w) q).o : Nat),.int .i64 ((up n (gNd w) q).e : Nat)] 75 :: bs) W' := by
 refine Sx.enterS Tryz.func96 rfl Tryz.ntmps96 rfl s ?_
 refine .sr<|.m Z Z<|.m Z Z<|.cs (X := Unit) Fx.call54 Z (fun W s => take_r K hq w (s.pickT (hd := [_]) (tl := bs) (hd' := [_]) [0] Z Z)) Z fun _ _ => .yv (.not Z) Z<|.nt<|.cd Z (fun h7 => ?_) (fun h7 => ?_)
 ·have hb : ac w q = false := by simpa using h7
  rw [acS_F hb,nd_eq,if_neg (by rw [hb];decide)]
  refine .rg<|.m Z Z<|.cs (X := Unit) Fx.call56 Z (fun W s => fail_r K hq 8 (s.pickT (hd := [_]) (tl := bs) (hd' := [_]) [0] Z Z)) Z fun _ _ => .nl<|?_
  refine Sx.retN (.inr rfl) rfl .nil rfl fun W s => ⟨(),trivial,rfl,?_⟩
  exact s.pickT (hd := [_]) (tl := bs) (hd' := [_]) [0] rfl rfl
 have hb : ac w q = true := by simpa using h7
 rw [acS_T hb,nd_eq,if_pos hb]
 refine .sk<|?_
 refine Sx.retN (.inr rfl) rfl .nil rfl fun W s => ⟨(),trivial,rfl,?_⟩
 exact s.pickT (hd := [_]) (tl := bs) (hd' := [_]) [0] rfl rfl
set_option maxRecDepth 100000 in
theorem name_r {H : Hp} {w0 W : World} {bs : List Res} {b n : Nat} {t : Str} {ts : List Tk} {tp : Option Addr} {tc : Nat} {q : Sg} (K : Tkr H t n ts tp tc) (hq : q.r <:+ ts) (s : St H w0 (.box b [strV t,.slice tp ts.length tc,.int .i64 (posN ts q : Nat),.int .i64 (q.o : Nat),.int .i64 (q.e : Nat)] 75 :: bs) W) :
 Calls Tryz.prog 97 #[.pointer (some ⟨b,0,none⟩)] W fun e W' => ∃ x : Str,(vl gNm q x ∧ x.length ≤ 1000000) ∧ e = .returned (strV x) ∧ St H w0 (.box b [strV t,.slice tp ts.length tc,.int .i64 (posN ts (up n gNm q) : Nat),.int .i64 ((up n gNm q).o : Nat),.int .i64 ((up n gNm q).e : Nat)] 75 :: bs) W' := by
 have hcap := K.rep.cap
 refine Sx.enterS Tryz.func97 rfl Tryz.ntmps97 rfl s ?_
 refine .sr<|.a Z Z<|.ns<|.m Z Z<|.cs (X := Unit) Fx.call55 Z (fun W s => tok_r K hq  (s.pickT (hd := [_]) (tl := bs) (hd' := [_]) [0] Z Z)) Z fun _ _ => .al Fx.zero133 Z fun b3 => .sW .head Z Z Fx.size133 (by simp [cTk,Value.oneCell',strV]) Z<|.nt<|.sq<|.sr<|.m Z Z<|.yv (.nilCheck Z) Z<|.yv (.fieldAddr Z Fx.field75_4) Z<|.yv (.load Z Fx.agg3 (.tail _<|.head _) Z) Z<|.yv (.neq Z Z) Z<|.m Z Z<|.b2 (fun h11 => ?_) (fun h11 => ?_)
 ·try simp only [dt] at h11
  have hbad : ¬ (q.e = 0 ∧ (tkH n q.r).k = 1) := fun h => by have := h.1;omega
  have e1 : up n gNm q = q.fail n 8 := by rw [nm_eq,if_neg hbad]
  have e2 : (if q.e = 0 ∧ (tkH n q.r).k = 1 then (tkH n q.r).t else []) = [] := if_neg hbad
  rw [e1]
  refine .gF Z Z Z Z<|.gF Z Z Z Z<|.gF Z Z Z Z<|.yv (.pickT Z Z) Z<|.nt<|.cT Z<|.sr<|.m Z Z<|.cs (X := Unit) Fx.call56 Z (fun W s => fail_r K hq 8 (s.pickT (hd := [_,_]) (tl := bs) (hd' := [_,_]) [1,0] Z Z)) Z fun _ _ => .ns<|.a Z Z<|.nt<|.rt<|.tR<|?_
  refine Sx.ret1 (.inl rfl) rfl (.tmp rfl) fun W s => ?_
  exact ⟨[],⟨by have := nm_vl (n := n) (s := q);rw [e2] at this;exact this,Nat.zero_le _⟩,rfl,s.pickT (hd := [_,_]) (tl := bs) (hd' := [_]) [0] rfl rfl⟩
 try simp only [df] at h11
 have h0 : q.e = 0 := by omega
 refine .gd Z Z<|.yv (.fieldAddr Z Fx.field133_0) Z<|.gd Z Z<|.yv (.load Z Fx.agg3 (.head _) Z) Z<|.gd Z Z<|.yv (.neq Z Z) Z<|.yv (.pickF Z Z) Z<|.nt<|.cd Z (fun h15 => ?_) (fun h15 => ?_)
 ·try simp only [dt] at h15
  have hbad : ¬ (q.e = 0 ∧ (tkH n q.r).k = 1) := fun h => by have h2 := h.2;simp [h2] at h15
  have e1 : up n gNm q = q.fail n 8 := by rw [nm_eq,if_neg hbad]
  have e2 : (if q.e = 0 ∧ (tkH n q.r).k = 1 then (tkH n q.r).t else []) = [] := if_neg hbad
  rw [e1]
  refine .sr<|.m Z Z<|.cs (X := Unit) Fx.call56 Z (fun W s => fail_r K hq 8 (s.pickT (hd := [_,_]) (tl := bs) (hd' := [_,_]) [1,0] Z Z)) Z fun _ _ => .ns<|.a Z Z<|.nt<|.rt<|.tR<|?_
  refine Sx.ret1 (.inl rfl) rfl (.tmp rfl) fun W s => ?_
  exact ⟨[],⟨by have := nm_vl (n := n) (s := q);rw [e2] at this;exact this,Nat.zero_le _⟩,rfl,s.pickT (hd := [_,_]) (tl := bs) (hd' := [_]) [0] rfl rfl⟩
 try simp only [df] at h15
 have hk : (tkH n q.r).k = 1 := UInt8.toNat_inj.1 (by show (tkH n q.r).k.toNat = 1;omega)
 have e1 : up n gNm q = q.tl := by rw [nm_eq,if_pos ⟨h0,hk⟩]
 have e2 : (if q.e = 0 ∧ (tkH n q.r).k = 1 then (tkH n q.r).t else []) = (tkH n q.r).t := if_pos ⟨h0,hk⟩
 rw [e1]
 obtain ⟨hp,hi⟩ := posN_tl hq (tkH_ne (n := n) (by rw [hk];decide))
 refine .sk<|.tN<|.sr<|.m Z Z<|.yv (.nilCheck Z) Z<|.yv (.fieldAddr Z Fx.field75_2) Z<|.yv (.load Z Fx.agg3 (.tail _<|.head _) Z) Z<|.yv (.add Z Z (c := ((posN ts q.tl : Nat) : Int)) ((w6 (by omega)).trans (by omega))) Z<|.yv (.nilCheck Z) Z<|.yv (.fieldAddr Z Fx.field75_2) Z<|.st (.tail<|.head) Z Z Fx.size3 Z (nb Z) Z<|.ns<|.yv (.fieldAddr Z Fx.field133_1) Z<|.yv (.load Z Fx.agg9 (.head _) Z) Z<|.a Z Z<|.nt<|.rt<|?_
 refine Sx.ret1 (.inl rfl) rfl (.tmp rfl) fun W s => ?_
 exact ⟨(tkH n q.r).t,⟨by have := nm_vl (n := n) (s := q);rw [e2] at this;exact this,K.tk hq⟩,rfl,s.pickT (hd := [_,_]) (tl := bs) (hd' := [_]) [1] rfl rfl⟩
set_option maxRecDepth 100000 in
theorem end_r {H : Hp} {w0 W : World} {bs : List Res} {b n : Nat} {t : Str} {ts : List Tk} {tp : Option Addr} {tc : Nat} {q : Sg} (K : Tkr H t n ts tp tc) (hq : q.r <:+ ts) (s : St H w0 (.box b [strV t,.slice tp ts.length tc,.int .i64 (posN ts q : Nat),.int .i64 (q.o : Nat),.int .i64 (q.e : Nat)] 75 :: bs) W) :
 Calls Tryz.prog 27 #[.pointer (some ⟨b,0,none⟩)] W fun e W' => ∃ _ : Unit,(True) ∧ e = .returned (.tuple #[]) ∧ St H w0 (.box b [strV t,.slice tp ts.length tc,.int .i64 (posN ts (q.cl n) : Nat),.int .i64 ((q.cl n).o : Nat),.int .i64 ((q.cl n).e : Nat)] 75 :: bs) W' := by
 refine Sx.enterS Tryz.func27 rfl Tryz.ntmps27 rfl s ?_
 refine .sr<|.m Z Z<|.cs (X := Unit) Fx.call55 Z (fun W s => tok_r K hq  (s.pickT (hd := [_]) (tl := bs) (hd' := [_]) [0] Z Z)) Z fun _ _ => .yv (.fld Z (fld_tr0 _ _ _)) Z<|.yv (.neq Z Z) Z<|.nt<|.cd Z (fun h5 => ?_) (fun h5 => ?_)
 ·try simp only [dt] at h5
  have hr : ¬ q.r = [] := fun e => by have := (K.last hq).2 e;simp [this] at h5
  have e1 : q.cl n = q.fail n 8 := by unfold Sg.cl;rw [if_neg hr]
  rw [e1]
  refine .rg<|.m Z Z<|.cs (X := Unit) Fx.call56 Z (fun W s => fail_r K hq 8 (s.pickT (hd := [_]) (tl := bs) (hd' := [_]) [0] Z Z)) Z fun _ _ => .nl<|?_
  refine Sx.retN (.inr rfl) rfl .nil rfl fun W s => ⟨(),trivial,rfl,?_⟩
  exact s.pickT (hd := [_]) (tl := bs) (hd' := [_]) [0] rfl rfl
 try simp only [df] at h5
 have hr := (K.last hq).1 (UInt8.toNat_inj.1 (by show (tkH n q.r).k.toNat = 0;omega))
 have e1 : q.cl n = q := by unfold Sg.cl;rw [if_pos hr]
 rw [e1]
 refine .sk<|?_
 refine Sx.retN (.inr rfl) rfl .nil rfl fun W s => ⟨(),trivial,rfl,?_⟩
 exact s.pickT (hd := [_]) (tl := bs) (hd' := [_]) [0] rfl rfl
theorem u8w {c : UInt8} (h : 48 ≤ c.toNat) : IntKind.u8.wrap ((c.toNat : Int) - 48) = ((c.toNat - 48 : Nat) : Int) := by
 have key : ∀ i ∈ List.range 256,IntKind.u8.wrap (i : Int) = (i : Int) := by decide +kernel
 rw [show (c.toNat : Int) - 48 = ((c.toNat - 48 : Nat) : Int) by omega]
 exact key _ (List.mem_range.2 (by have := c.toNat_lt;omega))
theorem dig_rng {c : UInt8} (h : digB c = true) : 48 ≤ c.toNat ∧ c.toNat ≤ 57 := by
 have key : ∀ i ∈ List.range 256,digB (UInt8.ofNat i) = true → 48 ≤ i ∧ i ≤ 57 := by decide +kernel
 exact key c.toNat (List.mem_range.2 c.toNat_lt) (by rw [UInt8.ofNat_toNat];exact h)
def valE (t : Tk) : Nat := if t.k = 3 then (if numV t.t ≤ 9223372036854775807 then 0 else 2) else 1
def valV (t : Tk) : Nat := if t.k = 3 ∧ numV t.t ≤ 9223372036854775807 then numV t.t else 0
theorem val_ok {t : Tk} (h : t.k = 3) (hn : numV t.t ≤ 9223372036854775807) : valE t = 0 ∧ valV t = numV t.t := ⟨by unfold valE;rw [if_pos h,if_pos hn],by unfold valV;rw [if_pos ⟨h,hn⟩]⟩
theorem val_big {t : Tk} (h : t.k = 3) (hn : ¬ numV t.t ≤ 9223372036854775807) : valE t = 2 ∧ valV t = 0 := ⟨by unfold valE;rw [if_pos h,if_neg hn],by unfold valV;rw [if_neg (fun k => hn k.2)]⟩
theorem val_no {t : Tk} (h : ¬ t.k = 3) : valE t = 1 ∧ valV t = 0 := ⟨by unfold valE;rw [if_neg h],by unfold valV;rw [if_neg (fun k => h k.1)]⟩
set_option maxRecDepth 100000 in
theorem value_any (t : Tk) (hd : t.k = 3 → pre digB t.t = t.t.length ∧ ¬ t.t = []) (hl : t.t.length ≤ 1000000) (w : World) :
 Calls Tryz.prog 146 #[.agg (cTk .u8 t).toArray] w fun r w' => r = .returned (.tuple #[.int .i64 (valV t : Nat),.int .i64 (valE t : Nat)]) ∧ Ext w w' := by
 refine Sx.enter (H := (fun _ => none)) Tryz.func146 rfl Tryz.ntmps146 rfl (fun _ _ e => by cases e) ?_
 refine .sr<|.bx Z Z Z fun b1 => .a Z Z<|.a Z Z<|.nt<|.sq<|.sq<|.fl (trip := [(_,_,_),(_,_,_),(_,_,_),(_,_,_),(_,_,_),(_,_,_),(_,_,_),(_,_,_),(_,_,_),(_,_,_),(_,_,_),(_,_,_),(_,_,_),(_,_,_),(_,_,_),(_,_,_)]) 16 [(0,0),(1,0),(2,0),(3,0),(4,0),(5,0),(6,0),(7,0),(8,0),(9,0),(10,0),(11,0),(12,0),(13,0),(14,0),(15,0)] (by kernel_rfl) (by kernel_rfl) Z<|.yv (.fieldAddr Z Fx.field96_0) Z<|.yv (.load Z Fx.agg94 (.head _) Z) Z<|.yv (.neq Z Z) Z<|.m Z Z<|.b2 (fun h10 => ?_) (fun h10 => ?_)
 ·have hk : ¬ t.k = 3 := fun e => of_decide_eq_true h10 (by rw [e];rfl)
  obtain ⟨hv1,hv2⟩ := val_no hk
  refine .gF Z Z Z Z<|.gF Z Z Z Z<|.gF Z Z Z Z<|.yv (.pickT Z Z) Z<|.m Z Z<|.gF Z Z Z Z<|.gF Z Z Z Z<|.gF Z Z Z Z<|.gF Z Z Z Z<|.gF Z Z Z Z<|.gF Z Z Z Z<|.gF Z Z Z Z<|.fn (tl := [_]) Z<|.yv (.pickT Z Z) Z<|.nt<|.cT Z<|.sr<|.a Z Z<|.a Z Z<|.nt<|.rt<|.tR<|?_
  refine Sx.retN (.inl rfl) rfl (.cons (.tmp rfl) (.cons (.tmp rfl) .nil)) rfl fun W s => ⟨?_,s.ext⟩
  first
   | (rw [hv1,hv2];rfl)
   | (rw [hv1,hv2,List.take_length];rfl)
   | (rw [hv1,hv2,List.take_length])
 have hk : t.k = 3 := UInt8.toNat_inj.1 (by have := Classical.not_not.1 (of_decide_eq_false h10);exact Int.ofNat.inj this)
 obtain ⟨hd1,hd2⟩ := hd hk
 have hall := List.all_eq_true.1 (pre_all hd1)
 refine .yg Z Z (.fieldAddr Z Fx.field96_1) Z<|.yg Z Z (.load Z Fx.agg9 (.head _) Z) Z<|.yg Z Z (.cast (.eqS Z Z) (congrArg Value.bool (decide_eq_false hd2))) Z<|.yv (.pickF Z Z) Z<|.m Z Z<|.yg Z Z (.fieldAddr Z Fx.field96_1) Z<|.yg Z Z (.load Z Fx.agg9 (.head _) Z) Z<|.yg Z Z (.call Fx.call110 Z (fun W s => prefix_any 117 digB Fx.call117 digit_any t.t (by omega) W)) Z<|.yg Z Z (.fieldAddr Z Fx.field96_1) Z<|.yg Z Z (.load Z Fx.agg9 (.head _) Z) Z<|.yg Z Z (.lenS Fx.str9 Z) Z<|.yg Z Z (.cast (.neq Z Z) (congrArg Value.bool (decide_eq_false (by rw [hd1];simp)))) Z<|.fn (tl := [_]) Z<|.yv (.pickF Z Z) Z<|.nt<|.cF Z<|.sk<|.tN<|.sr<|.a Z Z<|.nt<|.sq<|.sr<|.yv (.fieldAddr Z Fx.field96_1) Z<|.yv (.load Z Fx.agg9 (.head _) Z) Z<|.yv (.lenS Fx.str9 Z) Z<|.m Z Z<|.nt<|.bk<|.lp (X := Nat) [(1,_),(26,_)] ⟨rfl,rfl,trivial⟩ [_] (fun k => [(27,.int .i64 (k : Nat)),(4,.int .i64 (numV (t.t.take k) : Nat))]) (fun k => (fun _ => none)) (fun k => []) (fun k => k ≤ t.t.length ∧ numV (t.t.take k) ≤ 9223372036854775807) (fun k => t.t.length - k) 0 (fun _ s => s) ⟨rfl,rfl,trivial⟩ ⟨Nat.zero_le _,by simp [numV_zero]⟩ fun k hC => ?_
 obtain ⟨hk0,hv0⟩ := hC
 refine .sr<|.yv (.lss Z Z) Z<|.nt<|.sq<|.cd Z (fun h28 => ?_) (fun h28 => ?_)
 ·try simp only [dt] at h28
  have hlt : k < t.t.length := by omega
  obtain ⟨c,hc⟩ : ∃ c,c = t.t[k] := ⟨_,rfl⟩
  obtain ⟨hc1,hc2⟩ := dig_rng (hall c (by rw [hc];exact List.getElem_mem hlt))
  have hst : numV (t.t.take (k + 1)) = 10 * numV (t.t.take k) + (c.toNat - 48) := numV_step (by rw [hc];exact List.getElem?_eq_getElem hlt)
  have hle := numV_take t.t (k + 1)
  rw [hst] at hle
  refine .sk<|.tN<|.sq<|.bk<|.sr<|.m Z Z<|.a Z Z<|.ns<|.yv (.fieldAddr Z Fx.field96_1) Z<|.yv (.load Z Fx.agg9 (.head _) Z) Z<|.m Z Z<|.yv (.idxS Fx.str9 Z Z Z (b := c) (j := k) (by rw [hc];exact List.getElem?_eq_getElem hlt)) Z<|.yv (.sub Z Z (u8w hc1)) Z<|.yv (.conv Z Fx.int5 Fx.int2 (c := ((c.toNat - 48 : Nat) : Int)) (w6 (by omega))) Z<|.a Z Z<|.nt<|.sq<|.sr<|.m Z Z<|.m Z Z<|.yv (.sub Z Z (c := ((9223372036854775807 - (c.toNat - 48) : Nat) : Int)) ((w6 (by omega)).trans (by omega))) Z<|.yv (.quo Z Z (by decide) (c := (((9223372036854775807 - (c.toNat - 48)) / 10 : Nat) : Int)) (by rw [Int.tdiv_eq_ediv_of_nonneg (by omega)];exact (w6 (by omega)).trans (by omega))) Z<|.yv (.gtr Z Z) Z<|.nt<|.cd Z (fun h40 => ?_) (fun h40 => ?_)
  ·try simp only [dt] at h40
   obtain ⟨hv1,hv2⟩ := val_big hk (show ¬ numV t.t ≤ 9223372036854775807 by omega)
   refine .sr<|.a Z Z<|.a Z Z<|.nt<|.rt<|.tR<|.bR<|.tR<|.tR<|.bR<|.tR<|?_
   refine Sx.retN (.inl rfl) rfl (.cons (.tmp rfl) (.cons (.tmp rfl) .nil)) rfl fun W s => ⟨?_,s.ext⟩
   first
    | (rw [hv1,hv2];rfl)
    | (rw [hv1,hv2,List.take_length];rfl)
    | (rw [hv1,hv2,List.take_length])
  try simp only [df] at h40
  have hb : 10 * numV (t.t.take k) + (c.toNat - 48) ≤ 9223372036854775807 := by omega
  exact .sk<|.tN<|.rg<|.m Z Z<|.yv (.mul Z Z (c := ((10 * numV (t.t.take k) : Nat) : Int)) ((w6 (by omega)).trans (by omega))) Z<|.m Z Z<|.yv (.add Z Z (c := ((10 * numV (t.t.take k) + (c.toNat - 48) : Nat) : Int)) ((w6 (by omega)).trans (by omega))) Z<|.a Z Z<|.nl<|.bN<|.tN<|.rg<|.yv (.add Z Z (w6 (by omega))) Z<|.m Z Z<|.nt<|.ag (k + 1) ⟨rfl,by rw [hst];rfl,trivial⟩ ⟨rfl,rfl,trivial⟩ (fun _ s => s) ⟨by omega,by rw [hst];omega⟩ (by omega)
 try simp only [df] at h28
 obtain rfl : k = t.t.length := by omega
 rw [List.take_length] at hv0
 obtain ⟨hv1,hv2⟩ := val_ok hk hv0
 refine .ex<|.tE<|.tE<|.bE<|.tN<|.sr<|.m Z Z<|.a Z Z<|.a Z Z<|.nt<|.rt<|?_
 refine Sx.retN (.inl rfl) rfl (.cons (.tmp rfl) (.cons (.tmp rfl) .nil)) rfl fun W s => ⟨?_,s.ext⟩
 first
  | (rw [hv1,hv2];rfl)
  | (rw [hv1,hv2,List.take_length];rfl)
  | (rw [hv1,hv2,List.take_length])
theorem nu_ok {n : Nat} {q : Sg} (h0 : q.e = 0) (hk : (tkH n q.r).k = 3) (hn : numV (tkH n q.r).t ≤ 9223372036854775807) : up n gNu q = q.tl ∧ vl gNu q (Int64.ofNat (numV (tkH n q.r).t)) := by
 cases hr : q.r with
 | nil => rw [hr] at hk;cases hk
 | cons t l =>
  rw [hr] at hk hn
  have e : gNu q.r = .ok (Int64.ofNat (numV t.t)) l := by
   unfold gNu
   rw [hr]
   simp only [show t.k = 3 from hk,if_true,show numV t.t ≤ 9223372036854775807 from hn]
  refine ⟨?_,fun _ a r e2 => ?_⟩
  ·unfold up Sg.tl
   rw [if_pos h0,e,hr]
   rfl
  ·rw [e] at e2
   injection e2
theorem nu_big {n : Nat} {q : Sg} (hk : (tkH n q.r).k = 3) (hn : ¬ numV (tkH n q.r).t ≤ 9223372036854775807) : up n gNu q = q.fail n 2 ∧ ∀ x,vl gNu q x := by
 cases hr : q.r with
 | nil => rw [hr] at hk;cases hk
 | cons t l =>
  rw [hr] at hk hn
  have e : gNu q.r = .er q.r 2 := by
   unfold gNu
   rw [hr]
   simp only [show t.k = 3 from hk,if_true,show ¬ numV t.t ≤ 9223372036854775807 from hn,if_false]
  refine ⟨?_,fun x _ a r e2 => ?_⟩
  ·unfold up Sg.fail
   split
   ·rw [e]
   ·rfl
  ·rw [e] at e2
   cases e2
theorem nu_no {n : Nat} {q : Sg} (hk : ¬ (tkH n q.r).k = 3) : up n gNu q = q.fail n 8 ∧ ∀ x,vl gNu q x := by
 have e : gNu q.r = .er q.r 8 := by
  unfold gNu
  cases hr : q.r with
  | nil => rfl
  | cons t l =>
   rw [hr] at hk
   simp only [show ¬ t.k = 3 from hk,if_false]
 refine ⟨?_,fun x _ a r e2 => ?_⟩
 ·unfold up Sg.fail
  split
  ·rw [e]
  ·rfl
 ·rw [e] at e2
  cases e2
theorem fail_e {n c : Nat} {q : Sg} (hc : c ≠ 0) : (q.fail n c).e ≠ 0 := by
 unfold Sg.fail
 split
 ·exact hc
 ·assumption
theorem i64N {n : Nat} (h : n ≤ 9223372036854775807) : (Int64.ofNat n).toInt = (n : Int) := Int64.toInt_ofNat_of_lt (by omega)
theorem val_e0 {t : Tk} (h : valE t = 0) : t.k = 3 ∧ numV t.t ≤ 9223372036854775807 := by
 unfold valE at h
 split at h
 ·split at h
  ·exact ⟨by assumption,by assumption⟩
  ·cases h
 ·cases h
theorem val_e2 {t : Tk} (h : valE t = 2) : t.k = 3 ∧ ¬ numV t.t ≤ 9223372036854775807 := by
 unfold valE at h
 split at h
 ·split at h
  ·cases h
  ·exact ⟨by assumption,by assumption⟩
 ·cases h
theorem val_e1 {t : Tk} (h : ¬ valE t = 0) (h2 : ¬ valE t = 2) : ¬ t.k = 3 := by
 intro k
 unfold valE at h h2
 rw [if_pos k] at h h2
 split at h
 ·exact h rfl
 ·rename_i e
  rw [if_neg e] at h2
  exact h2 rfl
theorem tk_num {H : Hp} {q : Sg} {ts : List Tk} {tp : Option Addr} {tc n : Nat} (K : Tkm H ts tp tc) (h : q.r <:+ ts) : (tkH n q.r).k = 3 → pre digB (tkH n q.r).t = (tkH n q.r).t.length ∧ ¬ (tkH n q.r).t = [] := by
 intro hk
 rcases tkH_mem (n := n) h with e | e
 ·rw [e] at hk;cases hk
 ·exact ⟨K.num _ e hk,(K.good _ e).2.2⟩
set_option maxRecDepth 100000 in
theorem number_st {H : Hp} {w0 W : World} {bs : List Res} {b n : Nat} {ts : List Tk} {tp : Option Addr} {tc : Nat} {t0 t1 t2 t3 : Value} {q : Sg} (K : Tkm H ts tp tc) (hq : q.r <:+ ts) (s : St H w0 (.box b [.slice tp ts.length tc,.int .i64 (posN ts q : Nat),.int .i64 (n : Nat),t0,t1,t2,t3,.int .i64 (q.o : Nat),.int .i64 (q.e : Nat)] 99 :: bs) W) :
 Calls Tryz.prog 120 #[.pointer (some ⟨b,0,none⟩)] W fun e W' => ∃ x : Int64,(vl gNu q x) ∧ e = .returned (.int .i64 x.toInt) ∧ St H w0 (.box b [.slice tp ts.length tc,.int .i64 (posN ts (up n gNu q) : Nat),.int .i64 (n : Nat),t0,t1,t2,t3,.int .i64 ((up n gNu q).o : Nat),.int .i64 ((up n gNu q).e : Nat)] 99 :: bs) W' := by
 have hcap := K.rep.cap
 refine Sx.enterS Tryz.func120 rfl Tryz.ntmps120 rfl s ?_
 refine .sr<|.a Z Z<|.ns<|.m Z Z<|.cs (X := Unit) Fx.call91 Z (fun W s => token_st K hq  (s.pickT (hd := [_]) (tl := bs) (hd' := [_]) [0] Z Z)) Z fun _ _ => .yv (.call Fx.call146 Z (fun W s => value_any (tkH n q.r) (tk_num K hq) (K.tk hq) W)) Z<|.m Z Z<|.yv (.extract Z Z) Z<|.yv (.extract Z Z) Z<|.a Z Z<|.a Z Z<|.nt<|.sq<|.sr<|.m Z Z<|.nt<|.bk<|.sr<|.yv (.eql Z Z) Z<|.a Z Z<|.nt<|.cd Z (fun h14 => ?_) (fun h14 => ?_)
 ·try simp only [dt] at h14
  have he : valE (tkH n q.r) = 0 := by omega
  obtain ⟨hk,hn⟩ := val_e0 he
  have hv2 := (val_ok hk hn).2
  refine .sk<|.bN<|.tN<|.sq<|.sr<|.m Z Z<|.yv (.nilCheck Z) Z<|.yv (.fieldAddr Z Fx.field99_5) Z<|.yv (.load Z Fx.agg28 (.head _) Z) Z<|.yv (.neq Z Z) Z<|.nt<|.cd Z (fun h24 => ?_) (fun h24 => ?_)
  ·try simp only [dt] at h24
   have h0 : ¬ q.e = 0 := by omega
   rw [show up n gNu q = q from up_er h0]
   refine .sr<|.a Z Z<|.nt<|.rt<|.tR<|?_
   refine Sx.ret1 (.inl rfl) rfl (.tmp rfl) fun W s => ?_
   exact ⟨0,(vl_er h0),rfl,s.pickT (hd := [_]) (tl := bs) (hd' := [_]) [0] rfl rfl⟩
  try simp only [df] at h24
  have h0 : q.e = 0 := by omega
  obtain ⟨e1,hv⟩ := nu_ok h0 hk hn
  rw [e1]
  obtain ⟨hp,hi⟩ := posN_tl hq (tkH_ne (n := n) (by rw [hk];decide))
  refine .sk<|.tN<|.sr<|.m Z Z<|.yv (.nilCheck Z) Z<|.yv (.fieldAddr Z Fx.field99_1) Z<|.yv (.load Z Fx.agg3 (.head _) Z) Z<|.yv (.add Z Z (c := ((posN ts q.tl : Nat) : Int)) ((w6 (by omega)).trans (by omega))) Z<|.yv (.nilCheck Z) Z<|.yv (.fieldAddr Z Fx.field99_1) Z<|.st .head Z Z Fx.size3 Z (nb Z) Z<|.ns<|.m Z Z<|.a Z Z<|.nt<|.rt<|?_
  refine Sx.ret1 (.inl rfl) rfl (.tmp rfl) fun W s => ?_
  exact ⟨Int64.ofNat (numV (tkH n q.r).t),hv,(by rw [hv2,i64N hn]),s.pickT (hd := [_]) (tl := bs) (hd' := [_]) [0] rfl rfl⟩
 try simp only [df] at h14
 have he : ¬ valE (tkH n q.r) = 0 := by omega
 refine .sr<|.yv (.eql Z Z) Z<|.a Z Z<|.nt<|.cd Z (fun h16 => ?_) (fun h16 => ?_)
 ·try simp only [dt] at h16
  have he2 : valE (tkH n q.r) = 2 := by omega
  obtain ⟨hk,hn⟩ := val_e2 he2
  obtain ⟨e1,hv⟩ := nu_big (n := n) hk hn
  rw [e1]
  refine .rg<|.m Z Z<|.cs (X := Unit) Fx.call50 Z (fun W s => fail_st K hq 2 (s.pickT (hd := [_]) (tl := bs) (hd' := [_]) [0] Z Z)) Z fun _ _ => .nl<|.bN<|.tN<|.sq<|.sr<|.m Z Z<|.yv (.nilCheck Z) Z<|.yv (.fieldAddr Z Fx.field99_5) Z<|.yv (.load Z Fx.agg28 (.head _) Z) Z<|.yv (.neq Z Z) Z<|.nt<|.cd Z (fun h24 => ?_) (fun h24 => ?_)
  ·skip
   refine .sr<|.a Z Z<|.nt<|.rt<|.tR<|?_
   refine Sx.ret1 (.inl rfl) rfl (.tmp rfl) fun W s => ?_
   exact ⟨0,(hv 0),rfl,s.pickT (hd := [_]) (tl := bs) (hd' := [_]) [0] rfl rfl⟩
  exact absurd (show (q.fail n 2).e = 0 by have := Classical.not_not.1 (of_decide_eq_false h24);omega) (fail_e (by decide))
 try simp only [df] at h16
 have he2 : ¬ valE (tkH n q.r) = 2 := by omega
 have hk := val_e1 he he2
 obtain ⟨e1,hv⟩ := nu_no (n := n) hk
 rw [e1]
 refine .rg<|.m Z Z<|.cs (X := Unit) Fx.call50 Z (fun W s => fail_st K hq 8 (s.pickT (hd := [_]) (tl := bs) (hd' := [_]) [0] Z Z)) Z fun _ _ => .nl<|.bN<|.tN<|.sq<|.sr<|.m Z Z<|.yv (.nilCheck Z) Z<|.yv (.fieldAddr Z Fx.field99_5) Z<|.yv (.load Z Fx.agg28 (.head _) Z) Z<|.yv (.neq Z Z) Z<|.nt<|.cd Z (fun h24 => ?_) (fun h24 => ?_)
 ·skip
  refine .sr<|.a Z Z<|.nt<|.rt<|.tR<|?_
  refine Sx.ret1 (.inl rfl) rfl (.tmp rfl) fun W s => ?_
  exact ⟨0,(hv 0),rfl,s.pickT (hd := [_]) (tl := bs) (hd' := [_]) [0] rfl rfl⟩
 exact absurd (show (q.fail n 8).e = 0 by have := Classical.not_not.1 (of_decide_eq_false h24);omega) (fail_e (by decide))
def dSy (x : Str × UInt8) : D := .str [.val (strV x.1),.val (.int .u8 x.2.toNat)]
theorem sy_open {H : Hp} {x : Str × UInt8} {cs : List Value} (h : Rep H (dSy x) cs) : cs = [strV x.1,.int .u8 x.2.toNat] := by
 rw [dSy,repS] at h
 obtain ⟨_,rfl,_,_,h⟩ := repL_val.1 h
 obtain ⟨_,rfl,_,_,h⟩ := repL_val.1 h
 rw [repL_nil] at h
 subst h
 rfl
theorem sy_shut {H : Hp} {x : Str × UInt8} (h : x.1.length ≤ 1000000) : Rep H (dSy x) [strV x.1,.int .u8 x.2.toNat] := by
 rw [dSy,repS]
 exact repL_val.2 ⟨_,rfl,rfl,okS.2 h,repL_val.2 ⟨_,rfl,rfl,trivial,repL_nil.2 rfl⟩⟩
def opF (L : List (Str × UInt8)) (q : Sg) : Option UInt8 := (L.find? fun x => ac x.1 q).map (·.2)
def opZ (L : List (Str × UInt8)) (q : Sg) : Sg := if (opF L q).isSome then q.tl else q
theorem opF_none {L : List (Str × UInt8)} {q : Sg} (h : ∀ i,i < L.length → ∀ x,L[i]? = some x → ac x.1 q = false) : opF L q = none := by
 unfold opF
 rw [Option.map_eq_none_iff,List.find?_eq_none]
 intro x hx
 obtain ⟨i,hi,rfl⟩ := List.getElem_of_mem hx
 rw [h i hi _ (List.getElem?_eq_getElem hi)]
 decide
theorem opF_at : ∀ {L : List (Str × UInt8)} {q : Sg} {k : Nat} (hk : k < L.length),(∀ i,i < k → ∀ x,L[i]? = some x → ac x.1 q = false) → ac L[k].1 q = true → opF L q = some L[k].2
 | [],q,k,hk,_,_ => by cases hk
 | x :: L,q,0,hk,_,h => by
  unfold opF
  rw [List.find?_cons_of_pos (by exact h)]
  rfl
 | x :: L,q,k + 1,hk,hn,h => by
  have h0 := hn 0 (by omega) x rfl
  have := opF_at (L := L) (q := q) (k := k) (by simpa using hk) (fun i hi y hy => hn (i + 1) (by omega) y (by simpa using hy)) (by simpa using h)
  unfold opF at this ⊢
  rw [List.find?_cons_of_neg (by rw [h0];decide)]
  simpa using this
theorem opF_opS (lv : Nat) (q : Sg) : opF (opsL lv) q = opS lv q := by
 unfold opF opS opAt ac
 by_cases h0 : q.e = 0
 ·simp only [h0,decide_true,Bool.true_and,if_true]
 ·simp only [h0,decide_false,Bool.false_and,if_false]
  rw [List.find?_eq_none.2 (by simp)]
  rfl
theorem opF_mu {L : List (Str × UInt8)} {q : Sg} {op : UInt8} (h : opF L q = some op) : q.tl.mu < q.mu := by
 unfold opF at h
 obtain ⟨x,hx,_⟩ := Option.map_eq_some_iff.1 h
 exact mu_tl (w := x.1) (List.find?_some (p := fun x : Str × UInt8 => ac x.1 q) hx)
set_option maxRecDepth 100000 in
theorem operator_st {H : Hp} {w0 W : World} {bs : List Res} {b n : Nat} {ts : List Tk} {tp : Option Addr} {tc : Nat} {t0 t1 t2 t3 : Value} {q : Sg} (K : Tkm H ts tp tc) (hq : q.r <:+ ts) (L : List (Str × UInt8)) (hL : ∀ x ∈ L,x.1 ∈ words ∨ x.1 ∈ symbols) (lp : Option Addr) (lc : Nat) (hs : Rep H (.seq 2 (L.map dSy)) [.slice lp L.length lc]) (s : St H w0 (.box b [.slice tp ts.length tc,.int .i64 (posN ts q : Nat),.int .i64 (n : Nat),t0,t1,t2,t3,.int .i64 (q.o : Nat),.int .i64 (q.e : Nat)] 99 :: bs) W) :
 Calls Tryz.prog 89 #[.pointer (some ⟨b,0,none⟩),.slice lp L.length lc] W fun e W' => ∃ _ : Unit,(True) ∧ e = .returned (.tuple #[.int .u8 ((opF L q).getD 0).toNat,.bool (opF L q).isSome]) ∧ St H w0 (.box b [.slice tp ts.length tc,.int .i64 (posN ts (opZ L q) : Nat),.int .i64 (n : Nat),t0,t1,t2,t3,.int .i64 ((opZ L q).o : Nat),.int .i64 ((opZ L q).e : Nat)] 99 :: bs) W' := by
 have hcap := hs.cap
 refine Sx.enterS Tryz.func89 rfl Tryz.ntmps89 rfl s ?_
 refine .sr<|.a Z Z<|.a Z Z<|.nt<|.sq<|.sr<|.m Z Z<|.yv (.lenSl Fx.sl195 Z) Z<|.m Z Z<|.nt<|.bk<|.lp (X := Nat) [(0,_),(8,_),(9,_)] ⟨rfl,rfl,rfl,trivial⟩ (_ :: bs) (fun k => [(10,.int .i64 (k : Nat))]) (fun k => H) (fun k => []) (fun k => k ≤ L.length ∧ ∀ i,i < k → ∀ x,L[i]? = some x → ac x.1 q = false) (fun k => L.length - k) 0 (fun _ s => s) ⟨rfl,trivial⟩ ⟨Nat.zero_le _,fun i hi => by omega⟩ fun k hC => ?_
 obtain ⟨hk0,hno⟩ := hC
 refine .sr<|.yv (.lss Z Z) Z<|.nt<|.sq<|.cd Z (fun h11 => ?_) (fun h11 => ?_)
 ·try simp only [dt] at h11
  have hk : k < L.length := by omega
  obtain ⟨bE,oE,cE,hpE,rE,lE,mE⟩ := hs.elem (map_at (f := dSy) hk)
  cases hpE
  have hw := hL L[k] (List.getElem_mem hk)
  obtain rfl := sy_open rE
  refine .sk<|.tN<|.sq<|.bk<|.sr<|.yv (.indexSl Fx.sl195 Z Z Z (by omega) (q := oE + k * 2) Z) Z<|.yv (.loadMW Z Fx.agg125 mE Z) Z<|.al Fx.zero125 Z fun b7 => .sW .head Z Z Fx.size125 (by simp [Value.oneCell',strV]) Z<|.ns<|.m Z Z<|.yv (.fieldAddr Z Fx.field125_0) Z<|.yv (.load Z Fx.agg9 (.head _) Z) Z<|.cs (X := Unit) Fx.call72 Z (fun W s => accept_ac K hq L[k].1 hw (s.pickT (hd := [_,_]) (tl := bs) (hd' := [_,_]) [1,0] Z Z)) Z fun _ _ => .nt<|.cd Z (fun h17 => ?_) (fun h17 => ?_)
  ·rw [acS_T h17]
   have hf := opF_at hk hno h17
   rw [show opZ L q = q.tl by unfold opZ;rw [hf];rfl]
   refine .sr<|.yv (.fieldAddr Z Fx.field125_1) Z<|.yv (.load Z Fx.agg24 (.tail _<|.head _) Z) Z<|.a Z Z<|.a Z Z<|.nt<|.rt<|.bR<|.tR<|.tR<|.bR<|.tR<|?_
   refine Sx.retN (.inl rfl) rfl (.cons (.tmp rfl) (.cons (.tmp rfl) .nil)) rfl fun W s => ⟨(),trivial,(by rw [hf];rfl),?_⟩
   exact s.pickT (hd := [_,_]) (tl := bs) (hd' := [_]) [0] rfl rfl
  rw [acS_F h17]
  exact .sk<|.bN<|.tN<|.rg<|.yv (.add Z Z (w6 (by omega))) Z<|.m Z Z<|.nt<|.ag (k + 1) ⟨rfl,trivial⟩ ⟨rfl,rfl,rfl,trivial⟩ (fun _ s => (s.pickT (hd := [_,_]) (tl := bs) (hd' := [_]) [0] Z Z)) ⟨by omega,fun i hi x hx => by
   by_cases hik : i = k
   ·subst hik
    rw [List.getElem?_eq_getElem hk] at hx
    cases hx
    exact h17
   ·exact hno i (by omega) x hx⟩ (by omega)
 try simp only [df] at h11
 obtain rfl : k = L.length := by omega
 have hn := opF_none hno
 rw [show opZ L q = q by unfold opZ;rw [hn];rfl]
 refine .ex<|.tE<|.tE<|.bE<|.tN<|.sr<|.a Z Z<|.a Z Z<|.nt<|.rt<|?_
 refine Sx.retN (.inl rfl) rfl (.cons (.tmp rfl) (.cons (.tmp rfl) .nil)) rfl fun W s => ⟨(),trivial,(by rw [hn];rfl),?_⟩
 exact s.pickT (hd := [_]) (tl := bs) (hd' := [_]) [0] rfl rfl
end Go.Proofs.YthhoebdlfjffkaaGreatDoor
namespace Go.Proofs.YthhoebdlfjffkaaGreatDoor
open Go.RowKit Go.Par Go.Sx
open Go.RowKit Go.Par Go.Sx
open Go.RowKit Go.Par Go.Sx
open Go.RowKit Go.Par Go.Sx
open Go.RowKit Go.Par Go.Sx
open Go.RowKit Go.Par Go.Sx
open Go.RowKit Go.Par Go.Sx
end Go.Proofs.YthhoebdlfjffkaaGreatDoor
namespace Go.Proofs.YthhoebdlfjffkaaGreatDoor
open Go.RowKit Go.Par Go.Sx
theorem ex_len {H : Hp} {k : IntKind} {e : Ex} {cs : List Value} (h : Rep H (dEx k e) cs) : cs.length = 4 := by
 obtain ⟨op,nm,n,args⟩ := e
 obtain ⟨p,c,rfl,_⟩ := ex_open h
 rfl
def ExC (f : FuncId) (g : Pz Ex) (M : Nat) : Prop := ∀ {H : Hp} {w0 W : World} {bs : List Res} {b n : Nat} {ts : List Tk} {tp : Option Addr} {tc : Nat} {t0 t1 t2 t3 : Value} {q : Sg},(_ :  Tkm H ts tp tc) → (_ : q.r <:+ ts) → q.mu < M → St H w0 (.box b [.slice tp ts.length tc,.int .i64 (posN ts q : Nat),.int .i64 (n : Nat),t0,t1,t2,t3,.int .i64 (q.o : Nat),.int .i64 (q.e : Nat)] 99 :: bs) W →
 Calls Tryz.prog f #[.pointer (some ⟨b,0,none⟩)] W fun e W' => ∃ z : Ex × List Value × Hp,(vl g q z.1 ∧ HUp w0 H z.2.2 ∧ Rep z.2.2 (dEx .u8 z.1) z.2.1) ∧ e = .returned (.agg z.2.1.toArray) ∧ St z.2.2 w0 (.box b [.slice tp ts.length tc,.int .i64 (posN ts (up n g q) : Nat),.int .i64 (n : Nat),t0,t1,t2,t3,.int .i64 ((up n g q).o : Nat),.int .i64 ((up n g q).e : Nat)] 99 :: bs) W'
theorem ExC.le {f : FuncId} {g : Pz Ex} {M M' : Nat} (h : ExC f g M) (hm : M' ≤ M) : ExC f g M' := fun K hq hmu s => h K hq (by omega) s
theorem ExC.zero (f : FuncId) (g : Pz Ex) : ExC f g 0 := fun _ _ h _ => absurd h (Nat.not_lt_zero _)
theorem four {l : List Value} (h : l.length = 4) : ∃ a b c d,l = [a,b,c,d] := by match l,h with | [a,b,c,d],_ => exact ⟨a,b,c,d,rfl⟩
structure LfI (n lv : Nat) (q : Sg) (a : Ex) (q1 : Sg) : Prop where
 eq : up n (gL lv a) q1 = up n (gX lv) q
 val : ∀ y,vl (gL lv a) q1 y → vl (gX lv) q y
 mu : q1.mu ≤ q.mu
theorem LfI.start {n lv : Nat} {q : Sg} {a : Ex} (hl : lv < 5) (hv : vl (gX (lv + 1)) q a) : LfI n lv q a (up n (gX (lv + 1)) q) := by
 refine ⟨?_,fun y hy => ?_,mu_up (Shs.gx _).le (Cz.ex _)⟩
 ·rw [gX_low hl,up_bind (Cz.ex _) hv]
 ·rw [gX_low hl];exact vl_bind hv hy
theorem LfI.step {n lv : Nat} {q q1 : Sg} {a b : Ex} {op : UInt8} (hl : lv ≤ 4) (hne : lv ≠ 2) (h : LfI n lv q a q1) (hop : opF (opsL lv) q1 = some op) (hb : vl (gX (lv + 1)) q1.tl b) :
 LfI n lv q (opE op [a,b]) (up n (gX (lv + 1)) q1.tl) ∧ (up n (gX (lv + 1)) q1.tl).mu < q1.mu := by
 have h1 := mu_up (n := n) (s := q1.tl) (Shs.gx (lv + 1)).le (Cz.ex (lv + 1))
 have h2 := opF_mu hop
 rw [opF_opS] at hop
 have e : gK lv op a b = gL lv (opE op [a,b]) := by unfold gK;rw [if_neg hne]
 refine ⟨⟨?_,fun y hy => h.val y (vl_lpS hl hop (vl_bind (n := n) hb (by rw [e];exact hy))),by have := h.mu;omega⟩,by omega⟩
 rw [← h.eq,up_lpS hl hop,up_bind (Cz.ex _) hb,e]
theorem LfI.stop {n lv : Nat} {q q1 : Sg} {a : Ex} (h : LfI n lv q a q1) (hop : opF (opsL lv) q1 = none) : up n (gX lv) q = q1 ∧ vl (gX lv) q a := by
 rw [opF_opS] at hop
 obtain ⟨e1,e2⟩ := up_lpN (n := n) (a := a) hop
 exact ⟨by rw [← h.eq,e1],h.val a e2⟩
theorem opZ_S {L : List (Str × UInt8)} {q : Sg} {op : UInt8} (h : opF L q = some op) : opZ L q = q.tl := by unfold opZ;rw [h];rfl
theorem opZ_N {L : List (Str × UInt8)} {q : Sg} (h : opF L q = none) : opZ L q = q := by unfold opZ;rw [h];rfl
set_option maxRecDepth 100000 in
theorem left_st {H : Hp} {w0 W : World} {bs : List Res} {b n : Nat} {ts : List Tk} {tp : Option Addr} {tc : Nat} {t0 t1 t2 t3 : Value} {q : Sg} (K : Tkm H ts tp tc) (hq : q.r <:+ ts) (lv : Nat) (hl : lv ≤ 4) (hne : lv ≠ 2) (M : Nat) (f : FuncId) (hcall : callN Tryz.prog f = true) (hop : ExC f (gX (lv + 1)) M) (hmu : q.mu < M) (hL : ∀ x ∈ opsL lv,x.1 ∈ words ∨ x.1 ∈ symbols) (lp : Option Addr) (lc : Nat) (hs : Rep H (.seq 2 ((opsL lv).map dSy)) [.slice lp (opsL lv).length lc]) (s : St H w0 (.box b [.slice tp ts.length tc,.int .i64 (posN ts q : Nat),.int .i64 (n : Nat),t0,t1,t2,t3,.int .i64 (q.o : Nat),.int .i64 (q.e : Nat)] 99 :: bs) W) :
 Calls Tryz.prog 48 #[.pointer (some ⟨b,0,none⟩),.func (.func f) #[.pointer (some ⟨b,0,none⟩)] #[],.slice lp (opsL lv).length lc] W fun e W' => ∃ z : Ex × List Value × Hp,(vl (gX lv) q z.1 ∧ HUp w0 H z.2.2 ∧ Rep z.2.2 (dEx .u8 z.1) z.2.1) ∧ e = .returned (.agg z.2.1.toArray) ∧ St z.2.2 w0 (.box b [.slice tp ts.length tc,.int .i64 (posN ts (up n (gX lv) q) : Nat),.int .i64 (n : Nat),t0,t1,t2,t3,.int .i64 ((up n (gX lv) q).o : Nat),.int .i64 ((up n (gX lv) q).e : Nat)] 99 :: bs) W' := by
 refine Sx.enterS Tryz.func48 rfl Tryz.ntmps48 rfl s ?_
 refine .sr<|.al Fx.zero27 Z fun b6 => .ns<|.m Z Z<|.sv (X := Ex × List Value × Hp) (fi := [.pointer (some ⟨b,0,none⟩)]) (ca := []) Z hcall Z (fun W s => hop K hq hmu (s.pickT (hd := [_,_]) (tl := bs) (hd' := [_,_]) [1,0] Z Z)) Z fun z1 hz1 => ?_
 obtain ⟨a1,c1,H1⟩ := z1
 obtain ⟨hv1,u1,r1⟩ := hz1
 dsimp only at hv1 u1 r1 ⊢
 obtain ⟨x1,x2,x3,x4,rfl⟩ := four (ex_len r1)
 have K1 := K.up u1.up
 refine .al Fx.zero27 Z fun b7 => .sW .head Z Z Fx.size27 (Rep.one r1) Z<|.nt<|.bk<|.lp (X := (Ex × Value × Value × Value × Value) × Hp × Sg) [(0,_),(1,_),(2,_),(6,_),(7,_)] ⟨rfl,rfl,rfl,rfl,rfl,trivial⟩ (_ :: bs) (fun z => []) (fun z => z.2.1) (fun z => [.box b7 [z.1.2.1,z.1.2.2.1,z.1.2.2.2.1,z.1.2.2.2.2] 27,.box b [.slice tp ts.length tc,.int .i64 (posN ts z.2.2 : Nat),.int .i64 (n : Nat),t0,t1,t2,t3,.int .i64 (z.2.2.o : Nat),.int .i64 (z.2.2.e : Nat)] 99]) (fun z => LfI n lv q z.1.1 z.2.2 ∧ HUp w0 H z.2.1 ∧ Rep z.2.1 (dEx .u8 z.1.1) [z.1.2.1,z.1.2.2.1,z.1.2.2.2.1,z.1.2.2.2.2] ∧ z.2.2.r <:+ ts) (fun z => z.2.2.mu) ((a1,x1,x2,x3,x4),H1,up n (gX (lv + 1)) q) (fun _ s => s) trivial ⟨LfI.start (by omega) hv1,u1,r1,(Suf.ex _).up hq⟩ fun z hC => ?_
 obtain ⟨⟨a,y1,y2,y3,y4⟩,H1,q1⟩ := z
 obtain ⟨hI,u1,r1,hq1⟩ := hC
 dsimp only at hI u1 r1 hq1 ⊢
 have K1 := K.up u1.up
 refine .bk<|.sr<|.m Z Z<|.m Z Z<|.cs (X := Unit) Fx.call89 Z (fun W s => operator_st K1 hq1 (opsL lv) hL lp lc (hs.up u1.up) (s.pickT (hd := [_,_,_]) (tl := bs) (hd' := [_,_,_]) [1,0,2] Z Z)) Z fun _ _ => .m Z Z<|.yv (.extract Z Z) Z<|.yv (.extract Z Z) Z<|.a Z Z<|.a Z Z<|.nt<|.sq<|.sr<|.m Z Z<|.yv (.not Z) Z<|.nt<|.cd Z (fun h19 => ?_) (fun h19 => ?_)
 ·have hN : opF (opsL lv) q1 = none := by simpa using h19
  rw [opZ_N hN]
  obtain ⟨e1,hv⟩ := hI.stop hN
  rw [e1]
  refine .sr<|.yv (.loadW Z Fx.agg27 (.tail _<|.head _) Z) Z<|.sW (.tail<|.tail<|.head) Z Z Fx.size27 (Rep.one r1) Z<|.nt<|.rt<|.tR<|.bR<|.tR<|.bR<|?_
  refine Sx.ret1 (.inl rfl) rfl (.cell rfl Fx.agg27 (.tail _<|.tail _<|.head _) rfl) fun W s => ?_
  exact ⟨(a,[y1,y2,y3,y4],H1),⟨hv,u1,r1⟩,rfl,s.pickT (hd := [_,_,_]) (tl := bs) (hd' := [_]) [0] rfl rfl⟩
 obtain ⟨op,hS⟩ : ∃ op,opF (opsL lv) q1 = some op := Option.isSome_iff_exists.1 (by simpa using h19)
 rw [opZ_S hS,hS]
 have hmu1 : q1.tl.mu < M := by have := opF_mu hS;have := hI.mu;omega
 refine .sk<|.tN<|.fl (trip := [(_,_,_),(_,_,_),(_,_,_),(_,_,_),(_,_,_),(_,_,_)]) 6 [(0,0),(1,0),(2,0),(3,3),(4,1),(5,0)] (by kernel_rfl) (by kernel_rfl) Z<|.m Z Z<|.yv (.loadW Z Fx.agg27 (.tail _<|.head _) Z) Z<|.m Z Z<|.v3 (X := Ex × List Value × Hp) (fi := [.pointer (some ⟨b,0,none⟩)]) (ca := []) Z hcall Z (fun W s => hop K1 (Suf.tl hq1) hmu1 (s.pickT (hd := [_,_,_]) (tl := bs) (hd' := [_,_,_]) [0,1,2] Z Z)) Z (fun _ _ => (.done (by kernel_rfl)<|.yv (.loadW Z Fx.agg27 (.tail _<|.head _) Z)<|.yv (.move Z)<|.nl)) fun z2 hz2 => ?_
 obtain ⟨a2,c2,H2⟩ := z2
 obtain ⟨hv2,u2,r2⟩ := hz2
 dsimp only at hv2 u2 r2 ⊢
 obtain ⟨w1,w2,w3,w4,rfl⟩ := four (ex_len r2)
 exact .blF Z (Fx.bsl25_2 _ _ _ _ _ _ _ _) Z fun b25 H3 u3 m3 => .yv (.build Z (Fx.bld27_0_3 _ _ _ _)) Z<|.fn (tl := [_]) Z<|.sW (.tail<|.head) Z Z Fx.size27 (by simp [Value.oneCell']) Z<|.nl<|.bN<|.tN<|.ag (x := ((a,y1,y2,y3,y4),H1,q1)) ((opE op [a,a2],.int .u8 op.toNat,.string ⟨#[]⟩,.int .i64 0,.slice (some ⟨b25,0,none⟩) 2 2),H3,up n (gX (lv + 1)) q1.tl) trivial ⟨rfl,rfl,rfl,rfl,rfl,trivial⟩ (fun _ s => (s.pickT (hd := [_,_,_]) (tl := bs) (hd' := [_,_,_]) [1,0,2] Z Z)) ⟨(hI.step hl hne hS hv2).1,u1.trans (u2.trans u3),ex_shut (op := op) (nm := []) (n := 0) (args := [a,a2]) (by decide) (Rep.mk (n := 2) (c := 2) m3 (RepZ.app (RepZ.single (r1.up (u2.trans u3).up) Z) (RepZ.single (r2.up u3.up) Z)) Z (Nat.le_refl _) (by decide)),(Suf.ex _).up (Suf.tl hq1)⟩ (hI.step hl hne hS hv2).2
set_option maxRecDepth 100000 in
theorem expr_st (M : Nat) (hop : ExC 49 (gX 1) M) : ExC 23 (gX 0) M := by
 intro H w0 W bs b n ts tp tc t0 t1 t2 t3 q K hq hmu s
 refine Sx.enterS Tryz.func23 rfl Tryz.ntmps23 rfl s ?_
 refine .sr<|.al Fx.zero27 Z fun b2 => .ns<|.m Z Z<|.m Z Z<|.yv (.mkF Z Z) Z<|.yv (.build Z (Fx.bld125_0_1 _ _)) Z<|.bl Z (Fx.bsl195_1 _ _) Z fun b7 => ?_
 refine Sx.freezeBox fun H1 u1 m1 => ?_
 have hs1 : Rep H1 (.seq 2 (([([111,114],23)] : List (Str × UInt8)).map dSy)) [.slice (some ⟨b7,0,none⟩) 1 1] := by
  simp only [List.map_cons,List.map_nil]
  exact Rep.mk (n := 1) (c := 1) m1 (ds := [dSy ([111,114],23)]) (.single (sy_shut (x := ([111,114],23)) (by decide)) rfl) rfl (Nat.le_refl _) (by decide)
 have K1 := K.up u1.up
 refine .cs (X := Ex × List Value × Hp) Fx.call48 Z (fun W s => left_st K1 hq 0 (by decide) (by decide) M 49 Fx.call49 hop hmu (by decide +kernel) _ _ hs1 (s.pickT (hd := [_,_]) (tl := bs) (hd' := [_,_]) [1,0] Z Z)) Z fun z1 hz1 => ?_
 obtain ⟨a1,c1,H2⟩ := z1
 obtain ⟨hv1,u2,r1⟩ := hz1
 dsimp only at hv1 u2 r1 ⊢
 obtain ⟨x1,x2,x3,x4,rfl⟩ := four (ex_len r1)
 refine .sW (.tail<|.head) Z Z Fx.size27 (Rep.one r1) Z<|.nt<|.rt<|?_
 refine Sx.ret1 (.inl rfl) rfl (.cell rfl Fx.agg27 (.tail _<|.head _) rfl) fun W s => ?_
 exact ⟨(a1,[x1,x2,x3,x4],H2),⟨hv1,u1.trans u2,r1⟩,rfl,s.pickT (hd := [_,_]) (tl := bs) (hd' := [_]) [0] rfl rfl⟩
set_option maxRecDepth 100000 in
theorem conj_st (M : Nat) (hop : ExC 90 (gX 2) M) : ExC 49 (gX 1) M := by
 intro H w0 W bs b n ts tp tc t0 t1 t2 t3 q K hq hmu s
 refine Sx.enterS Tryz.func49 rfl Tryz.ntmps49 rfl s ?_
 refine .sr<|.al Fx.zero27 Z fun b2 => .ns<|.m Z Z<|.m Z Z<|.yv (.mkF Z Z) Z<|.yv (.build Z (Fx.bld125_0_1 _ _)) Z<|.bl Z (Fx.bsl195_1 _ _) Z fun b7 => ?_
 refine Sx.freezeBox fun H1 u1 m1 => ?_
 have hs1 : Rep H1 (.seq 2 (([([97,110,100],22)] : List (Str × UInt8)).map dSy)) [.slice (some ⟨b7,0,none⟩) 1 1] := by
  simp only [List.map_cons,List.map_nil]
  exact Rep.mk (n := 1) (c := 1) m1 (ds := [dSy ([97,110,100],22)]) (.single (sy_shut (x := ([97,110,100],22)) (by decide)) rfl) rfl (Nat.le_refl _) (by decide)
 have K1 := K.up u1.up
 refine .cs (X := Ex × List Value × Hp) Fx.call48 Z (fun W s => left_st K1 hq 1 (by decide) (by decide) M 90 Fx.call90 hop hmu (by decide +kernel) _ _ hs1 (s.pickT (hd := [_,_]) (tl := bs) (hd' := [_,_]) [1,0] Z Z)) Z fun z1 hz1 => ?_
 obtain ⟨a1,c1,H2⟩ := z1
 obtain ⟨hv1,u2,r1⟩ := hz1
 dsimp only at hv1 u2 r1 ⊢
 obtain ⟨x1,x2,x3,x4,rfl⟩ := four (ex_len r1)
 refine .sW (.tail<|.head) Z Z Fx.size27 (Rep.one r1) Z<|.nt<|.rt<|?_
 refine Sx.ret1 (.inl rfl) rfl (.cell rfl Fx.agg27 (.tail _<|.head _) rfl) fun W s => ?_
 exact ⟨(a1,[x1,x2,x3,x4],H2),⟨hv1,u1.trans u2,r1⟩,rfl,s.pickT (hd := [_,_]) (tl := bs) (hd' := [_]) [0] rfl rfl⟩
set_option maxRecDepth 100000 in
theorem sum_st (M : Nat) (hop : ExC 157 (gX 4) M) : ExC 130 (gX 3) M := by
 intro H w0 W bs b n ts tp tc t0 t1 t2 t3 q K hq hmu s
 refine Sx.enterS Tryz.func130 rfl Tryz.ntmps130 rfl s ?_
 refine .sr<|.al Fx.zero27 Z fun b2 => .ns<|.m Z Z<|.m Z Z<|.yv (.mkF Z Z) Z<|.yv (.build Z (Fx.bld125_0_1 _ _)) Z<|.yv (.build Z (Fx.bld125_0_1 _ _)) Z<|.bl Z (Fx.bsl195_2 _ _ _ _) Z fun b8 => ?_
 refine Sx.freezeBox fun H1 u1 m1 => ?_
 have hs1 : Rep H1 (.seq 2 (([([43],14),([45],15)] : List (Str × UInt8)).map dSy)) [.slice (some ⟨b8,0,none⟩) 2 2] := by
  simp only [List.map_cons,List.map_nil]
  exact Rep.mk (n := 2) (c := 2) m1 (ds := [dSy ([43],14),dSy ([45],15)]) (RepZ.snoc (.single (sy_shut (x := ([43],14)) (by decide)) rfl) (sy_shut (x := ([45],15)) (by decide)) rfl) rfl (Nat.le_refl _) (by decide)
 have K1 := K.up u1.up
 refine .cs (X := Ex × List Value × Hp) Fx.call48 Z (fun W s => left_st K1 hq 3 (by decide) (by decide) M 157 Fx.call157 hop hmu (by decide +kernel) _ _ hs1 (s.pickT (hd := [_,_]) (tl := bs) (hd' := [_,_]) [1,0] Z Z)) Z fun z1 hz1 => ?_
 obtain ⟨a1,c1,H2⟩ := z1
 obtain ⟨hv1,u2,r1⟩ := hz1
 dsimp only at hv1 u2 r1 ⊢
 obtain ⟨x1,x2,x3,x4,rfl⟩ := four (ex_len r1)
 refine .sW (.tail<|.head) Z Z Fx.size27 (Rep.one r1) Z<|.nt<|.rt<|?_
 refine Sx.ret1 (.inl rfl) rfl (.cell rfl Fx.agg27 (.tail _<|.head _) rfl) fun W s => ?_
 exact ⟨(a1,[x1,x2,x3,x4],H2),⟨hv1,u1.trans u2,r1⟩,rfl,s.pickT (hd := [_,_]) (tl := bs) (hd' := [_]) [0] rfl rfl⟩
set_option maxRecDepth 100000 in
theorem product_st (M : Nat) (hop : ExC 172 (gX 5) M) : ExC 157 (gX 4) M := by
 intro H w0 W bs b n ts tp tc t0 t1 t2 t3 q K hq hmu s
 refine Sx.enterS Tryz.func157 rfl Tryz.ntmps157 rfl s ?_
 refine .sr<|.al Fx.zero27 Z fun b2 => .ns<|.m Z Z<|.m Z Z<|.yv (.mkF Z Z) Z<|.yv (.build Z (Fx.bld125_0_1 _ _)) Z<|.yv (.build Z (Fx.bld125_0_1 _ _)) Z<|.yv (.build Z (Fx.bld125_0_1 _ _)) Z<|.bl Z (Fx.bsl195_3 _ _ _ _ _ _) Z fun b9 => ?_
 refine Sx.freezeBox fun H1 u1 m1 => ?_
 have hs1 : Rep H1 (.seq 2 (([([42],11),([47],12),([37],13)] : List (Str × UInt8)).map dSy)) [.slice (some ⟨b9,0,none⟩) 3 3] := by
  simp only [List.map_cons,List.map_nil]
  exact Rep.mk (n := 3) (c := 3) m1 (ds := [dSy ([42],11),dSy ([47],12),dSy ([37],13)]) (RepZ.snoc (RepZ.snoc (.single (sy_shut (x := ([42],11)) (by decide)) rfl) (sy_shut (x := ([47],12)) (by decide)) rfl) (sy_shut (x := ([37],13)) (by decide)) rfl) rfl (Nat.le_refl _) (by decide)
 have K1 := K.up u1.up
 refine .cs (X := Ex × List Value × Hp) Fx.call48 Z (fun W s => left_st K1 hq 4 (by decide) (by decide) M 172 Fx.call172 hop hmu (by decide +kernel) _ _ hs1 (s.pickT (hd := [_,_]) (tl := bs) (hd' := [_,_]) [1,0] Z Z)) Z fun z1 hz1 => ?_
 obtain ⟨a1,c1,H2⟩ := z1
 obtain ⟨hv1,u2,r1⟩ := hz1
 dsimp only at hv1 u2 r1 ⊢
 obtain ⟨x1,x2,x3,x4,rfl⟩ := four (ex_len r1)
 refine .sW (.tail<|.head) Z Z Fx.size27 (Rep.one r1) Z<|.nt<|.rt<|?_
 refine Sx.ret1 (.inl rfl) rfl (.cell rfl Fx.agg27 (.tail _<|.head _) rfl) fun W s => ?_
 exact ⟨(a1,[x1,x2,x3,x4],H2),⟨hv1,u1.trans u2,r1⟩,rfl,s.pickT (hd := [_,_]) (tl := bs) (hd' := [_]) [0] rfl rfl⟩
theorem comp_eq {n : Nat} {q : Sg} {a b : Ex} {op : UInt8} (hv1 : vl (gX 3) q a) (hS : opF (opsL 2) (up n (gX 3) q) = some op) (hv2 : vl (gX 3) (up n (gX 3) q).tl b) : up n (gX 3) (up n (gX 3) q).tl = up n (gX 2) q ∧ vl (gX 2) q (opE op [a,b]) := by
 rw [opF_opS] at hS
 have e : gK 2 op a b = gPure (opE op [a,b]) := by unfold gK;rw [if_pos rfl]
 rw [gX_low (lv := 2) (by decide)]
 refine ⟨?_,vl_bind hv1 (vl_lpS (by decide) hS (vl_bind (n := n) hv2 (by rw [e];exact vl_pure)))⟩
 rw [up_bind (Cz.ex _) hv1,up_lpS (by decide) hS,up_bind (Cz.ex _) hv2,e,up_pure]
theorem comp_no {n : Nat} {q : Sg} {a : Ex} (hv1 : vl (gX 3) q a) (hN : opF (opsL 2) (up n (gX 3) q) = none) : up n (gX 3) q = up n (gX 2) q ∧ vl (gX 2) q a := by
 rw [opF_opS] at hN
 obtain ⟨e1,e2⟩ := up_lpN (n := n) (a := a) hN
 rw [gX_low (lv := 2) (by decide)]
 exact ⟨by rw [up_bind (Cz.ex _) hv1,e1],vl_bind hv1 e2⟩
set_option maxRecDepth 100000 in
theorem comp_st (M : Nat) (hop : ExC 130 (gX 3) M) : ExC 90 (gX 2) M := by
 intro H w0 W bs b n ts tp tc t0 t1 t2 t3 q K hq hmu s
 refine Sx.enterS Tryz.func90 rfl Tryz.ntmps90 rfl s ?_
 refine .sr<|.al Fx.zero27 Z fun b2 => .ns<|.m Z Z<|.cs (X := Ex × List Value × Hp) Fx.call130 Z (fun W s => hop K hq hmu (s.pickT (hd := [_,_]) (tl := bs) (hd' := [_,_]) [1,0] Z Z)) Z fun z1 hz1 => ?_
 obtain ⟨a1,c1,H1⟩ := z1
 obtain ⟨hv1,u1,r1⟩ := hz1
 dsimp only at hv1 u1 r1 ⊢
 obtain ⟨x1,x2,x3,x4,rfl⟩ := four (ex_len r1)
 have hq1 := (Suf.ex 3).up (n := n) hq
 refine .al Fx.zero27 Z fun b3 => .sW .head Z Z Fx.size27 (Rep.one r1) Z<|.ns<|.m Z Z<|.yv (.build Z (Fx.bld125_0_1 _ _)) Z<|.yv (.build Z (Fx.bld125_0_1 _ _)) Z<|.yv (.build Z (Fx.bld125_0_1 _ _)) Z<|.yv (.build Z (Fx.bld125_0_1 _ _)) Z<|.yv (.build Z (Fx.bld125_0_1 _ _)) Z<|.yv (.build Z (Fx.bld125_0_1 _ _)) Z<|.bl Z (Fx.bsl195_6 _ _ _ _ _ _ _ _ _ _ _ _) Z fun b16 => ?_
 refine Sx.freezeBox fun H2 u2 m2 => ?_
 have hs1 : Rep H2 (.seq 2 (([([61,61],16),([33,61],17),([60],18),([60,61],19),([62],20),([62,61],21)] : List (Str × UInt8)).map dSy)) [.slice (some ⟨b16,0,none⟩) 6 6] := by
  simp only [List.map_cons,List.map_nil]
  exact Rep.mk (n := 6) (c := 6) m2 (ds := [dSy ([61,61],16),dSy ([33,61],17),dSy ([60],18),dSy ([60,61],19),dSy ([62],20),dSy ([62,61],21)]) (RepZ.snoc (RepZ.snoc (RepZ.snoc (RepZ.snoc (RepZ.snoc (.single (sy_shut (x := ([61,61],16)) (by decide)) rfl) (sy_shut (x := ([33,61],17)) (by decide)) rfl) (sy_shut (x := ([60],18)) (by decide)) rfl) (sy_shut (x := ([60,61],19)) (by decide)) rfl) (sy_shut (x := ([62],20)) (by decide)) rfl) (sy_shut (x := ([62,61],21)) (by decide)) rfl) rfl (Nat.le_refl _) (by decide)
 have K2 := K.up (u1.trans u2).up
 refine .cs (X := Unit) Fx.call89 Z (fun W s => operator_st K2 hq1 (opsL 2) (by decide +kernel) _ _ hs1 (s.pickT (hd := [_,_,_]) (tl := bs) (hd' := [_,_,_]) [1,0,2] Z Z)) Z fun _ _ => .m Z Z<|.yv (.extract Z Z) Z<|.yv (.extract Z Z) Z<|.a Z Z<|.a Z Z<|.nt<|.cu (X := (Ex × Value × Value × Value × Value) × Hp × Sg) [(2,_),(3,_)] ⟨rfl,rfl,trivial⟩ (fun z => []) (fun z => z.2.1) (fun z => (.box b3 [z.1.2.1,z.1.2.2.1,z.1.2.2.2.1,z.1.2.2.2.2] 27 :: .box b [.slice tp ts.length tc,.int .i64 (posN ts z.2.2 : Nat),.int .i64 (n : Nat),t0,t1,t2,t3,.int .i64 (z.2.2.o : Nat),.int .i64 (z.2.2.e : Nat)] 99 :: .box b2 [.int .u8 0,.string ⟨#[]⟩,.int .i64 0,.slice none 0 0] 27 :: bs)) (fun z => (z.2.2 = up n (gX 2) q ∧ vl (gX 2) q z.1.1) ∧ HUp w0 H z.2.1 ∧ Rep z.2.1 (dEx .u8 z.1.1) [z.1.2.1,z.1.2.2.1,z.1.2.2.2.1,z.1.2.2.2.2]) ?_ fun z hC => ?_
 ·
  refine .sr<|.m Z Z<|.nt<|.cd Z (fun h20 => ?_) (fun h20 => ?_)
  ·obtain ⟨op,hS⟩ : ∃ op,opF (opsL 2) (up n (gX 3) q) = some op := Option.isSome_iff_exists.1 h20
   rw [opZ_S hS,hS]
   have hmu1 : (up n (gX 3) q).tl.mu < M := by have := opF_mu hS;have := mu_up (n := n) (s := q) (Shs.gx 3).le (Cz.ex 3);omega
   refine .fl (trip := [(_,_,_),(_,_,_),(_,_,_),(_,_,_),(_,_,_),(_,_,_)]) 6 [(0,0),(1,0),(2,0),(3,3),(4,1),(5,0)] (by kernel_rfl) (by kernel_rfl) Z<|.m Z Z<|.yv (.loadW Z Fx.agg27 (.tail _<|.head _) Z) Z<|.m Z Z<|.c3 (X := Ex × List Value × Hp) Fx.call130 Z (fun W s => hop K2 (Suf.tl hq1) hmu1 (s.pickT (hd := [_,_,_]) (tl := bs) (hd' := [_,_,_]) [0,1,2] Z Z)) Z (fun _ _ => (.done (by kernel_rfl)<|.yv (.loadW Z Fx.agg27 (.tail _<|.head _) Z)<|.yv (.move Z)<|.nl)) fun z2 hz2 => ?_
   obtain ⟨a2,c2,H3⟩ := z2
   obtain ⟨hv2,u3,r2⟩ := hz2
   dsimp only at hv2 u3 r2 ⊢
   obtain ⟨w1,w2,w3,w4,rfl⟩ := four (ex_len r2)
   exact .blF Z (Fx.bsl25_2 _ _ _ _ _ _ _ _) Z fun b25 H4 u4 m4 => .yv (.build Z (Fx.bld27_0_3 _ _ _ _)) Z<|.fn (tl := [_]) Z<|.sW (.tail<|.head) Z Z Fx.size27 (by simp [Value.oneCell']) Z<|.nt<|.me ((opE op [a1,a2],.int .u8 op.toNat,.string ⟨#[]⟩,.int .i64 0,.slice (some ⟨b25,0,none⟩) 2 2),H4,up n (gX 3) (up n (gX 3) q).tl) trivial ⟨rfl,rfl,trivial⟩ (fun _ s => (s.pickT (hd := [_,_,_]) (tl := bs) (hd' := [_,_,_]) [1,0,2] Z Z)) ⟨comp_eq hv1 hS hv2,u1.trans (u2.trans (u3.trans u4)),ex_shut (op := op) (nm := []) (n := 0) (args := [a1,a2]) (by decide) (Rep.mk (n := 2) (c := 2) m4 (RepZ.app (RepZ.single (r1.up (u2.trans (u3.trans u4)).up) Z) (RepZ.single (r2.up u4.up) Z)) Z (Nat.le_refl _) (by decide))⟩
  have hN : opF (opsL 2) (up n (gX 3) q) = none := by simpa using h20
  rw [opZ_N hN]
  exact .sk<|.tN<|.me ((a1,x1,x2,x3,x4),H2,up n (gX 3) q) trivial ⟨rfl,rfl,trivial⟩ (fun _ s => (s.pickT (hd := [_,_,_]) (tl := bs) (hd' := [_,_,_]) [1,0,2] Z Z)) ⟨comp_no hv1 hN,u1.trans u2,r1.up u2.up⟩
 obtain ⟨⟨a5,y1,y2,y3,y4⟩,H5,q5⟩ := z
 obtain ⟨⟨e5,hv5⟩,u5,r5⟩ := hC
 dsimp only at e5 hv5 u5 r5 ⊢
 subst e5
 refine .sr<|.yv (.loadW Z Fx.agg27 (.head _) Z) Z<|.sW (.tail<|.tail<|.head) Z Z Fx.size27 (Rep.one r5) Z<|.nt<|.rt<|?_
 refine Sx.ret1 (.inl rfl) rfl (.cell rfl Fx.agg27 (.tail _<|.tail _<|.head _) rfl) fun W s => ?_
 exact ⟨(a5,[y1,y2,y3,y4],H5),⟨hv5,u5,r5⟩,rfl,s.pickT (hd := [_,_,_]) (tl := bs) (hd' := [_]) [1] rfl rfl⟩
theorem un_no {n : Nat} {q : Sg} {a : Ex} (hN : opF [([45],9),([110,111,116],10)] q = none) (hv : vl gPrim q a) : up n (gX 5) q = up n gPrim q ∧ vl (gX 5) q a := by
 have h := (Option.map_eq_none_iff.1 hN)
 rw [List.find?_eq_none] at h
 have h1 : ac [45] q = false := by have := h ([45],9) (by simp);simpa using this
 have h2 : ac [110,111,116] q = false := by have := h ([110,111,116],10) (by simp);simpa using this
 rw [gX_un,prim_eq]
 exact ⟨by rw [up_altF h1,up_altF h2],vl_altF h1 (vl_altF h2 hv)⟩
theorem un_op {n : Nat} {q : Sg} {a : Ex} {op : UInt8} (hS : opF [([45],9),([110,111,116],10)] q = some op) (hv : vl (gX 5) q.tl a) : up n (gX 5) q = up n (gX 5) q.tl ∧ vl (gX 5) q (opE op [a]) := by
 obtain ⟨x,hx,e⟩ := Option.map_eq_some_iff.1 hS
 have hp := List.find?_some (p := fun x : Str × UInt8 => ac x.1 q) hx
 rcases List.mem_cons.1 (List.mem_of_find?_eq_some hx) with rfl | hm
 ·have h1 : ac [45] q = true := hp
  obtain rfl : 9 = op := e
  rw [show up n (gX 5) q = up n (gX 5) q.tl by conv => lhs;rw [gX_un,up_altT h1,up_map]]
  exact ⟨rfl,by rw [gX_un];exact vl_altT h1 (vl_map (f := fun x => opE 9 [x]) hv)⟩
 ·obtain rfl := List.mem_singleton.1 hm
  have h1 : ac [45] q = false := ac_ne (w := [110,111,116]) hp (by decide)
  have h2 : ac [110,111,116] q = true := hp
  obtain rfl : 10 = op := e
  rw [show up n (gX 5) q = up n (gX 5) q.tl by conv => lhs;rw [gX_un,up_altF h1,up_altT h2,up_map]]
  exact ⟨rfl,by rw [gX_un];exact vl_altF h1 (vl_altT h2 (vl_map (f := fun x => opE 10 [x]) hv))⟩
set_option maxRecDepth 100000 in
theorem unary_st (M : Nat) (hun : ExC 172 (gX 5) M) (hprim : ExC 182 gPrim (M + 1)) : ExC 172 (gX 5) (M + 1) := by
 intro H w0 W bs b n ts tp tc t0 t1 t2 t3 q K hq hmu s
 refine Sx.enterS Tryz.func172 rfl Tryz.ntmps172 rfl s ?_
 refine .sr<|.al Fx.zero27 Z fun b2 => .ns<|.m Z Z<|.yv (.build Z (Fx.bld125_0_1 _ _)) Z<|.yv (.build Z (Fx.bld125_0_1 _ _)) Z<|.bl Z (Fx.bsl195_2 _ _ _ _) Z fun b9 => ?_
 refine Sx.freezeBox fun H1 u1 m1 => ?_
 have hs1 : Rep H1 (.seq 2 (([([45],9),([110,111,116],10)] : List (Str × UInt8)).map dSy)) [.slice (some ⟨b9,0,none⟩) 2 2] := by
  simp only [List.map_cons,List.map_nil]
  exact Rep.mk (n := 2) (c := 2) m1 (ds := [dSy ([45],9),dSy ([110,111,116],10)]) (RepZ.snoc (.single (sy_shut (x := ([45],9)) (by decide)) rfl) (sy_shut (x := ([110,111,116],10)) (by decide)) rfl) rfl (Nat.le_refl _) (by decide)
 have K1 := K.up u1.up
 refine .cs (X := Unit) Fx.call89 Z (fun W s => operator_st K1 hq [([45],9),([110,111,116],10)] (by decide +kernel) _ _ hs1 (s.pickT (hd := [_,_]) (tl := bs) (hd' := [_,_]) [1,0] Z Z)) Z fun _ _ => .m Z Z<|.yv (.extract Z Z) Z<|.yv (.extract Z Z) Z<|.a Z Z<|.a Z Z<|.nt<|.sq<|.sr<|.m Z Z<|.yv (.not Z) Z<|.nt<|.cd Z (fun h14 => ?_) (fun h14 => ?_)
 ·have hN : opF [([45],9),([110,111,116],10)] q = none := by simpa using h14
  rw [opZ_N hN]
  refine .sr<|.m Z Z<|.cs (X := Ex × List Value × Hp) Fx.call182 Z (fun W s => hprim K1 hq hmu (s.pickT (hd := [_,_]) (tl := bs) (hd' := [_,_]) [0,1] Z Z)) Z fun z1 hz1 => ?_
  obtain ⟨a1,c1,H2⟩ := z1
  obtain ⟨hv1,u2,r1⟩ := hz1
  dsimp only at hv1 u2 r1 ⊢
  obtain ⟨x1,x2,x3,x4,rfl⟩ := four (ex_len r1)
  refine .sW (.tail<|.head) Z Z Fx.size27 (Rep.one r1) Z<|.nt<|.rt<|.tR<|?_
  refine Sx.ret1 (.inl rfl) rfl (.cell rfl Fx.agg27 (.tail _<|.head _) rfl) fun W s => ?_
  rw [(un_no (n := n) hN hv1).1]
  exact ⟨(a1,[x1,x2,x3,x4],H2),⟨(un_no (n := n) hN hv1).2,u1.trans u2,r1⟩,rfl,s.pickT (hd := [_,_]) (tl := bs) (hd' := [_]) [0] rfl rfl⟩
 obtain ⟨op,hS⟩ : ∃ op,opF [([45],9),([110,111,116],10)] q = some op := Option.isSome_iff_exists.1 (by simpa using h14)
 rw [opZ_S hS,hS]
 have hmu1 : q.tl.mu < M := by have := opF_mu hS;omega
 refine .sk<|.tN<|.sr<|.m Z Z<|.m Z Z<|.cs (X := Ex × List Value × Hp) Fx.call172 Z (fun W s => hun K1 (Suf.tl hq) hmu1 (s.pickT (hd := [_,_]) (tl := bs) (hd' := [_,_]) [0,1] Z Z)) Z fun z1 hz1 => ?_
 obtain ⟨a1,c1,H2⟩ := z1
 obtain ⟨hv1,u2,r1⟩ := hz1
 dsimp only at hv1 u2 r1 ⊢
 obtain ⟨x1,x2,x3,x4,rfl⟩ := four (ex_len r1)
 refine .bl Z (Fx.bsl25_1 _ _ _ _) Z fun b20 => ?_
 refine Sx.freezeBox fun H3 u3 m3 => ?_
 refine .yv (.build Z (Fx.bld27_0_3 _ _ _ _)) Z<|.sW (.tail<|.head) Z Z Fx.size27 (by simp [Value.oneCell']) Z<|.nt<|.rt<|?_
 refine Sx.ret1 (.inl rfl) rfl (.cell rfl Fx.agg27 (.tail _<|.head _) rfl) fun W s => ?_
 rw [(un_op (n := n) hS hv1).1]
 exact ⟨(opE op [a1],[.int .u8 op.toNat,.string ⟨#[]⟩,.int .i64 0,.slice (some ⟨b20,0,none⟩) 1 1],H3),⟨(un_op (n := n) hS hv1).2,u1.trans (u2.trans u3),ex_shut (op := op) (nm := []) (n := 0) (args := [a1]) (by decide) (Rep.mk (n := 1) (c := 1) m3 (.single (r1.up u3.up) rfl) rfl (Nat.le_refl _) (by decide))⟩,rfl,s.pickT (hd := [_,_]) (tl := bs) (hd' := [_]) [0] rfl rfl⟩
end Go.Proofs.YthhoebdlfjffkaaGreatDoor
