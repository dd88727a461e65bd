/- Texts of the proof, one behind the other. -/
import Derived.Test.YtmbiojpcidccjaaGreatDoorMd
namespace Go.Proofs.YtmbiojpcidccjaaGreatDoor
open Go.RowKit Go.Par Go.Sx
set_option maxRecDepth 100000 in
theorem rletter_any (c : UInt8) (w : World) : Calls Tryz.prog 139 #[byteV c] w fun r w' => r = .returned (.bool (letB c)) ∧ Ext w w' := by
 refine Sx.enter (H := (fun _ => none)) Tryz.func139 rfl Tryz.ntmps139 rfl (fun _ _ e => by cases e) ?_
 refine .sr<|.a Z Z<|.ns<|.m Z Z<|.yv (.geq Z Z) Z<|.m Z Z<|.b2 (fun h5 => ?_) (fun h5 => ?_)
 ·try simp only [dt] at h5
  refine .gd Z Z<|.yv (.move Z) Z<|.gd Z Z<|.yv (.leq Z Z) Z<|.yv (.pickT Z Z) Z<|.m Z Z<|.b2 (fun h9 => ?_) (fun h9 => ?_)
  ·try simp only [dt] at h9
   refine .gF Z Z Z Z<|.gF Z Z Z Z<|.gF Z Z Z Z<|.gU Z Z Z<|.gU Z Z Z<|.gF Z Z Z Z<|.yv (.pickT Z Z) Z<|.a Z Z<|.nt<|.rt<|?_
   exact Sx.ret1 (.inl rfl) rfl (.tmp rfl) fun W s => ⟨retB (by simp only [letB,Bool.or_eq_true,Bool.and_eq_true,decide_eq_true_eq,reduceCtorEq,true_iff,false_iff,iff_true,iff_false,beq_iff_eq,Bool.true_eq_false,Bool.false_eq_true];try omega),s.ext⟩
  try simp only [df] at h9
  refine .gd Z Z<|.yv (.move Z) Z<|.gd Z Z<|.yv (.geq Z Z) Z<|.gd Z Z<|.yv (.move Z) Z<|.b2 (fun h12 => ?_) (fun h12 => ?_)
  ·try simp only [dt] at h12
   refine .gd Z Z<|.yv (.move Z) Z<|.gd Z Z<|.yv (.leq Z Z) Z<|.gd Z Z<|.yv (.pickT Z Z) Z<|.yv (.pickF Z Z) Z<|.a Z Z<|.nt<|.rt<|?_
   exact Sx.ret1 (.inl rfl) rfl (.tmp rfl) fun W s => ⟨retB (by simp only [letB,Bool.or_eq_true,Bool.and_eq_true,decide_eq_true_eq,reduceCtorEq,true_iff,false_iff,iff_true,iff_false,beq_iff_eq,Bool.true_eq_false,Bool.false_eq_true];try omega),s.ext⟩
  try simp only [df] at h12
  refine .gF Z Z Z Z<|.gF Z Z Z Z<|.gd Z Z<|.yv (.pickF Z Z) Z<|.yv (.pickF Z Z) Z<|.a Z Z<|.nt<|.rt<|?_
  exact Sx.ret1 (.inl rfl) rfl (.tmp rfl) fun W s => ⟨retB (by simp only [letB,Bool.or_eq_true,Bool.and_eq_true,decide_eq_true_eq,reduceCtorEq,true_iff,false_iff,iff_true,iff_false,beq_iff_eq,Bool.true_eq_false,Bool.false_eq_true];try omega),s.ext⟩
 try simp only [df] at h5
 refine .gF Z Z Z Z<|.gF Z Z Z Z<|.yv (.pickF Z Z) Z<|.m Z Z<|.gd Z Z<|.yv (.move Z) Z<|.gd Z Z<|.yv (.geq Z Z) Z<|.gd Z Z<|.yv (.move Z) Z<|.b2 (fun h12 => ?_) (fun h12 => ?_)
 ·try simp only [dt] at h12
  refine .gd Z Z<|.yv (.move Z) Z<|.gd Z Z<|.yv (.leq Z Z) Z<|.gd Z Z<|.yv (.pickT Z Z) Z<|.yv (.pickF Z Z) Z<|.a Z Z<|.nt<|.rt<|?_
  exact Sx.ret1 (.inl rfl) rfl (.tmp rfl) fun W s => ⟨retB (by simp only [letB,Bool.or_eq_true,Bool.and_eq_true,decide_eq_true_eq,reduceCtorEq,true_iff,false_iff,iff_true,iff_false,beq_iff_eq,Bool.true_eq_false,Bool.false_eq_true];try omega),s.ext⟩
 try simp only [df] at h12
 refine .gF Z Z Z Z<|.gF Z Z Z Z<|.gd Z Z<|.yv (.pickF Z Z) Z<|.yv (.pickF Z Z) Z<|.a Z Z<|.nt<|.rt<|?_
 exact Sx.ret1 (.inl rfl) rfl (.tmp rfl) fun W s => ⟨retB (by simp only [letB,Bool.or_eq_true,Bool.and_eq_true,decide_eq_true_eq,reduceCtorEq,true_iff,false_iff,iff_true,iff_false,beq_iff_eq,Bool.true_eq_false,Bool.false_eq_true];try omega),s.ext⟩
set_option maxRecDepth 100000 in
theorem rdigit_any (c : UInt8) (w : World) : Calls Tryz.prog 140 #[byteV c] w fun r w' => r = .returned (.bool (digB c)) ∧ Ext w w' := by
 refine Sx.enter (H := (fun _ => none)) Tryz.func140 rfl Tryz.ntmps140 rfl (fun _ _ e => by cases e) ?_
 refine .sr<|.a Z Z<|.ns<|.m Z Z<|.yv (.geq Z Z) Z<|.m Z Z<|.b2 (fun h5 => ?_) (fun h5 => ?_)
 ·try simp only [dt] at h5
  refine .gd Z Z<|.yv (.move Z) Z<|.gd Z Z<|.yv (.leq Z Z) Z<|.yv (.pickT Z Z) Z<|.a Z Z<|.nt<|.rt<|?_
  exact Sx.ret1 (.inl rfl) rfl (.tmp rfl) fun W s => ⟨retB (by simp only [digB,Bool.or_eq_true,Bool.and_eq_true,decide_eq_true_eq,reduceCtorEq,true_iff,false_iff,iff_true,iff_false,beq_iff_eq,Bool.true_eq_false,Bool.false_eq_true];try omega),s.ext⟩
 try simp only [df] at h5
 refine .gF Z Z Z Z<|.gF Z Z Z Z<|.yv (.pickF Z Z) Z<|.a Z Z<|.nt<|.rt<|?_
 exact Sx.ret1 (.inl rfl) rfl (.tmp rfl) fun W s => ⟨retB (by simp only [digB,Bool.or_eq_true,Bool.and_eq_true,decide_eq_true_eq,reduceCtorEq,true_iff,false_iff,iff_true,iff_false,beq_iff_eq,Bool.true_eq_false,Bool.false_eq_true];try omega),s.ext⟩
end Go.Proofs.YtmbiojpcidccjaaGreatDoor
