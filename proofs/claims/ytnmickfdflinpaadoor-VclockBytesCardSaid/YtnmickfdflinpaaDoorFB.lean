/- Facts on types and functions. -/
import Derived.Test.YtnmickfdflinpaaDoorUB
namespace Go.Proofs.YtnmickfdflinpaaDoor
open Go.RowKit Go.Par Go.Sx
theorem Fx.bool4 : isBool Tryd.prog 4 = Bool.true := by kernel_rfl
theorem Fx.call13 : callN Tryd.prog 13 = Bool.true := by kernel_rfl
theorem Fx.call15 : callN Tryd.prog 15 = Bool.true := by kernel_rfl
theorem Fx.call16 : callN Tryd.prog 16 = Bool.true := by kernel_rfl
theorem Fx.call19 : callN Tryd.prog 19 = Bool.true := by kernel_rfl
theorem Fx.call23 : callN Tryd.prog 23 = Bool.true := by kernel_rfl
theorem Fx.call24 : callN Tryd.prog 24 = Bool.true := by kernel_rfl
theorem Fx.call25 : callN Tryd.prog 25 = Bool.true := by kernel_rfl
theorem Fx.call29 : callN Tryd.prog 29 = Bool.true := by kernel_rfl
theorem Fx.int35 : intN Tryd.prog 35 = Option.some Go.IntKind.u8 := by kernel_rfl
end Go.Proofs.YtnmickfdflinpaaDoor
