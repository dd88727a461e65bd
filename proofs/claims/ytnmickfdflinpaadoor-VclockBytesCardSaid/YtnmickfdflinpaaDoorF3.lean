/- Facts on types and functions. -/
import Derived.Test.YtnmickfdflinpaaDoorU3
namespace Go.Proofs.YtnmickfdflinpaaDoor
open Go.RowKit Go.Par Go.Sx
theorem Fx.arr27 : arrN Tryd.prog 27 = Option.some (16, 1) := by kernel_rfl
theorem Fx.call17 : callN Tryd.prog 17 = Bool.true := by kernel_rfl
theorem Fx.size27 : sizeN Tryd.prog 27 = Option.some 16 := by kernel_rfl
end Go.Proofs.YtnmickfdflinpaaDoor
