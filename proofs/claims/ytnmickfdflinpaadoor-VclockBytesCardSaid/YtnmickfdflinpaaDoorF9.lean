/- Facts on types and functions. -/
import Derived.Test.YtnmickfdflinpaaDoorU9
import Derived.Test.YtnmickfdflinpaaDoorSu
namespace Go.Proofs.YtnmickfdflinpaaDoor
open Go.RowKit Go.Par Go.Sx
theorem Fx.call42 : callN Tryd.prog 42 = Bool.true := by kernel_rfl
theorem Fx.call54 : callN Tryd.prog 54 = Bool.true := by kernel_rfl
theorem Fx.int5 : intN Tryd.prog 5 = Option.some Go.IntKind.u8 := by kernel_rfl
theorem Fx.row62 : rowN Tryd.prog 62 = Option.some (5, 1, 1) := by kernel_rfl
theorem Fx.sl62 : slN Tryd.prog 62 = Option.some 1 := by kernel_rfl
end Go.Proofs.YtnmickfdflinpaaDoor
