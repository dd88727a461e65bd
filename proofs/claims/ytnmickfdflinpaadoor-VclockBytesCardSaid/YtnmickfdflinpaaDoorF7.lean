/- Facts on types and functions. -/
import Derived.Test.YtnmickfdflinpaaDoorU7
namespace Go.Proofs.YtnmickfdflinpaaDoor
open Go.RowKit Go.Par Go.Sx
theorem Fx.call34 : callN Tryd.prog 34 = Bool.true := by kernel_rfl
theorem Fx.call35 : callN Tryd.prog 35 = Bool.true := by kernel_rfl
theorem Fx.row69 : rowN Tryd.prog 69 = Option.some (9, 1, 16) := by kernel_rfl
end Go.Proofs.YtnmickfdflinpaaDoor
