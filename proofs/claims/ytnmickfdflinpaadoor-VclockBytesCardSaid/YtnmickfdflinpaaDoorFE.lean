/- Facts on types and functions. -/
import Derived.Test.YtnmickfdflinpaaDoorUE
namespace Go.Proofs.YtnmickfdflinpaaDoor
open Go.RowKit Go.Par Go.Sx
theorem Fx.agg5 : aggN Tryd.prog 5 = Option.some Option.none := by kernel_rfl
theorem Fx.call41 : callN Tryd.prog 41 = Bool.true := by kernel_rfl
theorem Fx.call43 : callN Tryd.prog 43 = Bool.true := by kernel_rfl
end Go.Proofs.YtnmickfdflinpaaDoor
