/- Facts on types and functions. -/
import Derived.Test.YtnmickfdflinpaaDoorU4
namespace Go.Proofs.YtnmickfdflinpaaDoor
open Go.RowKit Go.Par Go.Sx
theorem Fx.call33 : callN Tryd.prog 33 = Bool.true := by kernel_rfl
theorem Fx.row22 : rowN Tryd.prog 22 = Option.some (23, 1, 8) := by kernel_rfl
theorem Fx.sl22 : slN Tryd.prog 22 = Option.some 1 := by kernel_rfl
theorem Fx.build26 : buildN Tryd.prog 26 [] = some (ckL fun _ => 0) := by kernel_rfl
end Go.Proofs.YtnmickfdflinpaaDoor
