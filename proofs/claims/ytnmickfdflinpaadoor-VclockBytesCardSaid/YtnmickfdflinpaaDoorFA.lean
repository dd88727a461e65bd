/- Facts on types and functions. -/
import Derived.Test.YtnmickfdflinpaaDoorUA
namespace Go.Proofs.YtnmickfdflinpaaDoor
open Go.RowKit Go.Par Go.Sx
theorem Fx.call14 : callN Tryd.prog 14 = Bool.true := by kernel_rfl
theorem Fx.call18 : callN Tryd.prog 18 = Bool.true := by kernel_rfl
theorem Fx.call21 : callN Tryd.prog 21 = Bool.true := by kernel_rfl
theorem Fx.call31 : callN Tryd.prog 31 = Bool.true := by kernel_rfl
end Go.Proofs.YtnmickfdflinpaaDoor
