/- Facts on types and functions. -/
import Derived.Test.YtnmickfdflinpaaDoorU5
namespace Go.Proofs.YtnmickfdflinpaaDoor
open Go.RowKit Go.Par Go.Sx
theorem Fx.call22 : callN Tryd.prog 22 = Bool.true := by kernel_rfl
theorem Fx.call27 : callN Tryd.prog 27 = Bool.true := by kernel_rfl
theorem Fx.call28 : callN Tryd.prog 28 = Bool.true := by kernel_rfl
theorem Fx.call39 : callN Tryd.prog 39 = Bool.true := by kernel_rfl
theorem Fx.call40 : callN Tryd.prog 40 = Bool.true := by kernel_rfl
end Go.Proofs.YtnmickfdflinpaaDoor
