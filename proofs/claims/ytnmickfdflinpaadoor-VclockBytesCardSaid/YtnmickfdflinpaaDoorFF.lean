/- Facts on types and functions. -/
import Derived.Test.YtnmickfdflinpaaDoorUF
import Derived.Test.YtnmickfdflinpaaDoorSt
namespace Go.Proofs.YtnmickfdflinpaaDoor
open Go.RowKit Go.Par Go.Sx
theorem Fx.call30 : callN Tryd.prog 30 = Bool.true := by kernel_rfl
theorem Fx.call32 : callN Tryd.prog 32 = Bool.true := by kernel_rfl
end Go.Proofs.YtnmickfdflinpaaDoor
