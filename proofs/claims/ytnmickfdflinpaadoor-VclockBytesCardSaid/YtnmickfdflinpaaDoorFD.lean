/- Facts on types and functions. -/
import Derived.Test.YtnmickfdflinpaaDoorUD
import Derived.Test.YtnmickfdflinpaaDoorNum
namespace Go.Proofs.YtnmickfdflinpaaDoor
open Go.RowKit Go.Par Go.Sx
theorem Fx.call26 : callN Tryd.prog 26 = Bool.true := by kernel_rfl
end Go.Proofs.YtnmickfdflinpaaDoor
