/- Facts on types and functions. -/
import Derived.Test.YtnmickfdflinpaaDoorU2
namespace Go.Proofs.YtnmickfdflinpaaDoor
open Go.RowKit Go.Par Go.Sx
theorem Fx.agg27 : aggN Tryd.prog 27 = Option.some (Option.some 16) := by kernel_rfl
end Go.Proofs.YtnmickfdflinpaaDoor
