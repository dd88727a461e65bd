/- Facts on types and functions. -/
import Derived.Test.YtnmickfdflinpaaDoorUC
namespace Go.Proofs.YtnmickfdflinpaaDoor
open Go.RowKit Go.Par Go.Sx
theorem Fx.build27 : buildN Tryd.prog 27 [] = some (ckL fun _ => 0) := by kernel_rfl
end Go.Proofs.YtnmickfdflinpaaDoor
