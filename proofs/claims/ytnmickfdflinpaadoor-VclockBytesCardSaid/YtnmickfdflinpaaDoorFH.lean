/- Facts on types and functions. -/
import Derived.Test.YtnmickfdflinpaaDoorUH
namespace Go.Proofs.YtnmickfdflinpaaDoor
open Go.RowKit Go.Par Go.Sx
end Go.Proofs.YtnmickfdflinpaaDoor
