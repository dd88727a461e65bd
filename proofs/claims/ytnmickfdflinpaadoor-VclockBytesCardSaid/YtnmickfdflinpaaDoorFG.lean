/- Facts on types and functions. -/
import Derived.Test.YtnmickfdflinpaaDoorUG
import Derived.Test.YtnmickfdflinpaaDoorSr
namespace Go.Proofs.YtnmickfdflinpaaDoor
open Go.RowKit Go.Par Go.Sx
end Go.Proofs.YtnmickfdflinpaaDoor
