/- Facts on types and functions. -/
import Derived.Test.YtnmickfdflinpaaDoorU8
namespace Go.Proofs.YtnmickfdflinpaaDoor
open Go.RowKit Go.Par Go.Sx
theorem Fx.agg9 : aggN Tryd.prog 9 = Option.some Option.none := by kernel_rfl
theorem Fx.call20 : callN Tryd.prog 20 = Bool.true := by kernel_rfl
theorem Fx.call36 : callN Tryd.prog 36 = Bool.true := by kernel_rfl
theorem Fx.call37 : callN Tryd.prog 37 = Bool.true := by kernel_rfl
theorem Fx.call38 : callN Tryd.prog 38 = Bool.true := by kernel_rfl
theorem Fx.sl69 : slN Tryd.prog 69 = Option.some 1 := by kernel_rfl
end Go.Proofs.YtnmickfdflinpaaDoor
