/- Facts on types and functions. -/
import Derived.Test.YtnmickfdflinpaaDoorCP
import Derived.Test.YtnmickfdflinpaaDoorSu
namespace Go.Proofs.YtnmickfdflinpaaDoor
open Go.RowKit Go.Par Go.Sx
theorem Fx.arr46 : arrN Tryd.prog 46 = Option.some (4, 16) := by kernel_rfl
theorem Fx.arr47 : arrN Tryd.prog 47 = Option.some (4, 1) := by kernel_rfl
theorem Fx.field50_0 : fieldN Tryd.prog 50 0 = Option.some 0 := by kernel_rfl
theorem Fx.field50_1 : fieldN Tryd.prog 50 1 = Option.some 1 := by kernel_rfl
theorem Fx.field50_2 : fieldN Tryd.prog 50 2 = Option.some 2 := by kernel_rfl
theorem Fx.row48 : rowN Tryd.prog 48 = Option.some (26, 16, 128) := by kernel_rfl
theorem Fx.sl45 : slN Tryd.prog 45 = Option.some 3 := by kernel_rfl
theorem Fx.sl48 : slN Tryd.prog 48 = Option.some 16 := by kernel_rfl
end Go.Proofs.YtnmickfdflinpaaDoor
