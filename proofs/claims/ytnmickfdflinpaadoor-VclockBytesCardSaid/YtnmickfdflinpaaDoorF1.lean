/- Facts on types and functions. -/
import Derived.Test.YtnmickfdflinpaaDoorU0
namespace Go.Proofs.YtnmickfdflinpaaDoor
open Go.RowKit Go.Par Go.Sx
theorem Fx.agg23 : aggN Tryd.prog 23 = Option.some Option.none := by kernel_rfl
theorem Fx.agg26 : aggN Tryd.prog 26 = Option.some (Option.some 16) := by kernel_rfl
theorem Fx.arr24 : arrN Tryd.prog 24 = Option.some (16, 1) := by kernel_rfl
theorem Fx.field26_0 : fieldN Tryd.prog 26 0 = Option.some 0 := by kernel_rfl
theorem Fx.size23 : sizeN Tryd.prog 23 = Option.some 1 := by kernel_rfl
theorem Fx.size26 : sizeN Tryd.prog 26 = Option.some 16 := by kernel_rfl
theorem Fx.zero26 : zeroN Tryd.prog 26 = some (ckL fun _ => 0) := by kernel_rfl
theorem Fx.zero27 : zeroN Tryd.prog 27 = some (ckL fun _ => 0) := by kernel_rfl
end Go.Proofs.YtnmickfdflinpaaDoor
