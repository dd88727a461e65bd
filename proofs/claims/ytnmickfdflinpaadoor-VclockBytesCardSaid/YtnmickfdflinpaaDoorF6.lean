/- Facts on types and functions. -/
import Derived.Test.YtnmickfdflinpaaDoorU6
namespace Go.Proofs.YtnmickfdflinpaaDoor
open Go.RowKit Go.Par Go.Sx
theorem Fx.arr97 : arrN Tryd.prog 97 = Option.some (24, 1) := by kernel_rfl
theorem Fx.bytes62 : bytesN Tryd.prog 62 = Bool.true := by kernel_rfl
theorem Fx.call44 : callN Tryd.prog 44 = Bool.true := by kernel_rfl
theorem Fx.call55 : callN Tryd.prog 55 = Bool.true := by kernel_rfl
theorem Fx.call56 : callN Tryd.prog 56 = Bool.true := by kernel_rfl
theorem Fx.call57 : callN Tryd.prog 57 = Bool.true := by kernel_rfl
theorem Fx.int3 : intN Tryd.prog 3 = Option.some Go.IntKind.i64 := by kernel_rfl
theorem Fx.int23 : intN Tryd.prog 23 = Option.some Go.IntKind.u64 := by kernel_rfl
theorem Fx.str9 : isStr Tryd.prog 9 = Bool.true := by kernel_rfl
theorem Fx.zero97 : zeroN Tryd.prog 97 = some (List.replicate 24 (Value.int .u8 0)) := by kernel_rfl
end Go.Proofs.YtnmickfdflinpaaDoor
