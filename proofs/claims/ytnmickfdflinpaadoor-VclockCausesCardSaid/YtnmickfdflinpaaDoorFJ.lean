/- Facts on types and functions. -/
import Derived.Test.YtnmickfdflinpaaDoorCQ
namespace Go.Proofs.YtnmickfdflinpaaDoor
open Go.RowKit Go.Par Go.Sx
theorem Fx.zero46 : zeroN Tryd.prog 46 = Option.some
  [Go.Value.int Go.IntKind.u64 (Int.ofNat 0), Go.Value.int Go.IntKind.u64 (Int.ofNat 0),
    Go.Value.int Go.IntKind.u64 (Int.ofNat 0), Go.Value.int Go.IntKind.u64 (Int.ofNat 0),
    Go.Value.int Go.IntKind.u64 (Int.ofNat 0), Go.Value.int Go.IntKind.u64 (Int.ofNat 0),
    Go.Value.int Go.IntKind.u64 (Int.ofNat 0), Go.Value.int Go.IntKind.u64 (Int.ofNat 0),
    Go.Value.int Go.IntKind.u64 (Int.ofNat 0), Go.Value.int Go.IntKind.u64 (Int.ofNat 0),
    Go.Value.int Go.IntKind.u64 (Int.ofNat 0), Go.Value.int Go.IntKind.u64 (Int.ofNat 0),
    Go.Value.int Go.IntKind.u64 (Int.ofNat 0), Go.Value.int Go.IntKind.u64 (Int.ofNat 0),
    Go.Value.int Go.IntKind.u64 (Int.ofNat 0), Go.Value.int Go.IntKind.u64 (Int.ofNat 0),
    Go.Value.int Go.IntKind.u64 (Int.ofNat 0), Go.Value.int Go.IntKind.u64 (Int.ofNat 0),
    Go.Value.int Go.IntKind.u64 (Int.ofNat 0), Go.Value.int Go.IntKind.u64 (Int.ofNat 0),
    Go.Value.int Go.IntKind.u64 (Int.ofNat 0), Go.Value.int Go.IntKind.u64 (Int.ofNat 0),
    Go.Value.int Go.IntKind.u64 (Int.ofNat 0), Go.Value.int Go.IntKind.u64 (Int.ofNat 0),
    Go.Value.int Go.IntKind.u64 (Int.ofNat 0), Go.Value.int Go.IntKind.u64 (Int.ofNat 0),
    Go.Value.int Go.IntKind.u64 (Int.ofNat 0), Go.Value.int Go.IntKind.u64 (Int.ofNat 0),
    Go.Value.int Go.IntKind.u64 (Int.ofNat 0), Go.Value.int Go.IntKind.u64 (Int.ofNat 0),
    Go.Value.int Go.IntKind.u64 (Int.ofNat 0), Go.Value.int Go.IntKind.u64 (Int.ofNat 0),
    Go.Value.int Go.IntKind.u64 (Int.ofNat 0), Go.Value.int Go.IntKind.u64 (Int.ofNat 0),
    Go.Value.int Go.IntKind.u64 (Int.ofNat 0), Go.Value.int Go.IntKind.u64 (Int.ofNat 0),
    Go.Value.int Go.IntKind.u64 (Int.ofNat 0), Go.Value.int Go.IntKind.u64 (Int.ofNat 0),
    Go.Value.int Go.IntKind.u64 (Int.ofNat 0), Go.Value.int Go.IntKind.u64 (Int.ofNat 0),
    Go.Value.int Go.IntKind.u64 (Int.ofNat 0), Go.Value.int Go.IntKind.u64 (Int.ofNat 0),
    Go.Value.int Go.IntKind.u64 (Int.ofNat 0), Go.Value.int Go.IntKind.u64 (Int.ofNat 0),
    Go.Value.int Go.IntKind.u64 (Int.ofNat 0), Go.Value.int Go.IntKind.u64 (Int.ofNat 0),
    Go.Value.int Go.IntKind.u64 (Int.ofNat 0), Go.Value.int Go.IntKind.u64 (Int.ofNat 0),
    Go.Value.int Go.IntKind.u64 (Int.ofNat 0), Go.Value.int Go.IntKind.u64 (Int.ofNat 0),
    Go.Value.int Go.IntKind.u64 (Int.ofNat 0), Go.Value.int Go.IntKind.u64 (Int.ofNat 0),
    Go.Value.int Go.IntKind.u64 (Int.ofNat 0), Go.Value.int Go.IntKind.u64 (Int.ofNat 0),
    Go.Value.int Go.IntKind.u64 (Int.ofNat 0), Go.Value.int Go.IntKind.u64 (Int.ofNat 0),
    Go.Value.int Go.IntKind.u64 (Int.ofNat 0), Go.Value.int Go.IntKind.u64 (Int.ofNat 0),
    Go.Value.int Go.IntKind.u64 (Int.ofNat 0), Go.Value.int Go.IntKind.u64 (Int.ofNat 0),
    Go.Value.int Go.IntKind.u64 (Int.ofNat 0), Go.Value.int Go.IntKind.u64 (Int.ofNat 0),
    Go.Value.int Go.IntKind.u64 (Int.ofNat 0), Go.Value.int Go.IntKind.u64 (Int.ofNat 0)] := by kernel_rfl
theorem Fx.zero47 : zeroN Tryd.prog 47 = Option.some
  [Go.Value.int Go.IntKind.u64 (Int.ofNat 0), Go.Value.int Go.IntKind.u64 (Int.ofNat 0),
    Go.Value.int Go.IntKind.u64 (Int.ofNat 0), Go.Value.int Go.IntKind.u64 (Int.ofNat 0)] := by kernel_rfl
end Go.Proofs.YtnmickfdflinpaaDoor
