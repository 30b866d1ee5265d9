/- What is known of this seat's types. Conditions: none. -/
import Derived.Test.YtgkidiokipcafaaDoorBase2
import Derived.Test.YtgkidiokipcafaaDoorVec
import Derived.Test.YtgkidiokipcafaaDoorLoops
namespace Go.Proofs.YtgkidiokipcafaaDoor.Fl
open Go.RowKit
theorem ts23 : P0.underlying 23 = some (.slice 27) := by kernel_rfl
theorem ts41 : P0.underlying 41 = some (.slice 3) := by kernel_rfl
noncomputable def TI3 : TypeInfo := (P0.info? 3).getD default
theorem ti3 : P0.info? 3 = some TI3 := by kernel_rfl
theorem tz3 : TI3.zero = some (.int .i64 0) := by kernel_rfl
theorem tk3 : TI3.size = 1 := by kernel_rfl
theorem tb3 : TI3.bytes ≤ 1000 := Nat.le_of_ble_eq_true (by kernel_rfl)
theorem ta3 : isAggP P0 3 = some false := by kernel_rfl
theorem tq3 : (P0.info? 3).isSome = true := by kernel_rfl
noncomputable def TI27 : TypeInfo := (P0.info? 27).getD default
theorem ti27 : P0.info? 27 = some TI27 := by kernel_rfl
theorem tz27 : TI27.zero = some (.int .u64 0) := by kernel_rfl
theorem tk27 : TI27.size = 1 := by kernel_rfl
theorem tb27 : TI27.bytes ≤ 1000 := Nat.le_of_ble_eq_true (by kernel_rfl)
theorem ta27 : isAggP P0 27 = some false := by kernel_rfl
theorem tq27 : (P0.info? 27).isSome = true := by kernel_rfl
end Go.Proofs.YtgkidiokipcafaaDoor.Fl
