/- What is known of this seat's types. Conditions: none. -/
import Derived.Test.YtomkbgobmafhjaaBase2
import Derived.Test.YtomkbgobmafhjaaVec
import Derived.Test.YtomkbgobmafhjaaLists
namespace Go.Proofs.Ytomkbgobmafhjaa.Fl
open Go.RowKit
theorem ts22 : P0.underlying 22 = some (.slice 3) := by kernel_rfl
theorem ts34 : P0.underlying 34 = some (.slice 35) := by kernel_rfl
noncomputable def TI3 : TypeInfo := (P0.info? 3).getD default
theorem ti3 : P0.info? 3 = some TI3 := by kernel_rfl
theorem tz3 : TI3.zero = some (.int .i64 0) := by kernel_rfl
theorem tk3 : TI3.size = 1 := by kernel_rfl
theorem tb3 : TI3.bytes ≤ 1000 := Nat.le_of_ble_eq_true (by kernel_rfl)
theorem ta3 : isAggP P0 3 = some false := by kernel_rfl
theorem tq3 : (P0.info? 3).isSome = true := by kernel_rfl
noncomputable def TI35 : TypeInfo := (P0.info? 35).getD default
theorem ti35 : P0.info? 35 = some TI35 := by kernel_rfl
theorem tz35 : TI35.zero = some (.int .u16 0) := by kernel_rfl
theorem tk35 : TI35.size = 1 := by kernel_rfl
theorem tb35 : TI35.bytes ≤ 1000 := Nat.le_of_ble_eq_true (by kernel_rfl)
theorem ta35 : isAggP P0 35 = some false := by kernel_rfl
theorem tq35 : (P0.info? 35).isSome = true := by kernel_rfl
end Go.Proofs.Ytomkbgobmafhjaa.Fl
