/- What is known of this seat's types. Conditions: none. -/
import Derived.Test.YtgkidiokipcafaaDoorBase2
import Derived.Test.YtgkidiokipcafaaDoorVec
import Derived.Test.YtgkidiokipcafaaDoorLoops
import Derived.Test.YtgkidiokipcafaaDoorBits
namespace Go.Proofs.YtgkidiokipcafaaDoor.Fl
open Go.RowKit
def encT (p : Bool) : List Value := [.bool p]
theorem encT_ok : EncOk encT 1 := ⟨by decide, fun _ => rfl, fun _ => rfl⟩
theorem ts41 : P0.underlying 41 = some (.slice 3) := by kernel_rfl
theorem ts57 : P0.underlying 57 = some (.slice 5) := by kernel_rfl
noncomputable def TI3 : TypeInfo := (P0.info? 3).getD default
theorem ti3 : P0.info? 3 = some TI3 := by kernel_rfl
theorem tz3 : TI3.zero = some (.int .i64 0) := by kernel_rfl
theorem tk3 : TI3.size = 1 := by kernel_rfl
theorem tb3 : TI3.bytes ≤ 1000 := Nat.le_of_ble_eq_true (by kernel_rfl)
theorem ta3 : isAggP P0 3 = some false := by kernel_rfl
theorem tq3 : (P0.info? 3).isSome = true := by kernel_rfl
noncomputable def TI4 : TypeInfo := (P0.info? 4).getD default
theorem ti4 : P0.info? 4 = some TI4 := by kernel_rfl
theorem tz4 : TI4.zero = some (.bool false) := by kernel_rfl
theorem tk4 : TI4.size = 1 := by kernel_rfl
theorem tb4 : TI4.bytes ≤ 1000 := Nat.le_of_ble_eq_true (by kernel_rfl)
theorem ta4 : isAggP P0 4 = some false := by kernel_rfl
theorem tq4 : (P0.info? 4).isSome = true := by kernel_rfl
noncomputable def TI5 : TypeInfo := (P0.info? 5).getD default
theorem ti5 : P0.info? 5 = some TI5 := by kernel_rfl
theorem tz5 : TI5.zero = some (.int .u8 0) := by kernel_rfl
theorem tk5 : TI5.size = 1 := by kernel_rfl
theorem tb5 : TI5.bytes ≤ 1000 := Nat.le_of_ble_eq_true (by kernel_rfl)
theorem ta5 : isAggP P0 5 = some false := by kernel_rfl
theorem tq5 : (P0.info? 5).isSome = true := by kernel_rfl
theorem us9 : P0.underlying 9 = some .string := by kernel_rfl
noncomputable def TIA : TypeInfo := (P0.info? 63).getD default
theorem tiA : P0.info? 63 = some TIA := by kernel_rfl
theorem tkA : TIA.size = 32 := by kernel_rfl
theorem taA : isAggP P0 63 = some true := by kernel_rfl
end Go.Proofs.YtgkidiokipcafaaDoor.Fl
