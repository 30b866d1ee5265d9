/- What is known of this seat's types. Conditions: none. -/
import Derived.Test.YtomkbgobmafhjaaDoorBase2
import Derived.Test.YtomkbgobmafhjaaDoorBits
namespace Go.Proofs.YtomkbgobmafhjaaDoor.Fl
open Go.RowKit
def encT (p : Bool) : List Value := [.bool p]
theorem encT_ok : EncOk encT 1 := ⟨by decide, fun _ => rfl, fun _ => rfl⟩
theorem ts30 : P0.underlying 30 = some (.slice 5) := by kernel_rfl
noncomputable def TI4 : TypeInfo := (P0.info? 4).getD default
theorem ti4 : P0.info? 4 = some TI4 := by kernel_rfl
theorem tz4 : TI4.zero = some (.bool false) := by kernel_rfl
theorem tk4 : TI4.size = 1 := by kernel_rfl
theorem tb4 : TI4.bytes ≤ 1000 := Nat.le_of_ble_eq_true (by kernel_rfl)
theorem ta4 : isAggP P0 4 = some false := by kernel_rfl
theorem tq4 : (P0.info? 4).isSome = true := by kernel_rfl
noncomputable def TI5 : TypeInfo := (P0.info? 5).getD default
theorem ti5 : P0.info? 5 = some TI5 := by kernel_rfl
theorem tz5 : TI5.zero = some (.int .u8 0) := by kernel_rfl
theorem tk5 : TI5.size = 1 := by kernel_rfl
theorem tb5 : TI5.bytes ≤ 1000 := Nat.le_of_ble_eq_true (by kernel_rfl)
theorem ta5 : isAggP P0 5 = some false := by kernel_rfl
theorem tq5 : (P0.info? 5).isSome = true := by kernel_rfl
theorem us9 : P0.underlying 9 = some .string := by kernel_rfl
noncomputable def TIA : TypeInfo := (P0.info? 34).getD default
theorem tiA : P0.info? 34 = some TIA := by kernel_rfl
theorem tkA : TIA.size = 32 := by kernel_rfl
theorem taA : isAggP P0 34 = some true := by kernel_rfl
end Go.Proofs.YtomkbgobmafhjaaDoor.Fl
