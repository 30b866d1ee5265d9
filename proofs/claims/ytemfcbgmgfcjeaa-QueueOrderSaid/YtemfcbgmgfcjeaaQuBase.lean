/- What is known of this seat's types. Conditions: none. -/
import Derived.Test.YtemfcbgmgfcjeaaBase2
import Derived.Test.YtemfcbgmgfcjeaaVec
import Derived.Test.YtemfcbgmgfcjeaaLoops
import Derived.Test.YtemfcbgmgfcjeaaHeapQ
import Derived.Test.YtemfcbgmgfcjeaaMeth
namespace Go.Proofs.Ytemfcbgmgfcjeaa.Fl
open Go.RowKit
def encT (p : Bool) : List Value := [.bool p]
theorem encT_ok : EncOk encT 1 := ⟨by decide, fun _ => rfl, fun _ => rfl⟩
def encTI (p : Bool × Int) : List Value := [.bool p.1, .int .i64 p.2]
theorem encTI_ok : EncOk encTI 2 := ⟨by decide, fun _ => rfl, fun _ => rfl⟩
theorem ts22 : P0.underlying 22 = some (.slice 3) := by kernel_rfl
theorem ts23 : P0.underlying 23 = some (.slice 29) := by kernel_rfl
theorem ts39 : P0.underlying 39 = some (.slice 3) := by kernel_rfl
noncomputable def TI3 : TypeInfo := (P0.info? 3).getD default
theorem ti3 : P0.info? 3 = some TI3 := by kernel_rfl
theorem tz3 : TI3.zero = some (.int .i64 0) := by kernel_rfl
theorem tk3 : TI3.size = 1 := by kernel_rfl
theorem tb3 : TI3.bytes ≤ 1000 := Nat.le_of_ble_eq_true (by kernel_rfl)
theorem ta3 : isAggP P0 3 = some false := by kernel_rfl
theorem tq3 : (P0.info? 3).isSome = true := by kernel_rfl
noncomputable def TI4 : TypeInfo := (P0.info? 4).getD default
theorem ti4 : P0.info? 4 = some TI4 := by kernel_rfl
theorem tz4 : TI4.zero = some (.bool false) := by kernel_rfl
theorem tk4 : TI4.size = 1 := by kernel_rfl
theorem tb4 : TI4.bytes ≤ 1000 := Nat.le_of_ble_eq_true (by kernel_rfl)
theorem ta4 : isAggP P0 4 = some false := by kernel_rfl
theorem tq4 : (P0.info? 4).isSome = true := by kernel_rfl
noncomputable def TI29 : TypeInfo := (P0.info? 29).getD default
theorem ti29 : P0.info? 29 = some TI29 := by kernel_rfl
theorem tz29 : TI29.zero = some (.agg #[.bool false, .int .i64 0]) := by kernel_rfl
theorem tk29 : TI29.size = 2 := by kernel_rfl
theorem tb29 : TI29.bytes ≤ 1000 := Nat.le_of_ble_eq_true (by kernel_rfl)
theorem ta29 : isAggP P0 29 = some true := by kernel_rfl
theorem tq29 : (P0.info? 29).isSome = true := by kernel_rfl
end Go.Proofs.Ytemfcbgmgfcjeaa.Fl
