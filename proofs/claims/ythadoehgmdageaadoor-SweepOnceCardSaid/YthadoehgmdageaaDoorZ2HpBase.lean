/- What is known of this seat's types. Conditions: none. -/
import Derived.Test.YthadoehgmdageaaDoorZ2Base2
import Derived.Test.YthadoehgmdageaaDoorZ2Vec
import Derived.Test.YthadoehgmdageaaDoorZ2Loops
import Derived.Test.YthadoehgmdageaaDoorZ2Bits
namespace Go.Proofs.YthadoehgmdageaaDoor.Fl
open Go.RowKit
def encIII (p : Int × Int × Int) : List Value := [.int .i64 p.1, .int .i64 p.2.1, .int .i64 p.2.2]
theorem encIII_ok : EncOk encIII 3 := ⟨by decide, fun _ => rfl, fun _ => rfl⟩
def encIIII (p : Int × Int × Int × Int) : List Value := [.int .i64 p.1, .int .i64 p.2.1, .int .i64 p.2.2.1, .int .i64 p.2.2.2]
theorem encIIII_ok : EncOk encIIII 4 := ⟨by decide, fun _ => rfl, fun _ => rfl⟩
def encIIW (p : Int × Int × Int) : List Value := [.int .i64 p.1, .int .i64 p.2.1, .int .u32 p.2.2]
theorem encIIW_ok : EncOk encIIW 3 := ⟨by decide, fun _ => rfl, fun _ => rfl⟩
def encT (p : Bool) : List Value := [.bool p]
theorem encT_ok : EncOk encT 1 := ⟨by decide, fun _ => rfl, fun _ => rfl⟩
theorem ts22 : P0.underlying 22 = some (.slice 41) := by kernel_rfl
theorem ts23 : P0.underlying 23 = some (.slice 39) := by kernel_rfl
theorem ts29 : P0.underlying 29 = some (.slice 3) := by kernel_rfl
theorem tA62 : P0.underlying 62 = some (.array 4 3) := by kernel_rfl
noncomputable def TI3 : TypeInfo := (P0.info? 3).getD default
theorem ti3 : P0.info? 3 = some TI3 := by kernel_rfl
theorem tz3 : TI3.zero = some (.int .i64 0) := by kernel_rfl
theorem tk3 : TI3.size = 1 := by kernel_rfl
theorem tb3 : TI3.bytes ≤ 1000 := Nat.le_of_ble_eq_true (by kernel_rfl)
theorem ta3 : isAggP P0 3 = some false := by kernel_rfl
theorem tq3 : (P0.info? 3).isSome = true := by kernel_rfl
noncomputable def TI4 : TypeInfo := (P0.info? 4).getD default
theorem ti4 : P0.info? 4 = some TI4 := by kernel_rfl
theorem tk4 : TI4.size = 1 := by kernel_rfl
theorem ta4 : isAggP P0 4 = some false := by kernel_rfl
theorem tq4 : (P0.info? 4).isSome = true := by kernel_rfl
noncomputable def TI39 : TypeInfo := (P0.info? 39).getD default
theorem ti39 : P0.info? 39 = some TI39 := by kernel_rfl
theorem tz39 : TI39.zero = some (.agg #[.int .i64 0, .int .i64 0, .int .u32 0]) := by kernel_rfl
theorem tk39 : TI39.size = 3 := by kernel_rfl
theorem tb39 : TI39.bytes ≤ 1000 := Nat.le_of_ble_eq_true (by kernel_rfl)
theorem ta39 : isAggP P0 39 = some true := by kernel_rfl
noncomputable def TI41 : TypeInfo := (P0.info? 41).getD default
theorem ti41 : P0.info? 41 = some TI41 := by kernel_rfl
theorem tz41 : TI41.zero = some (.int .u64 0) := by kernel_rfl
theorem tk41 : TI41.size = 1 := by kernel_rfl
theorem tb41 : TI41.bytes ≤ 1000 := Nat.le_of_ble_eq_true (by kernel_rfl)
theorem ta41 : isAggP P0 41 = some false := by kernel_rfl
theorem tq41 : (P0.info? 41).isSome = true := by kernel_rfl
noncomputable def TI62 : TypeInfo := (P0.info? 62).getD default
theorem ti62 : P0.info? 62 = some TI62 := by kernel_rfl
theorem tk62 : TI62.size = 4 := by kernel_rfl
theorem ta62 : isAggP P0 62 = some true := by kernel_rfl
noncomputable def TI77 : TypeInfo := (P0.info? 77).getD default
theorem ti77 : P0.info? 77 = some TI77 := by kernel_rfl
theorem tk77 : TI77.size = 3 := by kernel_rfl
theorem ta77 : isAggP P0 77 = some true := by kernel_rfl
noncomputable def TIA : TypeInfo := (P0.info? 116).getD default
theorem tiA : P0.info? 116 = some TIA := by kernel_rfl
theorem tkA : TIA.size = 32 := by kernel_rfl
theorem taA : isAggP P0 116 = some true := by kernel_rfl
end Go.Proofs.YthadoehgmdageaaDoor.Fl
