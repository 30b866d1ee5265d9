/- What is known of this seat's types. Conditions: none. -/
import Derived.Test.YtomkbgobmafhjaaGBase
namespace Go.Proofs.Ytomkbgobmafhjaa.Fl
open Go.RowKit
def encII (p : Int × Int) : List Value := [.int .i64 p.1, .int .i64 p.2]
theorem encII_ok : EncOk encII 2 := ⟨by decide, fun _ => rfl, fun _ => rfl⟩
theorem ts38 : P0.underlying 38 = some (.slice 40) := by kernel_rfl
noncomputable def TI40 : TypeInfo := (P0.info? 40).getD default
theorem ti40 : P0.info? 40 = some TI40 := by kernel_rfl
theorem tz40 : TI40.zero = some (.agg #[.int .i64 0, .int .i64 0]) := by kernel_rfl
theorem tk40 : TI40.size = 2 := by kernel_rfl
theorem tb40 : TI40.bytes ≤ 1000 := Nat.le_of_ble_eq_true (by kernel_rfl)
theorem ta40 : isAggP P0 40 = some true := by kernel_rfl
theorem tq40 : (P0.info? 40).isSome = true := by kernel_rfl
end Go.Proofs.Ytomkbgobmafhjaa.Fl
