/- The program and its functions under plain names, for this seat's walks. Conditions: none. -/
import Derived.Test.YtemfcbgmgfcjeaaDoorProg
import Derived.Test.YtemfcbgmgfcjeaaDoorSym
import Derived.Test.YtemfcbgmgfcjeaaDoorNum2
import Derived.Test.YtemfcbgmgfcjeaaDoorMem
import Derived.Test.YtemfcbgmgfcjeaaDoorVec
import Derived.Test.YtemfcbgmgfcjeaaDoorLists
import Derived.Test.YtemfcbgmgfcjeaaDoorLoops
import Derived.Test.YtemfcbgmgfcjeaaDoorStr
namespace Go.Proofs.YtemfcbgmgfcjeaaDoor.Fl
noncomputable def P0 : Program := Tryd.prog
theorem mixed : P0.follows .mixedOrders = true := by kernel_rfl
def bodyOf (fn : Func) : Code :=
  match fn.body with
  | some c => c
  | none => .skip
noncomputable def F3 : Func := Tryd.f3
noncomputable def B3 : Code := bodyOf F3
noncomputable def F4 : Func := Tryd.f4
noncomputable def B4 : Code := bodyOf F4
noncomputable def F5 : Func := Tryd.f5
noncomputable def B5 : Code := bodyOf F5
noncomputable def F6 : Func := Tryd.f6
noncomputable def B6 : Code := bodyOf F6
noncomputable def F7 : Func := Tryd.f7
noncomputable def B7 : Code := bodyOf F7
noncomputable def F8 : Func := Tryd.f8
noncomputable def B8 : Code := bodyOf F8
noncomputable def F9 : Func := Tryd.f9
noncomputable def B9 : Code := bodyOf F9
noncomputable def F10 : Func := Tryd.f10
noncomputable def B10 : Code := bodyOf F10
noncomputable def F11 : Func := Tryd.f11
noncomputable def B11 : Code := bodyOf F11
noncomputable def F12 : Func := Tryd.f12
noncomputable def B12 : Code := bodyOf F12
noncomputable def F13 : Func := Tryd.f13
noncomputable def B13 : Code := bodyOf F13
noncomputable def F15 : Func := Tryd.f15
noncomputable def B15 : Code := bodyOf F15
noncomputable def F16 : Func := Tryd.f16
noncomputable def B16 : Code := bodyOf F16
noncomputable def F17 : Func := Tryd.f17
noncomputable def B17 : Code := bodyOf F17
noncomputable def F18 : Func := Tryd.f18
noncomputable def B18 : Code := bodyOf F18
noncomputable def F19 : Func := Tryd.f19
noncomputable def B19 : Code := bodyOf F19
noncomputable def F20 : Func := Tryd.f20
noncomputable def B20 : Code := bodyOf F20
noncomputable def F21 : Func := Tryd.f21
noncomputable def B21 : Code := bodyOf F21
noncomputable def F22 : Func := Tryd.f22
noncomputable def B22 : Code := bodyOf F22
noncomputable def F25 : Func := Tryd.f25
noncomputable def B25 : Code := bodyOf F25
noncomputable def F27 : Func := Tryd.f27
noncomputable def B27 : Code := bodyOf F27
noncomputable def F32 : Func := Tryd.f32
noncomputable def B32 : Code := bodyOf F32
def encIIIII (p : Int × Int × Int × Int × Int) : List Value := [.int .i64 p.1, .int .i64 p.2.1, .int .i64 p.2.2.1, .int .i64 p.2.2.2.1, .int .i64 p.2.2.2.2]
theorem encIIIII_ok : EncOk encIIIII 5 := ⟨by decide, fun _ => rfl, fun _ => rfl⟩
theorem ts23 : P0.underlying 23 = some (.slice 35) := by kernel_rfl
theorem ts46 : P0.underlying 46 = some (.slice 5) := by kernel_rfl
theorem ts56 : P0.underlying 56 = some (.slice 9) := by kernel_rfl
theorem ts59 : P0.underlying 59 = some (.slice 3) := by kernel_rfl
noncomputable def TI3 : TypeInfo := (P0.info? 3).getD default
theorem ti3 : P0.info? 3 = some TI3 := by kernel_rfl
theorem tz3 : TI3.zero = some (.int .i64 0) := by kernel_rfl
theorem tk3 : TI3.size = 1 := by kernel_rfl
theorem tb3 : TI3.bytes ≤ 1000 := Nat.le_of_ble_eq_true (by kernel_rfl)
theorem ta3 : isAggP P0 3 = some false := by kernel_rfl
theorem tq3 : (P0.info? 3).isSome = true := by kernel_rfl
noncomputable def TI5 : TypeInfo := (P0.info? 5).getD default
theorem ti5 : P0.info? 5 = some TI5 := by kernel_rfl
theorem tz5 : TI5.zero = some (.int .u8 0) := by kernel_rfl
theorem tk5 : TI5.size = 1 := by kernel_rfl
theorem tb5 : TI5.bytes ≤ 1000 := Nat.le_of_ble_eq_true (by kernel_rfl)
theorem ta5 : isAggP P0 5 = some false := by kernel_rfl
theorem tq5 : (P0.info? 5).isSome = true := by kernel_rfl
noncomputable def TI9 : TypeInfo := (P0.info? 9).getD default
theorem ti9 : P0.info? 9 = some TI9 := by kernel_rfl
theorem tz9 : TI9.zero = some (.string (bs ([] : List UInt8))) := by kernel_rfl
theorem tk9 : TI9.size = 1 := by kernel_rfl
theorem tb9 : TI9.bytes ≤ 1000 := Nat.le_of_ble_eq_true (by kernel_rfl)
theorem ta9 : isAggP P0 9 = some false := by kernel_rfl
theorem tq9 : (P0.info? 9).isSome = true := by kernel_rfl
noncomputable def TI35 : TypeInfo := (P0.info? 35).getD default
theorem ti35 : P0.info? 35 = some TI35 := by kernel_rfl
theorem tz35 : TI35.zero = some (.agg #[.int .i64 0, .int .i64 0, .int .i64 0, .int .i64 0, .int .i64 0]) := by kernel_rfl
theorem tk35 : TI35.size = 5 := by kernel_rfl
theorem tb35 : TI35.bytes ≤ 1000 := Nat.le_of_ble_eq_true (by kernel_rfl)
theorem ta35 : isAggP P0 35 = some true := by kernel_rfl
theorem tq35 : (P0.info? 35).isSome = true := by kernel_rfl
theorem tS9 : P0.underlying 9 = some .string := by kernel_rfl
theorem tS10 : P0.underlying 10 = some .string := by kernel_rfl
theorem tS11 : P0.underlying 11 = some .string := by kernel_rfl
theorem tB46 : P0.underlying 46 = some (.slice 5) := by kernel_rfl
theorem tU5 : P0.underlying 5 = some (.int .u8) := by kernel_rfl
theorem tP64 : P0.underlying 64 = some (.pointer 5) := by kernel_rfl
theorem tc5 : P0.cellsOf 5 = 1 := by kernel_rfl
theorem tb1_5 : TI5.bytes = 1 := by kernel_rfl
end Go.Proofs.YtemfcbgmgfcjeaaDoor.Fl
