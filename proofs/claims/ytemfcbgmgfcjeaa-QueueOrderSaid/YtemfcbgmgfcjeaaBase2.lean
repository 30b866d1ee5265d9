/- The program and its functions under plain names, for this seat's walks. Conditions: none. -/
import Derived.Test.YtemfcbgmgfcjeaaProg
import Derived.Test.YtemfcbgmgfcjeaaSym
namespace Go.Proofs.Ytemfcbgmgfcjeaa.Fl
noncomputable def P0 : Program := Try.prog
theorem mixed : P0.follows .mixedOrders = true := by kernel_rfl
def bodyOf (fn : Func) : Code :=
  match fn.body with
  | some c => c
  | none => .skip
noncomputable def F2 : Func := Try.f2
noncomputable def B2 : Code := bodyOf F2
noncomputable def F3 : Func := Try.f3
noncomputable def B3 : Code := bodyOf F3
noncomputable def F4 : Func := Try.f4
noncomputable def B4 : Code := bodyOf F4
noncomputable def F5 : Func := Try.f5
noncomputable def B5 : Code := bodyOf F5
noncomputable def F6 : Func := Try.f6
noncomputable def B6 : Code := bodyOf F6
noncomputable def F7 : Func := Try.f7
noncomputable def B7 : Code := bodyOf F7
noncomputable def F8 : Func := Try.f8
noncomputable def B8 : Code := bodyOf F8
noncomputable def F9 : Func := Try.f9
noncomputable def B9 : Code := bodyOf F9
noncomputable def F10 : Func := Try.f10
noncomputable def B10 : Code := bodyOf F10
noncomputable def F11 : Func := Try.f11
noncomputable def B11 : Code := bodyOf F11
noncomputable def F12 : Func := Try.f12
noncomputable def B12 : Code := bodyOf F12
noncomputable def F13 : Func := Try.f13
noncomputable def B13 : Code := bodyOf F13
noncomputable def F14 : Func := Try.f14
noncomputable def B14 : Code := bodyOf F14
noncomputable def F15 : Func := Try.f15
noncomputable def B15 : Code := bodyOf F15
noncomputable def F16 : Func := Try.f16
noncomputable def B16 : Code := bodyOf F16
noncomputable def F17 : Func := Try.f17
noncomputable def B17 : Code := bodyOf F17
noncomputable def F18 : Func := Try.f18
noncomputable def B18 : Code := bodyOf F18
noncomputable def F19 : Func := Try.f19
noncomputable def B19 : Code := bodyOf F19
noncomputable def F20 : Func := Try.f20
noncomputable def B20 : Code := bodyOf F20
noncomputable def F21 : Func := Try.f21
noncomputable def B21 : Code := bodyOf F21
noncomputable def F22 : Func := Try.f22
noncomputable def B22 : Code := bodyOf F22
noncomputable def F23 : Func := Try.f23
noncomputable def B23 : Code := bodyOf F23
noncomputable def F40 : Func := Try.f40
noncomputable def B40 : Code := bodyOf F40
noncomputable def F41 : Func := Try.f41
noncomputable def B41 : Code := bodyOf F41
noncomputable def F42 : Func := Try.f42
noncomputable def B42 : Code := bodyOf F42
noncomputable def F43 : Func := Try.f43
noncomputable def B43 : Code := bodyOf F43

end Go.Proofs.Ytemfcbgmgfcjeaa.Fl
