/- The program and its functions under plain names, for this seat's walks. Conditions: none. -/
import Derived.Test.YtomkbgobmafhjaaDoorProg
import Derived.Test.YtomkbgobmafhjaaDoorSym
namespace Go.Proofs.YtomkbgobmafhjaaDoor.Fl
noncomputable def P0 : Program := Tryd.prog
theorem mixed : P0.follows .mixedOrders = true := by kernel_rfl
def bodyOf (fn : Func) : Code :=
  match fn.body with
  | some c => c
  | none => .skip
noncomputable def F3 : Func := Tryd.f3
noncomputable def B3 : Code := bodyOf F3
noncomputable def F4 : Func := Tryd.f4
noncomputable def B4 : Code := bodyOf F4
noncomputable def F5 : Func := Tryd.f5
noncomputable def B5 : Code := bodyOf F5
noncomputable def F6 : Func := Tryd.f6
noncomputable def B6 : Code := bodyOf F6
noncomputable def F7 : Func := Tryd.f7
noncomputable def B7 : Code := bodyOf F7
noncomputable def F8 : Func := Tryd.f8
noncomputable def B8 : Code := bodyOf F8
noncomputable def F9 : Func := Tryd.f9
noncomputable def B9 : Code := bodyOf F9
noncomputable def F10 : Func := Tryd.f10
noncomputable def B10 : Code := bodyOf F10
noncomputable def F11 : Func := Tryd.f11
noncomputable def B11 : Code := bodyOf F11
noncomputable def F12 : Func := Tryd.f12
noncomputable def B12 : Code := bodyOf F12
noncomputable def F13 : Func := Tryd.f13
noncomputable def B13 : Code := bodyOf F13
noncomputable def F14 : Func := Tryd.f14
noncomputable def B14 : Code := bodyOf F14
noncomputable def F15 : Func := Tryd.f15
noncomputable def B15 : Code := bodyOf F15
noncomputable def F16 : Func := Tryd.f16
noncomputable def B16 : Code := bodyOf F16
noncomputable def F17 : Func := Tryd.f17
noncomputable def B17 : Code := bodyOf F17
noncomputable def F18 : Func := Tryd.f18
noncomputable def B18 : Code := bodyOf F18
noncomputable def F19 : Func := Tryd.f19
noncomputable def B19 : Code := bodyOf F19
noncomputable def F20 : Func := Tryd.f20
noncomputable def B20 : Code := bodyOf F20
noncomputable def F21 : Func := Tryd.f21
noncomputable def B21 : Code := bodyOf F21
noncomputable def F22 : Func := Tryd.f22
noncomputable def B22 : Code := bodyOf F22
noncomputable def F23 : Func := Tryd.f23
noncomputable def B23 : Code := bodyOf F23
noncomputable def F24 : Func := Tryd.f24
noncomputable def B24 : Code := bodyOf F24

end Go.Proofs.YtomkbgobmafhjaaDoor.Fl
