/- The program and its functions under plain names, for this seat's walks. Conditions: none. -/
import Derived.Test.YtnpbnkfmajokfaaDoorProg
import Derived.Test.YtnpbnkfmajokfaaDoorSym
namespace Go.Proofs.YtnpbnkfmajokfaaDoor.Fl
noncomputable def P0 : Program := Tryd.prog
theorem mixed : P0.follows .mixedOrders = true := by kernel_rfl
def bodyOf (fn : Func) : Code :=
  match fn.body with
  | some c => c
  | none => .skip
noncomputable def F3 : Func := Tryd.f3
noncomputable def B3 : Code := bodyOf F3
noncomputable def F4 : Func := Tryd.f4
noncomputable def B4 : Code := bodyOf F4
noncomputable def F5 : Func := Tryd.f5
noncomputable def B5 : Code := bodyOf F5
noncomputable def F6 : Func := Tryd.f6
noncomputable def B6 : Code := bodyOf F6
noncomputable def F7 : Func := Tryd.f7
noncomputable def B7 : Code := bodyOf F7
noncomputable def F8 : Func := Tryd.f8
noncomputable def B8 : Code := bodyOf F8
noncomputable def F9 : Func := Tryd.f9
noncomputable def B9 : Code := bodyOf F9
noncomputable def F10 : Func := Tryd.f10
noncomputable def B10 : Code := bodyOf F10
noncomputable def F11 : Func := Tryd.f11
noncomputable def B11 : Code := bodyOf F11
noncomputable def F12 : Func := Tryd.f12
noncomputable def B12 : Code := bodyOf F12
noncomputable def F13 : Func := Tryd.f13
noncomputable def B13 : Code := bodyOf F13
noncomputable def F14 : Func := Tryd.f14
noncomputable def B14 : Code := bodyOf F14
noncomputable def F15 : Func := Tryd.f15
noncomputable def B15 : Code := bodyOf F15

end Go.Proofs.YtnpbnkfmajokfaaDoor.Fl
