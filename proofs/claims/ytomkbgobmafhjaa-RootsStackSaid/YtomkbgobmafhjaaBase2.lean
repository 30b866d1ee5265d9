/- The program and its functions under plain names, for this seat's walks. Conditions: none. -/
import Derived.Test.YtomkbgobmafhjaaProg
import Derived.Test.YtomkbgobmafhjaaSym
namespace Go.Proofs.Ytomkbgobmafhjaa.Fl
noncomputable def P0 : Program := Try.prog
theorem mixed : P0.follows .mixedOrders = true := by kernel_rfl
def bodyOf (fn : Func) : Code :=
  match fn.body with
  | some c => c
  | none => .skip
noncomputable def F3 : Func := Try.f3
noncomputable def B3 : Code := bodyOf F3
noncomputable def F4 : Func := Try.f4
noncomputable def B4 : Code := bodyOf F4
noncomputable def F5 : Func := Try.f5
noncomputable def B5 : Code := bodyOf F5
noncomputable def F6 : Func := Try.f6
noncomputable def B6 : Code := bodyOf F6
noncomputable def F7 : Func := Try.f7
noncomputable def B7 : Code := bodyOf F7
noncomputable def F8 : Func := Try.f8
noncomputable def B8 : Code := bodyOf F8
noncomputable def F9 : Func := Try.f9
noncomputable def B9 : Code := bodyOf F9
noncomputable def F10 : Func := Try.f10
noncomputable def B10 : Code := bodyOf F10
noncomputable def F11 : Func := Try.f11
noncomputable def B11 : Code := bodyOf F11
noncomputable def F12 : Func := Try.f12
noncomputable def B12 : Code := bodyOf F12
noncomputable def F13 : Func := Try.f13
noncomputable def B13 : Code := bodyOf F13
noncomputable def F14 : Func := Try.f14
noncomputable def B14 : Code := bodyOf F14
noncomputable def F15 : Func := Try.f15
noncomputable def B15 : Code := bodyOf F15
noncomputable def F16 : Func := Try.f16
noncomputable def B16 : Code := bodyOf F16
noncomputable def F17 : Func := Try.f17
noncomputable def B17 : Code := bodyOf F17
noncomputable def F18 : Func := Try.f18
noncomputable def B18 : Code := bodyOf F18
noncomputable def F19 : Func := Try.f19
noncomputable def B19 : Code := bodyOf F19
noncomputable def F20 : Func := Try.f20
noncomputable def B20 : Code := bodyOf F20
noncomputable def F21 : Func := Try.f21
noncomputable def B21 : Code := bodyOf F21
noncomputable def F22 : Func := Try.f22
noncomputable def B22 : Code := bodyOf F22
noncomputable def F23 : Func := Try.f23
noncomputable def B23 : Code := bodyOf F23
noncomputable def F24 : Func := Try.f24
noncomputable def B24 : Code := bodyOf F24
noncomputable def F25 : Func := Try.f25
noncomputable def B25 : Code := bodyOf F25
noncomputable def F26 : Func := Try.f26
noncomputable def B26 : Code := bodyOf F26
noncomputable def F27 : Func := Try.f27
noncomputable def B27 : Code := bodyOf F27
noncomputable def F28 : Func := Try.f28
noncomputable def B28 : Code := bodyOf F28
noncomputable def F29 : Func := Try.f29
noncomputable def B29 : Code := bodyOf F29
noncomputable def F30 : Func := Try.f30
noncomputable def B30 : Code := bodyOf F30
noncomputable def F31 : Func := Try.f31
noncomputable def B31 : Code := bodyOf F31
noncomputable def F32 : Func := Try.f32
noncomputable def B32 : Code := bodyOf F32
noncomputable def F33 : Func := Try.f33
noncomputable def B33 : Code := bodyOf F33
noncomputable def F34 : Func := Try.f34
noncomputable def B34 : Code := bodyOf F34
noncomputable def F35 : Func := Try.f35
noncomputable def B35 : Code := bodyOf F35
noncomputable def F36 : Func := Try.f36
noncomputable def B36 : Code := bodyOf F36
noncomputable def F37 : Func := Try.f37
noncomputable def B37 : Code := bodyOf F37

end Go.Proofs.Ytomkbgobmafhjaa.Fl
