/- The program and its functions under plain names, for this seat's walks. Conditions: none. -/
import Derived.Test.YtnpbnkfmajokfaaProg
import Derived.Test.YtnpbnkfmajokfaaCore
namespace Go.Proofs.Ytnpbnkfmajokfaa.Fl
noncomputable def P0 : Program := Try.prog
theorem mixed : P0.follows .mixedOrders = true := by kernel_rfl
def bodyOf (fn : Func) : Code :=
  match fn.body with
  | some c => c
  | none => .skip
/-- flotsam/flotsamlaw02.HeaderPuts -/
noncomputable def F3 : Func := Try.f3
noncomputable def B3 : Code := bodyOf F3
/-- flotsam/flotsamlaw02.HeaderGets -/
noncomputable def F4 : Func := Try.f4
noncomputable def B4 : Code := bodyOf F4
/-- flotsam/flotsamlaw02.HeaderBack -/
noncomputable def F5 : Func := Try.f5
noncomputable def B5 : Code := bodyOf F5
/-- flotsam/flotsamlaw02.HeaderParts -/
noncomputable def F6 : Func := Try.f6
noncomputable def B6 : Code := bodyOf F6
/-- flotsam/flotsamlaw01.WordPuts -/
noncomputable def F7 : Func := Try.f7
noncomputable def B7 : Code := bodyOf F7
/-- flotsam/flotsamlaw01.WordGets -/
noncomputable def F8 : Func := Try.f8
noncomputable def B8 : Code := bodyOf F8
/-- flotsam/flotsamlaw01.WordBack -/
noncomputable def F9 : Func := Try.f9
noncomputable def B9 : Code := bodyOf F9
/-- flotsam/flotsamlaw01.WordKinds -/
noncomputable def F10 : Func := Try.f10
noncomputable def B10 : Code := bodyOf F10
/-- flotsam/flotsamlaw02.awake -/
noncomputable def F11 : Func := Try.f11
noncomputable def B11 : Code := bodyOf F11
/-- flotsam/header.Put -/
noncomputable def F12 : Func := Try.f12
noncomputable def B12 : Code := bodyOf F12
/-- flotsam/flotsamref02.May -/
noncomputable def F13 : Func := Try.f13
noncomputable def B13 : Code := bodyOf F13
/-- flotsam/header.May -/
noncomputable def F14 : Func := Try.f14
noncomputable def B14 : Code := bodyOf F14
/-- flotsam/flotsamref02.Put -/
noncomputable def F15 : Func := Try.f15
noncomputable def B15 : Code := bodyOf F15
/-- flotsam/header.Get -/
noncomputable def F16 : Func := Try.f16
noncomputable def B16 : Code := bodyOf F16
/-- flotsam/flotsamref02.Get -/
noncomputable def F17 : Func := Try.f17
noncomputable def B17 : Code := bodyOf F17
/-- flotsam/flotsamlaw01.awake -/
noncomputable def F18 : Func := Try.f18
noncomputable def B18 : Code := bodyOf F18
/-- flotsam/word.Put -/
noncomputable def F19 : Func := Try.f19
noncomputable def B19 : Code := bodyOf F19
/-- flotsam/flotsamref01.May -/
noncomputable def F20 : Func := Try.f20
noncomputable def B20 : Code := bodyOf F20
/-- flotsam/word.May -/
noncomputable def F21 : Func := Try.f21
noncomputable def B21 : Code := bodyOf F21
/-- flotsam/flotsamref01.Put -/
noncomputable def F22 : Func := Try.f22
noncomputable def B22 : Code := bodyOf F22
/-- flotsam/word.Get -/
noncomputable def F23 : Func := Try.f23
noncomputable def B23 : Code := bodyOf F23
/-- flotsam/flotsamref01.Get -/
noncomputable def F24 : Func := Try.f24
noncomputable def B24 : Code := bodyOf F24

end Go.Proofs.Ytnpbnkfmajokfaa.Fl
