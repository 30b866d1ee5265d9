/-
  DERIVED. GIVEN WITH THE SEED: THE CARDS: each row of YtemfcbgmgfcjeaaDoorRows.lean that lists a variable, with what it lists TIED to the program's text (the seventh form; the later family's looks); each row that meets fmt, with fmt's text TOLD by the authors' own Lean function (tested against real Go, not proved from fmt's source: count such statements apart). THE CARD IS WHAT COUNTS. Prove the row's statement (the work); the ties are given (YtemfcbgmgfcjeaaDoorTie.lean); close each card by the builder's one call (the guide's Derived/Test/ToyasCard.lean, 'card_holds'). Laid BY PROGRAM, IN A SANDBOX (cutbox-door.mjs). By AI agents, Wed Nov 11 2026. No macro, syntax, notation, axiom, sorry.
-/
import Derived.Test.YtemfcbgmgfcjeaaDoorRows
import GoSem.ClaimSeven
namespace Go.Proofs.YtemfcbgmgfcjeaaDoor
namespace Rows

/-- THE TIED CARD OF 'flotsamlaw27.ReportGets'. -/
def reportGetsCard : Claim7 := { stood := { row := reportGetsRow, standIns := [], harness := (true, "7cfccfaaf82e7e2e6364fd1543734e2387644d65a1c4c3fdd1bd9de240f6dc2e"), looks := false }, kinds := [], alts := [], laidByText := true, laidKinds := [.data, .data, .data, .data, .data, .pinned], laidTests := true, laidLooks := .later }
def ReportGetsCardSaid : Prop := Claim7.holds Tryd.pinned (.plain (OpenSpec.ofChange reportGetsSpec)) reportGetsCard

/-- THE TIED CARD OF 'flotsamlaw27.ReportParts'. -/
def reportPartsCard : Claim7 := { stood := { row := reportPartsRow, standIns := [], harness := (true, "7cfccfaaf82e7e2e6364fd1543734e2387644d65a1c4c3fdd1bd9de240f6dc2e"), looks := false }, kinds := [], alts := [], laidByText := true, laidKinds := [.data, .data, .data, .data, .data, .pinned], laidTests := true, laidLooks := .later }
def ReportPartsCardSaid : Prop := Claim7.holds Tryd.pinned (.plain (OpenSpec.ofChange reportPartsSpec)) reportPartsCard

/-- THE TIED CARD OF 'flotsamlaw27.ReportCuts'. -/
def reportCutsCard : Claim7 := { stood := { row := reportCutsRow, standIns := [], harness := (true, "7cfccfaaf82e7e2e6364fd1543734e2387644d65a1c4c3fdd1bd9de240f6dc2e"), looks := false }, kinds := [], alts := [], laidByText := true, laidKinds := [.data, .data, .data, .data, .data, .pinned], laidTests := true, laidLooks := .later }
def ReportCutsCardSaid : Prop := Claim7.holds Tryd.pinned (.plain (OpenSpec.ofChange reportCutsSpec)) reportCutsCard

/-- THE SECOND FORM's CARD OF 'flotsamlaw27.ReportGets'. -/
def reportGetsUptoCard : Claim7 := { stood := { row := reportGetsUptoRow, standIns := [], harness := (true, "7cfccfaaf82e7e2e6364fd1543734e2387644d65a1c4c3fdd1bd9de240f6dc2e"), looks := false }, kinds := [], alts := [], laidByText := true, laidKinds := [.data, .data, .data, .data, .data, .pinned], laidTests := true, laidLooks := .later }
def ReportGetsUptoCardSaid : Prop := Claim7.holds Tryd.pinned (.plain (OpenSpec.upto reportGetsSpec)) reportGetsUptoCard

/-- THE SECOND FORM's CARD OF 'flotsamlaw27.ReportParts'. -/
def reportPartsUptoCard : Claim7 := { stood := { row := reportPartsUptoRow, standIns := [], harness := (true, "7cfccfaaf82e7e2e6364fd1543734e2387644d65a1c4c3fdd1bd9de240f6dc2e"), looks := false }, kinds := [], alts := [], laidByText := true, laidKinds := [.data, .data, .data, .data, .data, .pinned], laidTests := true, laidLooks := .later }
def ReportPartsUptoCardSaid : Prop := Claim7.holds Tryd.pinned (.plain (OpenSpec.upto reportPartsSpec)) reportPartsUptoCard

/-- THE SECOND FORM's CARD OF 'flotsamlaw27.ReportCuts'. -/
def reportCutsUptoCard : Claim7 := { stood := { row := reportCutsUptoRow, standIns := [], harness := (true, "7cfccfaaf82e7e2e6364fd1543734e2387644d65a1c4c3fdd1bd9de240f6dc2e"), looks := false }, kinds := [], alts := [], laidByText := true, laidKinds := [.data, .data, .data, .data, .data, .pinned], laidTests := true, laidLooks := .later }
def ReportCutsUptoCardSaid : Prop := Claim7.holds Tryd.pinned (.plain (OpenSpec.upto reportCutsSpec)) reportCutsUptoCard
end Rows
end Go.Proofs.YtemfcbgmgfcjeaaDoor
