/-
  DERIVED. GIVEN WITH THE SEED: THE CARDS: each row of YtnpbnkfmajokfaaDoorRows.lean that lists a variable, with what it lists TIED to the program's text (the seventh form; the later family's looks); each row that meets fmt, with fmt's text TOLD by the authors' own Lean function (tested against real Go, not proved from fmt's source: count such statements apart). THE CARD IS WHAT COUNTS. Prove the row's statement (the work); the ties are given (YtnpbnkfmajokfaaDoorTie.lean); close each card by the builder's one call (the guide's Derived/Test/ToyasCard.lean, 'card_holds'). Laid BY PROGRAM, IN A SANDBOX (cutbox-door.mjs). By AI agents, Wed Nov 11 2026. No macro, syntax, notation, axiom, sorry.
-/
import Derived.Test.YtnpbnkfmajokfaaDoorRows
import GoSem.ClaimSeven
namespace Go.Proofs.YtnpbnkfmajokfaaDoor
namespace Rows

/-- THE TIED CARD OF 'flotsamlaw04.ClassSizes'. -/
def classSizesCard : Claim7 := { stood := { row := classSizesRow, standIns := [], harness := (true, "6b0a9602597d846a36866f92ab37e807177a83a054ce2e838d76b0fd46d250aa"), looks := false }, kinds := [], alts := [], laidByText := true, laidKinds := [.data], laidTests := true, laidLooks := .later }
def ClassSizesCardSaid : Prop := Claim7.holds Tryd.pinned (.plain (OpenSpec.ofChange classSizesSpec)) classSizesCard

/-- THE TIED CARD OF 'flotsamlaw04.ClassOfs'. -/
def classOfsCard : Claim7 := { stood := { row := classOfsRow, standIns := [], harness := (true, "6b0a9602597d846a36866f92ab37e807177a83a054ce2e838d76b0fd46d250aa"), looks := false }, kinds := [], alts := [], laidByText := true, laidKinds := [.data], laidTests := true, laidLooks := .later }
def ClassOfsCardSaid : Prop := Claim7.holds Tryd.pinned (.plain (OpenSpec.ofChange classOfsSpec)) classOfsCard

/-- THE TIED CARD OF 'flotsamlaw04.ClassFits'. -/
def classFitsCard : Claim7 := { stood := { row := classFitsRow, standIns := [], harness := (true, "6b0a9602597d846a36866f92ab37e807177a83a054ce2e838d76b0fd46d250aa"), looks := false }, kinds := [], alts := [], laidByText := true, laidKinds := [.data], laidTests := true, laidLooks := .later }
def ClassFitsCardSaid : Prop := Claim7.holds Tryd.pinned (.plain (OpenSpec.ofChange classFitsSpec)) classFitsCard

/-- THE TIED CARD OF 'flotsamlaw04.ClassDoubles'. -/
def classDoublesCard : Claim7 := { stood := { row := classDoublesRow, standIns := [], harness := (true, "6b0a9602597d846a36866f92ab37e807177a83a054ce2e838d76b0fd46d250aa"), looks := false }, kinds := [], alts := [], laidByText := true, laidKinds := [.data], laidTests := true, laidLooks := .later }
def ClassDoublesCardSaid : Prop := Claim7.holds Tryd.pinned (.plain (OpenSpec.ofChange classDoublesSpec)) classDoublesCard

/-- THE SECOND FORM's CARD OF 'flotsamlaw04.ClassSizes'. -/
def classSizesUptoCard : Claim7 := { stood := { row := classSizesUptoRow, standIns := [], harness := (true, "6b0a9602597d846a36866f92ab37e807177a83a054ce2e838d76b0fd46d250aa"), looks := false }, kinds := [], alts := [], laidByText := true, laidKinds := [.data], laidTests := true, laidLooks := .later }
def ClassSizesUptoCardSaid : Prop := Claim7.holds Tryd.pinned (.plain (OpenSpec.upto classSizesSpec)) classSizesUptoCard

/-- THE SECOND FORM's CARD OF 'flotsamlaw04.ClassOfs'. -/
def classOfsUptoCard : Claim7 := { stood := { row := classOfsUptoRow, standIns := [], harness := (true, "6b0a9602597d846a36866f92ab37e807177a83a054ce2e838d76b0fd46d250aa"), looks := false }, kinds := [], alts := [], laidByText := true, laidKinds := [.data], laidTests := true, laidLooks := .later }
def ClassOfsUptoCardSaid : Prop := Claim7.holds Tryd.pinned (.plain (OpenSpec.upto classOfsSpec)) classOfsUptoCard

/-- THE SECOND FORM's CARD OF 'flotsamlaw04.ClassFits'. -/
def classFitsUptoCard : Claim7 := { stood := { row := classFitsUptoRow, standIns := [], harness := (true, "6b0a9602597d846a36866f92ab37e807177a83a054ce2e838d76b0fd46d250aa"), looks := false }, kinds := [], alts := [], laidByText := true, laidKinds := [.data], laidTests := true, laidLooks := .later }
def ClassFitsUptoCardSaid : Prop := Claim7.holds Tryd.pinned (.plain (OpenSpec.upto classFitsSpec)) classFitsUptoCard

/-- THE SECOND FORM's CARD OF 'flotsamlaw04.ClassDoubles'. -/
def classDoublesUptoCard : Claim7 := { stood := { row := classDoublesUptoRow, standIns := [], harness := (true, "6b0a9602597d846a36866f92ab37e807177a83a054ce2e838d76b0fd46d250aa"), looks := false }, kinds := [], alts := [], laidByText := true, laidKinds := [.data], laidTests := true, laidLooks := .later }
def ClassDoublesUptoCardSaid : Prop := Claim7.holds Tryd.pinned (.plain (OpenSpec.upto classDoublesSpec)) classDoublesUptoCard
end Rows
end Go.Proofs.YtnpbnkfmajokfaaDoor
