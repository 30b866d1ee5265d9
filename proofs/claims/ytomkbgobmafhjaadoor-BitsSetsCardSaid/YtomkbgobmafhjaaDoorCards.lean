/-
  DERIVED. GIVEN WITH THE SEED: THE CARDS: each row of YtomkbgobmafhjaaDoorRows.lean that lists a variable, with what it lists TIED to the program's text (the seventh form; the later family's looks); each row that meets fmt, with fmt's text TOLD by the authors' own Lean function (tested against real Go, not proved from fmt's source: count such statements apart). THE CARD IS WHAT COUNTS. Prove the row's statement (the work); the ties are given (YtomkbgobmafhjaaDoorTie.lean); close each card by the builder's one call (the guide's Derived/Test/ToyasCard.lean, 'card_holds'). Laid BY PROGRAM, IN A SANDBOX (cutbox-door.mjs). By AI agents, Wed Nov 11 2026. No macro, syntax, notation, axiom, sorry.
-/
import Derived.Test.YtomkbgobmafhjaaDoorRows
import GoSem.ClaimSeven
namespace Go.Proofs.YtomkbgobmafhjaaDoor
namespace Rows

/-- THE TIED CARD OF 'flotsamlaw03.BitsAsks'. -/
def bitsAsksCard : Claim7 := { stood := { row := bitsAsksRow, standIns := [], harness := (true, "d9148e9f82c587394272f2ea1a3d02d964fa50b9d87af87730fc55b11599172e"), looks := false }, kinds := [], alts := [], laidByText := true, laidKinds := [.data], laidTests := true, laidLooks := .later }
def BitsAsksCardSaid : Prop := Claim7.holds Tryd.pinned (.plain (OpenSpec.ofChange bitsAsksSpec)) bitsAsksCard

/-- THE TIED CARD OF 'flotsamlaw03.BitsCounts'. -/
def bitsCountsCard : Claim7 := { stood := { row := bitsCountsRow, standIns := [], harness := (true, "d9148e9f82c587394272f2ea1a3d02d964fa50b9d87af87730fc55b11599172e"), looks := false }, kinds := [], alts := [], laidByText := true, laidKinds := [.data], laidTests := true, laidLooks := .later }
def BitsCountsCardSaid : Prop := Claim7.holds Tryd.pinned (.plain (OpenSpec.ofChange bitsCountsSpec)) bitsCountsCard

/-- THE TIED CARD OF 'flotsamlaw03.BitsSets'. -/
def bitsSetsCard : Claim7 := { stood := { row := bitsSetsRow, standIns := [], harness := (true, "d9148e9f82c587394272f2ea1a3d02d964fa50b9d87af87730fc55b11599172e"), looks := false }, kinds := [], alts := [], laidByText := true, laidKinds := [.data], laidTests := true, laidLooks := .later }
def BitsSetsCardSaid : Prop := Claim7.holds Tryd.pinned (.plain (OpenSpec.ofChange bitsSetsSpec)) bitsSetsCard

/-- THE TIED CARD OF 'flotsamlaw03.BitsRise'. -/
def bitsRiseCard : Claim7 := { stood := { row := bitsRiseRow, standIns := [], harness := (true, "d9148e9f82c587394272f2ea1a3d02d964fa50b9d87af87730fc55b11599172e"), looks := false }, kinds := [], alts := [], laidByText := true, laidKinds := [.data], laidTests := true, laidLooks := .later }
def BitsRiseCardSaid : Prop := Claim7.holds Tryd.pinned (.plain (OpenSpec.ofChange bitsRiseSpec)) bitsRiseCard

/-- THE SECOND FORM's CARD OF 'flotsamlaw03.BitsAsks'. -/
def bitsAsksUptoCard : Claim7 := { stood := { row := bitsAsksUptoRow, standIns := [], harness := (true, "d9148e9f82c587394272f2ea1a3d02d964fa50b9d87af87730fc55b11599172e"), looks := false }, kinds := [], alts := [], laidByText := true, laidKinds := [.data], laidTests := true, laidLooks := .later }
def BitsAsksUptoCardSaid : Prop := Claim7.holds Tryd.pinned (.plain (OpenSpec.upto bitsAsksSpec)) bitsAsksUptoCard

/-- THE SECOND FORM's CARD OF 'flotsamlaw03.BitsCounts'. -/
def bitsCountsUptoCard : Claim7 := { stood := { row := bitsCountsUptoRow, standIns := [], harness := (true, "d9148e9f82c587394272f2ea1a3d02d964fa50b9d87af87730fc55b11599172e"), looks := false }, kinds := [], alts := [], laidByText := true, laidKinds := [.data], laidTests := true, laidLooks := .later }
def BitsCountsUptoCardSaid : Prop := Claim7.holds Tryd.pinned (.plain (OpenSpec.upto bitsCountsSpec)) bitsCountsUptoCard

/-- THE SECOND FORM's CARD OF 'flotsamlaw03.BitsSets'. -/
def bitsSetsUptoCard : Claim7 := { stood := { row := bitsSetsUptoRow, standIns := [], harness := (true, "d9148e9f82c587394272f2ea1a3d02d964fa50b9d87af87730fc55b11599172e"), looks := false }, kinds := [], alts := [], laidByText := true, laidKinds := [.data], laidTests := true, laidLooks := .later }
def BitsSetsUptoCardSaid : Prop := Claim7.holds Tryd.pinned (.plain (OpenSpec.upto bitsSetsSpec)) bitsSetsUptoCard

/-- THE SECOND FORM's CARD OF 'flotsamlaw03.BitsRise'. -/
def bitsRiseUptoCard : Claim7 := { stood := { row := bitsRiseUptoRow, standIns := [], harness := (true, "d9148e9f82c587394272f2ea1a3d02d964fa50b9d87af87730fc55b11599172e"), looks := false }, kinds := [], alts := [], laidByText := true, laidKinds := [.data], laidTests := true, laidLooks := .later }
def BitsRiseUptoCardSaid : Prop := Claim7.holds Tryd.pinned (.plain (OpenSpec.upto bitsRiseSpec)) bitsRiseUptoCard
end Rows
end Go.Proofs.YtomkbgobmafhjaaDoor
