/-
  DERIVED. GIVEN WITH THE SEED: THE CARDS: each row of YthadoehgmdageaaDoorRows.lean that lists a variable, with what it lists TIED to the program's text (the seventh form; the later family's looks); each row that meets fmt, with fmt's text TOLD by the authors' own Lean function (tested against real Go, not proved from fmt's source: count such statements apart). THE CARD IS WHAT COUNTS. Prove the row's statement (the work); the ties are given (YthadoehgmdageaaDoorTie.lean); close each card by the builder's one call (the guide's Derived/Test/ToyasCard.lean, 'card_holds'). Laid BY PROGRAM, IN A SANDBOX (cutbox-door.mjs). By AI agents, Wed Nov 11 2026. No macro, syntax, notation, axiom, sorry.
-/
import Derived.Test.YthadoehgmdageaaDoorRows
import GoSem.ClaimSeven
namespace Go.Proofs.YthadoehgmdageaaDoor
namespace Rows

/-- THE TIED CARD OF 'flotsamlaw09.SoundChecks'. -/
def soundChecksCard : Claim7 := { stood := { row := soundChecksRow, standIns := [], harness := (true, "b71d9c27a41e6640cf01659349255da73907b3ecb65240ac5ab6ea3772b16fe8"), looks := false }, kinds := [], alts := [], laidByText := true, laidKinds := [.data], laidTests := true, laidLooks := .later }
def SoundChecksCardSaid : Prop := Claim7.holds Tryd.pinned (.plain (OpenSpec.ofChange soundChecksSpec)) soundChecksCard

/-- THE TIED CARD OF 'flotsamlaw09.SoundApart'. -/
def soundApartCard : Claim7 := { stood := { row := soundApartRow, standIns := [], harness := (true, "b71d9c27a41e6640cf01659349255da73907b3ecb65240ac5ab6ea3772b16fe8"), looks := false }, kinds := [], alts := [], laidByText := true, laidKinds := [.data], laidTests := true, laidLooks := .later }
def SoundApartCardSaid : Prop := Claim7.holds Tryd.pinned (.plain (OpenSpec.ofChange soundApartSpec)) soundApartCard

/-- THE TIED CARD OF 'flotsamlaw09.SoundSpoilt'. -/
def soundSpoiltCard : Claim7 := { stood := { row := soundSpoiltRow, standIns := [], harness := (true, "b71d9c27a41e6640cf01659349255da73907b3ecb65240ac5ab6ea3772b16fe8"), looks := false }, kinds := [], alts := [], laidByText := true, laidKinds := [.data], laidTests := true, laidLooks := .later }
def SoundSpoiltCardSaid : Prop := Claim7.holds Tryd.pinned (.plain (OpenSpec.ofChange soundSpoiltSpec)) soundSpoiltCard

/-- THE TIED CARD OF 'flotsamlaw09.SoundStays'. -/
def soundStaysCard : Claim7 := { stood := { row := soundStaysRow, standIns := [], harness := (true, "b71d9c27a41e6640cf01659349255da73907b3ecb65240ac5ab6ea3772b16fe8"), looks := false }, kinds := [], alts := [], laidByText := true, laidKinds := [.data], laidTests := true, laidLooks := .later }
def SoundStaysCardSaid : Prop := Claim7.holds Tryd.pinned (.plain (OpenSpec.ofChange soundStaysSpec)) soundStaysCard

/-- THE TIED CARD OF 'flotsamlaw12.SweepFrees'. -/
def sweepFreesCard : Claim7 := { stood := { row := sweepFreesRow, standIns := [], harness := (true, "b71d9c27a41e6640cf01659349255da73907b3ecb65240ac5ab6ea3772b16fe8"), looks := false }, kinds := [], alts := [], laidByText := true, laidKinds := [.data], laidTests := true, laidLooks := .later }
def SweepFreesCardSaid : Prop := Claim7.holds Tryd.pinned (.plain (OpenSpec.ofChange sweepFreesSpec)) sweepFreesCard

/-- THE TIED CARD OF 'flotsamlaw12.SweepSteps'. -/
def sweepStepsCard : Claim7 := { stood := { row := sweepStepsRow, standIns := [], harness := (true, "b71d9c27a41e6640cf01659349255da73907b3ecb65240ac5ab6ea3772b16fe8"), looks := false }, kinds := [], alts := [], laidByText := true, laidKinds := [.data], laidTests := true, laidLooks := .later }
def SweepStepsCardSaid : Prop := Claim7.holds Tryd.pinned (.plain (OpenSpec.ofChange sweepStepsSpec)) sweepStepsCard

/-- THE TIED CARD OF 'flotsamlaw12.SweepOnce'. -/
def sweepOnceCard : Claim7 := { stood := { row := sweepOnceRow, standIns := [], harness := (true, "b71d9c27a41e6640cf01659349255da73907b3ecb65240ac5ab6ea3772b16fe8"), looks := false }, kinds := [], alts := [], laidByText := true, laidKinds := [.data], laidTests := true, laidLooks := .later }
def SweepOnceCardSaid : Prop := Claim7.holds Tryd.pinned (.plain (OpenSpec.ofChange sweepOnceSpec)) sweepOnceCard

/-- THE TIED CARD OF 'flotsamlaw12.SweepPages'. -/
def sweepPagesCard : Claim7 := { stood := { row := sweepPagesRow, standIns := [], harness := (true, "b71d9c27a41e6640cf01659349255da73907b3ecb65240ac5ab6ea3772b16fe8"), looks := false }, kinds := [], alts := [], laidByText := true, laidKinds := [.data], laidTests := true, laidLooks := .later }
def SweepPagesCardSaid : Prop := Claim7.holds Tryd.pinned (.plain (OpenSpec.ofChange sweepPagesSpec)) sweepPagesCard

/-- THE SECOND FORM's CARD OF 'flotsamlaw09.SoundChecks'. -/
def soundChecksUptoCard : Claim7 := { stood := { row := soundChecksUptoRow, standIns := [], harness := (true, "b71d9c27a41e6640cf01659349255da73907b3ecb65240ac5ab6ea3772b16fe8"), looks := false }, kinds := [], alts := [], laidByText := true, laidKinds := [.data], laidTests := true, laidLooks := .later }
def SoundChecksUptoCardSaid : Prop := Claim7.holds Tryd.pinned (.plain (OpenSpec.upto soundChecksSpec)) soundChecksUptoCard

/-- THE SECOND FORM's CARD OF 'flotsamlaw09.SoundApart'. -/
def soundApartUptoCard : Claim7 := { stood := { row := soundApartUptoRow, standIns := [], harness := (true, "b71d9c27a41e6640cf01659349255da73907b3ecb65240ac5ab6ea3772b16fe8"), looks := false }, kinds := [], alts := [], laidByText := true, laidKinds := [.data], laidTests := true, laidLooks := .later }
def SoundApartUptoCardSaid : Prop := Claim7.holds Tryd.pinned (.plain (OpenSpec.upto soundApartSpec)) soundApartUptoCard

/-- THE SECOND FORM's CARD OF 'flotsamlaw09.SoundSpoilt'. -/
def soundSpoiltUptoCard : Claim7 := { stood := { row := soundSpoiltUptoRow, standIns := [], harness := (true, "b71d9c27a41e6640cf01659349255da73907b3ecb65240ac5ab6ea3772b16fe8"), looks := false }, kinds := [], alts := [], laidByText := true, laidKinds := [.data], laidTests := true, laidLooks := .later }
def SoundSpoiltUptoCardSaid : Prop := Claim7.holds Tryd.pinned (.plain (OpenSpec.upto soundSpoiltSpec)) soundSpoiltUptoCard

/-- THE SECOND FORM's CARD OF 'flotsamlaw09.SoundStays'. -/
def soundStaysUptoCard : Claim7 := { stood := { row := soundStaysUptoRow, standIns := [], harness := (true, "b71d9c27a41e6640cf01659349255da73907b3ecb65240ac5ab6ea3772b16fe8"), looks := false }, kinds := [], alts := [], laidByText := true, laidKinds := [.data], laidTests := true, laidLooks := .later }
def SoundStaysUptoCardSaid : Prop := Claim7.holds Tryd.pinned (.plain (OpenSpec.upto soundStaysSpec)) soundStaysUptoCard

/-- THE SECOND FORM's CARD OF 'flotsamlaw12.SweepFrees'. -/
def sweepFreesUptoCard : Claim7 := { stood := { row := sweepFreesUptoRow, standIns := [], harness := (true, "b71d9c27a41e6640cf01659349255da73907b3ecb65240ac5ab6ea3772b16fe8"), looks := false }, kinds := [], alts := [], laidByText := true, laidKinds := [.data], laidTests := true, laidLooks := .later }
def SweepFreesUptoCardSaid : Prop := Claim7.holds Tryd.pinned (.plain (OpenSpec.upto sweepFreesSpec)) sweepFreesUptoCard

/-- THE SECOND FORM's CARD OF 'flotsamlaw12.SweepSteps'. -/
def sweepStepsUptoCard : Claim7 := { stood := { row := sweepStepsUptoRow, standIns := [], harness := (true, "b71d9c27a41e6640cf01659349255da73907b3ecb65240ac5ab6ea3772b16fe8"), looks := false }, kinds := [], alts := [], laidByText := true, laidKinds := [.data], laidTests := true, laidLooks := .later }
def SweepStepsUptoCardSaid : Prop := Claim7.holds Tryd.pinned (.plain (OpenSpec.upto sweepStepsSpec)) sweepStepsUptoCard

/-- THE SECOND FORM's CARD OF 'flotsamlaw12.SweepOnce'. -/
def sweepOnceUptoCard : Claim7 := { stood := { row := sweepOnceUptoRow, standIns := [], harness := (true, "b71d9c27a41e6640cf01659349255da73907b3ecb65240ac5ab6ea3772b16fe8"), looks := false }, kinds := [], alts := [], laidByText := true, laidKinds := [.data], laidTests := true, laidLooks := .later }
def SweepOnceUptoCardSaid : Prop := Claim7.holds Tryd.pinned (.plain (OpenSpec.upto sweepOnceSpec)) sweepOnceUptoCard

/-- THE SECOND FORM's CARD OF 'flotsamlaw12.SweepPages'. -/
def sweepPagesUptoCard : Claim7 := { stood := { row := sweepPagesUptoRow, standIns := [], harness := (true, "b71d9c27a41e6640cf01659349255da73907b3ecb65240ac5ab6ea3772b16fe8"), looks := false }, kinds := [], alts := [], laidByText := true, laidKinds := [.data], laidTests := true, laidLooks := .later }
def SweepPagesUptoCardSaid : Prop := Claim7.holds Tryd.pinned (.plain (OpenSpec.upto sweepPagesSpec)) sweepPagesUptoCard
end Rows
end Go.Proofs.YthadoehgmdageaaDoor
