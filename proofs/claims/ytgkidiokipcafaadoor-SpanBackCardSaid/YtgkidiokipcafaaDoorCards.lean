/-
  DERIVED. GIVEN WITH THE SEED: THE CARDS: each row of YtgkidiokipcafaaDoorRows.lean that lists a variable, with what it lists TIED to the program's text (the seventh form; the later family's looks); each row that meets fmt, with fmt's text TOLD by the authors' own Lean function (tested against real Go, not proved from fmt's source: count such statements apart). THE CARD IS WHAT COUNTS. Prove the row's statement (the work); the ties are given (YtgkidiokipcafaaDoorTie.lean); close each card by the builder's one call (the guide's Derived/Test/ToyasCard.lean, 'card_holds'). Laid BY PROGRAM, IN A SANDBOX (cutbox-door.mjs). By AI agents, Wed Nov 11 2026. No macro, syntax, notation, axiom, sorry.
-/
import Derived.Test.YtgkidiokipcafaaDoorRows
import GoSem.ClaimSeven
namespace Go.Proofs.YtgkidiokipcafaaDoor
namespace Rows

/-- THE TIED CARD OF 'flotsamlaw05.ArenaNews'. -/
def arenaNewsCard : Claim7 := { stood := { row := arenaNewsRow, standIns := [], harness := (true, "8ac78f60ca734d83840b904d7c3fbdf962440b627584ee5839c9f5986008a1f9"), looks := false }, kinds := [], alts := [], laidByText := true, laidKinds := [.data], laidTests := true, laidLooks := .later }
def ArenaNewsCardSaid : Prop := Claim7.holds Tryd.pinned (.plain (OpenSpec.ofChange arenaNewsSpec)) arenaNewsCard

/-- THE TIED CARD OF 'flotsamlaw05.ArenaStores'. -/
def arenaStoresCard : Claim7 := { stood := { row := arenaStoresRow, standIns := [], harness := (true, "8ac78f60ca734d83840b904d7c3fbdf962440b627584ee5839c9f5986008a1f9"), looks := false }, kinds := [], alts := [], laidByText := true, laidKinds := [.data], laidTests := true, laidLooks := .later }
def ArenaStoresCardSaid : Prop := Claim7.holds Tryd.pinned (.plain (OpenSpec.ofChange arenaStoresSpec)) arenaStoresCard

/-- THE TIED CARD OF 'flotsamlaw05.ArenaPlaces'. -/
def arenaPlacesCard : Claim7 := { stood := { row := arenaPlacesRow, standIns := [], harness := (true, "8ac78f60ca734d83840b904d7c3fbdf962440b627584ee5839c9f5986008a1f9"), looks := false }, kinds := [], alts := [], laidByText := true, laidKinds := [.data], laidTests := true, laidLooks := .later }
def ArenaPlacesCardSaid : Prop := Claim7.holds Tryd.pinned (.plain (OpenSpec.ofChange arenaPlacesSpec)) arenaPlacesCard

/-- THE TIED CARD OF 'flotsamlaw05.ArenaHolds'. -/
def arenaHoldsCard : Claim7 := { stood := { row := arenaHoldsRow, standIns := [], harness := (true, "8ac78f60ca734d83840b904d7c3fbdf962440b627584ee5839c9f5986008a1f9"), looks := false }, kinds := [], alts := [], laidByText := true, laidKinds := [.data], laidTests := true, laidLooks := .later }
def ArenaHoldsCardSaid : Prop := Claim7.holds Tryd.pinned (.plain (OpenSpec.ofChange arenaHoldsSpec)) arenaHoldsCard

/-- THE TIED CARD OF 'flotsamlaw05.ArenaKeeps'. -/
def arenaKeepsCard : Claim7 := { stood := { row := arenaKeepsRow, standIns := [], harness := (true, "8ac78f60ca734d83840b904d7c3fbdf962440b627584ee5839c9f5986008a1f9"), looks := false }, kinds := [], alts := [], laidByText := true, laidKinds := [.data], laidTests := true, laidLooks := .later }
def ArenaKeepsCardSaid : Prop := Claim7.holds Tryd.pinned (.plain (OpenSpec.ofChange arenaKeepsSpec)) arenaKeepsCard

/-- THE TIED CARD OF 'flotsamlaw05.ArenaTurned'. -/
def arenaTurnedCard : Claim7 := { stood := { row := arenaTurnedRow, standIns := [], harness := (true, "8ac78f60ca734d83840b904d7c3fbdf962440b627584ee5839c9f5986008a1f9"), looks := false }, kinds := [], alts := [], laidByText := true, laidKinds := [.data], laidTests := true, laidLooks := .later }
def ArenaTurnedCardSaid : Prop := Claim7.holds Tryd.pinned (.plain (OpenSpec.ofChange arenaTurnedSpec)) arenaTurnedCard

/-- THE TIED CARD OF 'flotsamlaw06.SpanRights'. -/
def spanRightsCard : Claim7 := { stood := { row := spanRightsRow, standIns := [], harness := (true, "8ac78f60ca734d83840b904d7c3fbdf962440b627584ee5839c9f5986008a1f9"), looks := false }, kinds := [], alts := [], laidByText := true, laidKinds := [.data, .data], laidTests := true, laidLooks := .later }
def SpanRightsCardSaid : Prop := Claim7.holds Tryd.pinned (.plain (OpenSpec.ofChange spanRightsSpec)) spanRightsCard

/-- THE TIED CARD OF 'flotsamlaw06.SpanAsks'. -/
def spanAsksCard : Claim7 := { stood := { row := spanAsksRow, standIns := [], harness := (true, "8ac78f60ca734d83840b904d7c3fbdf962440b627584ee5839c9f5986008a1f9"), looks := false }, kinds := [], alts := [], laidByText := true, laidKinds := [.data, .data], laidTests := true, laidLooks := .later }
def SpanAsksCardSaid : Prop := Claim7.holds Tryd.pinned (.plain (OpenSpec.ofChange spanAsksSpec)) spanAsksCard

/-- THE TIED CARD OF 'flotsamlaw06.SpanTakes'. -/
def spanTakesCard : Claim7 := { stood := { row := spanTakesRow, standIns := [], harness := (true, "8ac78f60ca734d83840b904d7c3fbdf962440b627584ee5839c9f5986008a1f9"), looks := false }, kinds := [], alts := [], laidByText := true, laidKinds := [.data, .data], laidTests := true, laidLooks := .later }
def SpanTakesCardSaid : Prop := Claim7.holds Tryd.pinned (.plain (OpenSpec.ofChange spanTakesSpec)) spanTakesCard

/-- THE TIED CARD OF 'flotsamlaw06.SpanBack'. -/
def spanBackCard : Claim7 := { stood := { row := spanBackRow, standIns := [], harness := (true, "8ac78f60ca734d83840b904d7c3fbdf962440b627584ee5839c9f5986008a1f9"), looks := false }, kinds := [], alts := [], laidByText := true, laidKinds := [.data, .data], laidTests := true, laidLooks := .later }
def SpanBackCardSaid : Prop := Claim7.holds Tryd.pinned (.plain (OpenSpec.ofChange spanBackSpec)) spanBackCard

/-- THE SECOND FORM's CARD OF 'flotsamlaw05.ArenaNews'. -/
def arenaNewsUptoCard : Claim7 := { stood := { row := arenaNewsUptoRow, standIns := [], harness := (true, "8ac78f60ca734d83840b904d7c3fbdf962440b627584ee5839c9f5986008a1f9"), looks := false }, kinds := [], alts := [], laidByText := true, laidKinds := [.data], laidTests := true, laidLooks := .later }
def ArenaNewsUptoCardSaid : Prop := Claim7.holds Tryd.pinned (.plain (OpenSpec.upto arenaNewsSpec)) arenaNewsUptoCard

/-- THE SECOND FORM's CARD OF 'flotsamlaw05.ArenaStores'. -/
def arenaStoresUptoCard : Claim7 := { stood := { row := arenaStoresUptoRow, standIns := [], harness := (true, "8ac78f60ca734d83840b904d7c3fbdf962440b627584ee5839c9f5986008a1f9"), looks := false }, kinds := [], alts := [], laidByText := true, laidKinds := [.data], laidTests := true, laidLooks := .later }
def ArenaStoresUptoCardSaid : Prop := Claim7.holds Tryd.pinned (.plain (OpenSpec.upto arenaStoresSpec)) arenaStoresUptoCard

/-- THE SECOND FORM's CARD OF 'flotsamlaw05.ArenaPlaces'. -/
def arenaPlacesUptoCard : Claim7 := { stood := { row := arenaPlacesUptoRow, standIns := [], harness := (true, "8ac78f60ca734d83840b904d7c3fbdf962440b627584ee5839c9f5986008a1f9"), looks := false }, kinds := [], alts := [], laidByText := true, laidKinds := [.data], laidTests := true, laidLooks := .later }
def ArenaPlacesUptoCardSaid : Prop := Claim7.holds Tryd.pinned (.plain (OpenSpec.upto arenaPlacesSpec)) arenaPlacesUptoCard

/-- THE SECOND FORM's CARD OF 'flotsamlaw05.ArenaHolds'. -/
def arenaHoldsUptoCard : Claim7 := { stood := { row := arenaHoldsUptoRow, standIns := [], harness := (true, "8ac78f60ca734d83840b904d7c3fbdf962440b627584ee5839c9f5986008a1f9"), looks := false }, kinds := [], alts := [], laidByText := true, laidKinds := [.data], laidTests := true, laidLooks := .later }
def ArenaHoldsUptoCardSaid : Prop := Claim7.holds Tryd.pinned (.plain (OpenSpec.upto arenaHoldsSpec)) arenaHoldsUptoCard

/-- THE SECOND FORM's CARD OF 'flotsamlaw05.ArenaKeeps'. -/
def arenaKeepsUptoCard : Claim7 := { stood := { row := arenaKeepsUptoRow, standIns := [], harness := (true, "8ac78f60ca734d83840b904d7c3fbdf962440b627584ee5839c9f5986008a1f9"), looks := false }, kinds := [], alts := [], laidByText := true, laidKinds := [.data], laidTests := true, laidLooks := .later }
def ArenaKeepsUptoCardSaid : Prop := Claim7.holds Tryd.pinned (.plain (OpenSpec.upto arenaKeepsSpec)) arenaKeepsUptoCard

/-- THE SECOND FORM's CARD OF 'flotsamlaw05.ArenaTurned'. -/
def arenaTurnedUptoCard : Claim7 := { stood := { row := arenaTurnedUptoRow, standIns := [], harness := (true, "8ac78f60ca734d83840b904d7c3fbdf962440b627584ee5839c9f5986008a1f9"), looks := false }, kinds := [], alts := [], laidByText := true, laidKinds := [.data], laidTests := true, laidLooks := .later }
def ArenaTurnedUptoCardSaid : Prop := Claim7.holds Tryd.pinned (.plain (OpenSpec.upto arenaTurnedSpec)) arenaTurnedUptoCard

/-- THE SECOND FORM's CARD OF 'flotsamlaw06.SpanRights'. -/
def spanRightsUptoCard : Claim7 := { stood := { row := spanRightsUptoRow, standIns := [], harness := (true, "8ac78f60ca734d83840b904d7c3fbdf962440b627584ee5839c9f5986008a1f9"), looks := false }, kinds := [], alts := [], laidByText := true, laidKinds := [.data, .data], laidTests := true, laidLooks := .later }
def SpanRightsUptoCardSaid : Prop := Claim7.holds Tryd.pinned (.plain (OpenSpec.upto spanRightsSpec)) spanRightsUptoCard

/-- THE SECOND FORM's CARD OF 'flotsamlaw06.SpanAsks'. -/
def spanAsksUptoCard : Claim7 := { stood := { row := spanAsksUptoRow, standIns := [], harness := (true, "8ac78f60ca734d83840b904d7c3fbdf962440b627584ee5839c9f5986008a1f9"), looks := false }, kinds := [], alts := [], laidByText := true, laidKinds := [.data, .data], laidTests := true, laidLooks := .later }
def SpanAsksUptoCardSaid : Prop := Claim7.holds Tryd.pinned (.plain (OpenSpec.upto spanAsksSpec)) spanAsksUptoCard

/-- THE SECOND FORM's CARD OF 'flotsamlaw06.SpanTakes'. -/
def spanTakesUptoCard : Claim7 := { stood := { row := spanTakesUptoRow, standIns := [], harness := (true, "8ac78f60ca734d83840b904d7c3fbdf962440b627584ee5839c9f5986008a1f9"), looks := false }, kinds := [], alts := [], laidByText := true, laidKinds := [.data, .data], laidTests := true, laidLooks := .later }
def SpanTakesUptoCardSaid : Prop := Claim7.holds Tryd.pinned (.plain (OpenSpec.upto spanTakesSpec)) spanTakesUptoCard

/-- THE SECOND FORM's CARD OF 'flotsamlaw06.SpanBack'. -/
def spanBackUptoCard : Claim7 := { stood := { row := spanBackUptoRow, standIns := [], harness := (true, "8ac78f60ca734d83840b904d7c3fbdf962440b627584ee5839c9f5986008a1f9"), looks := false }, kinds := [], alts := [], laidByText := true, laidKinds := [.data, .data], laidTests := true, laidLooks := .later }
def SpanBackUptoCardSaid : Prop := Claim7.holds Tryd.pinned (.plain (OpenSpec.upto spanBackSpec)) spanBackUptoCard
end Rows
end Go.Proofs.YtgkidiokipcafaaDoor
