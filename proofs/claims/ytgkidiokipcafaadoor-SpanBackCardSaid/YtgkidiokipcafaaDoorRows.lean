/-
  NARROWER THAN 'FOR EVERY INPUT', by the rows' own cells (each row's printed sentence says how): ArenaNews: laid · ArenaStores: laid · ArenaPlaces: laid · ArenaHolds: laid · ArenaKeeps: laid · ArenaTurned: laid · SpanRights: laid · SpanAsks: laid · SpanTakes: laid · SpanBack: laid.
  DERIVED. THE GIVEN ROWS OF THIS SEAT. 10 by the template 'for every input the law returns true; each argument reads behind the call as it read before'; 0 by the template 'total and deterministic' (their statements: YtgkidiokipcafaaDoorTotals.lean).
  GIVEN WITH THE SEED: the statements are not yours to turn. If you find one false, say at which input.
  Laid BY PROGRAM, IN A SANDBOX (cutbox-rows.mjs): the forced cells as the released guide's own fill.sh prints them over the translation 959a079de21cad9c… (all of the seat's roots in one cut). By AI agents, Wed Nov 11 2026. No macro, syntax, notation, axiom, sorry.
-/
import Derived.Test.YtgkidiokipcafaaDoorChecked
import GoSem.Claim
import GoSem.ClaimJoined
import GoSem.ClaimMapViews
import Derived.JoinedTies
import Derived.KernelRfl
namespace Go.Proofs.YtgkidiokipcafaaDoor
/- THE CELL 'sum', in the pinned program and in every row, IS THE sha256 OF THE DUMP (.gsa) THAT YtgkidiokipcafaaDoorProg.lean LOADS. Nothing in Lean hashes anything: it is a label: what it is worth is what the hold of that sum in a sandbox is worth. -/
noncomputable def Tryd.pinned : Pinned := { name := "ytgkidiokipcafaadoor", sum := "959a079de21cad9cee50780d5ef68947fd2464a9b4714be5a0b982e3f200246d", checked := Tryd.checked }
namespace Rows
def none {H : Type} : Left H := { results := [], args := [] }

/- WHAT THE LISTED PACKAGE-LEVEL VARIABLES READ AS WHEN THE CALL BEGINS. Each datum BY PROGRAM (the guide's laid-datum.mjs) off the statement by which the dump's own 'gosem.cut.vars' lays the variable. In a bare row this is a premise. The card (YtgkidiokipcafaaDoorCards.lean) ties it to the program's text. -/
def laid_flotsam_class_words {H : Type} : DataW H := .agg [.lit (.int .i64 2), .lit (.int .i64 4), .lit (.int .i64 8), .lit (.int .i64 16)]
def laid_math_bits_deBruijn32tab {H : Type} : DataW H := .agg [.lit (.int .u8 0), .lit (.int .u8 1), .lit (.int .u8 28), .lit (.int .u8 2), .lit (.int .u8 29), .lit (.int .u8 14), .lit (.int .u8 24), .lit (.int .u8 3), .lit (.int .u8 30), .lit (.int .u8 22), .lit (.int .u8 20), .lit (.int .u8 15), .lit (.int .u8 25), .lit (.int .u8 17), .lit (.int .u8 4), .lit (.int .u8 8), .lit (.int .u8 31), .lit (.int .u8 27), .lit (.int .u8 13), .lit (.int .u8 23), .lit (.int .u8 21), .lit (.int .u8 19), .lit (.int .u8 16), .lit (.int .u8 7), .lit (.int .u8 26), .lit (.int .u8 12), .lit (.int .u8 18), .lit (.int .u8 6), .lit (.int .u8 11), .lit (.int .u8 5), .lit (.int .u8 10), .lit (.int .u8 9)]

/-- 'flotsamlaw05.ArenaNews': WHATEVER THE INPUT: true; the input reads as it did. -/
def arenaNewsSpec : ChangeSpec := { name := "arenaNews", fn := fun _ => fun
  | [d] => { results := [.lit (.bool true)], args := [d] }
  | _ => none }
def arenaNewsRow : OpenClaim := { program := "ytgkidiokipcafaadoor", sum := "959a079de21cad9cee50780d5ef68947fd2464a9b4714be5a0b982e3f200246d", func := "flotsam/flotsamlaw05.ArenaNews", spec := "arenaNews", named := ["flotsam/class.words"], apart := false, laid := [("flotsam/class.words", laid_flotsam_class_words)] }
def ArenaNewsSaid : Prop := arenaNewsRow.holds Tryd.pinned (OpenSpec.ofChange arenaNewsSpec)

/-- ITS FALSE NEIGHBOUR: 'it returns false'. Refute it at one input. -/
def arenaNewsWrong : ChangeSpec := { name := "arenaNews", fn := fun _ => fun
  | [d] => { results := [.lit (.bool false)], args := [d] }
  | _ => none }
def ArenaNewsWrongFalsely : Prop := arenaNewsRow.holds Tryd.pinned (OpenSpec.ofChange arenaNewsWrong)

/-- 'flotsamlaw05.ArenaStores': WHATEVER THE INPUT: true; the input reads as it did. -/
def arenaStoresSpec : ChangeSpec := { name := "arenaStores", fn := fun _ => fun
  | [d1, d2, d3] => { results := [.lit (.bool true)], args := [d1, d2, d3] }
  | _ => none }
def arenaStoresRow : OpenClaim := { program := "ytgkidiokipcafaadoor", sum := "959a079de21cad9cee50780d5ef68947fd2464a9b4714be5a0b982e3f200246d", func := "flotsam/flotsamlaw05.ArenaStores", spec := "arenaStores", named := ["flotsam/class.words"], apart := false, laid := [("flotsam/class.words", laid_flotsam_class_words)] }
def ArenaStoresSaid : Prop := arenaStoresRow.holds Tryd.pinned (OpenSpec.ofChange arenaStoresSpec)

/-- ITS FALSE NEIGHBOUR: 'it returns false'. Refute it at one input. -/
def arenaStoresWrong : ChangeSpec := { name := "arenaStores", fn := fun _ => fun
  | [d1, d2, d3] => { results := [.lit (.bool false)], args := [d1, d2, d3] }
  | _ => none }
def ArenaStoresWrongFalsely : Prop := arenaStoresRow.holds Tryd.pinned (OpenSpec.ofChange arenaStoresWrong)

/-- 'flotsamlaw05.ArenaPlaces': WHATEVER THE INPUT: true; the input reads as it did. -/
def arenaPlacesSpec : ChangeSpec := { name := "arenaPlaces", fn := fun _ => fun
  | [d1, d2, d3, d4] => { results := [.lit (.bool true)], args := [d1, d2, d3, d4] }
  | _ => none }
def arenaPlacesRow : OpenClaim := { program := "ytgkidiokipcafaadoor", sum := "959a079de21cad9cee50780d5ef68947fd2464a9b4714be5a0b982e3f200246d", func := "flotsam/flotsamlaw05.ArenaPlaces", spec := "arenaPlaces", named := ["flotsam/class.words"], apart := false, laid := [("flotsam/class.words", laid_flotsam_class_words)] }
def ArenaPlacesSaid : Prop := arenaPlacesRow.holds Tryd.pinned (OpenSpec.ofChange arenaPlacesSpec)

/-- ITS FALSE NEIGHBOUR: 'it returns false'. Refute it at one input. -/
def arenaPlacesWrong : ChangeSpec := { name := "arenaPlaces", fn := fun _ => fun
  | [d1, d2, d3, d4] => { results := [.lit (.bool false)], args := [d1, d2, d3, d4] }
  | _ => none }
def ArenaPlacesWrongFalsely : Prop := arenaPlacesRow.holds Tryd.pinned (OpenSpec.ofChange arenaPlacesWrong)

/-- 'flotsamlaw05.ArenaHolds': WHATEVER THE INPUT: true; the input reads as it did. -/
def arenaHoldsSpec : ChangeSpec := { name := "arenaHolds", fn := fun _ => fun
  | [d1, d2, d3, d4, d5, d6, d7] => { results := [.lit (.bool true)], args := [d1, d2, d3, d4, d5, d6, d7] }
  | _ => none }
def arenaHoldsRow : OpenClaim := { program := "ytgkidiokipcafaadoor", sum := "959a079de21cad9cee50780d5ef68947fd2464a9b4714be5a0b982e3f200246d", func := "flotsam/flotsamlaw05.ArenaHolds", spec := "arenaHolds", named := ["flotsam/class.words"], apart := false, laid := [("flotsam/class.words", laid_flotsam_class_words)] }
def ArenaHoldsSaid : Prop := arenaHoldsRow.holds Tryd.pinned (OpenSpec.ofChange arenaHoldsSpec)

/-- ITS FALSE NEIGHBOUR: 'it returns false'. Refute it at one input. -/
def arenaHoldsWrong : ChangeSpec := { name := "arenaHolds", fn := fun _ => fun
  | [d1, d2, d3, d4, d5, d6, d7] => { results := [.lit (.bool false)], args := [d1, d2, d3, d4, d5, d6, d7] }
  | _ => none }
def ArenaHoldsWrongFalsely : Prop := arenaHoldsRow.holds Tryd.pinned (OpenSpec.ofChange arenaHoldsWrong)

/-- 'flotsamlaw05.ArenaKeeps': WHATEVER THE INPUT: true; the input reads as it did. -/
def arenaKeepsSpec : ChangeSpec := { name := "arenaKeeps", fn := fun _ => fun
  | [d1, d2, d3] => { results := [.lit (.bool true)], args := [d1, d2, d3] }
  | _ => none }
def arenaKeepsRow : OpenClaim := { program := "ytgkidiokipcafaadoor", sum := "959a079de21cad9cee50780d5ef68947fd2464a9b4714be5a0b982e3f200246d", func := "flotsam/flotsamlaw05.ArenaKeeps", spec := "arenaKeeps", named := ["flotsam/class.words"], apart := false, laid := [("flotsam/class.words", laid_flotsam_class_words)] }
def ArenaKeepsSaid : Prop := arenaKeepsRow.holds Tryd.pinned (OpenSpec.ofChange arenaKeepsSpec)

/-- ITS FALSE NEIGHBOUR: 'it returns false'. Refute it at one input. -/
def arenaKeepsWrong : ChangeSpec := { name := "arenaKeeps", fn := fun _ => fun
  | [d1, d2, d3] => { results := [.lit (.bool false)], args := [d1, d2, d3] }
  | _ => none }
def ArenaKeepsWrongFalsely : Prop := arenaKeepsRow.holds Tryd.pinned (OpenSpec.ofChange arenaKeepsWrong)

/-- 'flotsamlaw05.ArenaTurned': WHATEVER THE INPUT: true; the input reads as it did. -/
def arenaTurnedSpec : ChangeSpec := { name := "arenaTurned", fn := fun _ => fun
  | [d1, d2, d3, d4, d5] => { results := [.lit (.bool true)], args := [d1, d2, d3, d4, d5] }
  | _ => none }
def arenaTurnedRow : OpenClaim := { program := "ytgkidiokipcafaadoor", sum := "959a079de21cad9cee50780d5ef68947fd2464a9b4714be5a0b982e3f200246d", func := "flotsam/flotsamlaw05.ArenaTurned", spec := "arenaTurned", named := ["flotsam/class.words"], apart := false, laid := [("flotsam/class.words", laid_flotsam_class_words)] }
def ArenaTurnedSaid : Prop := arenaTurnedRow.holds Tryd.pinned (OpenSpec.ofChange arenaTurnedSpec)

/-- ITS FALSE NEIGHBOUR: 'it returns false'. Refute it at one input. -/
def arenaTurnedWrong : ChangeSpec := { name := "arenaTurned", fn := fun _ => fun
  | [d1, d2, d3, d4, d5] => { results := [.lit (.bool false)], args := [d1, d2, d3, d4, d5] }
  | _ => none }
def ArenaTurnedWrongFalsely : Prop := arenaTurnedRow.holds Tryd.pinned (OpenSpec.ofChange arenaTurnedWrong)

/-- 'flotsamlaw06.SpanRights': WHATEVER THE INPUT: true; the input reads as it did. -/
def spanRightsSpec : ChangeSpec := { name := "spanRights", fn := fun _ => fun
  | [d1, d2] => { results := [.lit (.bool true)], args := [d1, d2] }
  | _ => none }
def spanRightsRow : OpenClaim := { program := "ytgkidiokipcafaadoor", sum := "959a079de21cad9cee50780d5ef68947fd2464a9b4714be5a0b982e3f200246d", func := "flotsam/flotsamlaw06.SpanRights", spec := "spanRights", named := ["flotsam/class.words", "math/bits.deBruijn32tab"], apart := false, laid := [("flotsam/class.words", laid_flotsam_class_words), ("math/bits.deBruijn32tab", laid_math_bits_deBruijn32tab)] }
def SpanRightsSaid : Prop := spanRightsRow.holds Tryd.pinned (OpenSpec.ofChange spanRightsSpec)

/-- ITS FALSE NEIGHBOUR: 'it returns false'. Refute it at one input. -/
def spanRightsWrong : ChangeSpec := { name := "spanRights", fn := fun _ => fun
  | [d1, d2] => { results := [.lit (.bool false)], args := [d1, d2] }
  | _ => none }
def SpanRightsWrongFalsely : Prop := spanRightsRow.holds Tryd.pinned (OpenSpec.ofChange spanRightsWrong)

/-- 'flotsamlaw06.SpanAsks': WHATEVER THE INPUT: true; the input reads as it did. -/
def spanAsksSpec : ChangeSpec := { name := "spanAsks", fn := fun _ => fun
  | [d1, d2] => { results := [.lit (.bool true)], args := [d1, d2] }
  | _ => none }
def spanAsksRow : OpenClaim := { program := "ytgkidiokipcafaadoor", sum := "959a079de21cad9cee50780d5ef68947fd2464a9b4714be5a0b982e3f200246d", func := "flotsam/flotsamlaw06.SpanAsks", spec := "spanAsks", named := ["flotsam/class.words", "math/bits.deBruijn32tab"], apart := false, laid := [("flotsam/class.words", laid_flotsam_class_words), ("math/bits.deBruijn32tab", laid_math_bits_deBruijn32tab)] }
def SpanAsksSaid : Prop := spanAsksRow.holds Tryd.pinned (OpenSpec.ofChange spanAsksSpec)

/-- ITS FALSE NEIGHBOUR: 'it returns false'. Refute it at one input. -/
def spanAsksWrong : ChangeSpec := { name := "spanAsks", fn := fun _ => fun
  | [d1, d2] => { results := [.lit (.bool false)], args := [d1, d2] }
  | _ => none }
def SpanAsksWrongFalsely : Prop := spanAsksRow.holds Tryd.pinned (OpenSpec.ofChange spanAsksWrong)

/-- 'flotsamlaw06.SpanTakes': WHATEVER THE INPUT: true; the input reads as it did. -/
def spanTakesSpec : ChangeSpec := { name := "spanTakes", fn := fun _ => fun
  | [d1, d2] => { results := [.lit (.bool true)], args := [d1, d2] }
  | _ => none }
def spanTakesRow : OpenClaim := { program := "ytgkidiokipcafaadoor", sum := "959a079de21cad9cee50780d5ef68947fd2464a9b4714be5a0b982e3f200246d", func := "flotsam/flotsamlaw06.SpanTakes", spec := "spanTakes", named := ["flotsam/class.words", "math/bits.deBruijn32tab"], apart := false, laid := [("flotsam/class.words", laid_flotsam_class_words), ("math/bits.deBruijn32tab", laid_math_bits_deBruijn32tab)] }
def SpanTakesSaid : Prop := spanTakesRow.holds Tryd.pinned (OpenSpec.ofChange spanTakesSpec)

/-- ITS FALSE NEIGHBOUR: 'it returns false'. Refute it at one input. -/
def spanTakesWrong : ChangeSpec := { name := "spanTakes", fn := fun _ => fun
  | [d1, d2] => { results := [.lit (.bool false)], args := [d1, d2] }
  | _ => none }
def SpanTakesWrongFalsely : Prop := spanTakesRow.holds Tryd.pinned (OpenSpec.ofChange spanTakesWrong)

/-- 'flotsamlaw06.SpanBack': WHATEVER THE INPUT: true; the input reads as it did. -/
def spanBackSpec : ChangeSpec := { name := "spanBack", fn := fun _ => fun
  | [d1, d2, d3] => { results := [.lit (.bool true)], args := [d1, d2, d3] }
  | _ => none }
def spanBackRow : OpenClaim := { program := "ytgkidiokipcafaadoor", sum := "959a079de21cad9cee50780d5ef68947fd2464a9b4714be5a0b982e3f200246d", func := "flotsam/flotsamlaw06.SpanBack", spec := "spanBack", named := ["flotsam/class.words", "math/bits.deBruijn32tab"], apart := false, laid := [("flotsam/class.words", laid_flotsam_class_words), ("math/bits.deBruijn32tab", laid_math_bits_deBruijn32tab)] }
def SpanBackSaid : Prop := spanBackRow.holds Tryd.pinned (OpenSpec.ofChange spanBackSpec)

/-- ITS FALSE NEIGHBOUR: 'it returns false'. Refute it at one input. -/
def spanBackWrong : ChangeSpec := { name := "spanBack", fn := fun _ => fun
  | [d1, d2, d3] => { results := [.lit (.bool false)], args := [d1, d2, d3] }
  | _ => none }
def SpanBackWrongFalsely : Prop := spanBackRow.holds Tryd.pinned (OpenSpec.ofChange spanBackWrong)

/- THE SECOND FORM. 'bulk': how many values and letters a reading holds, each counted each time it is reached (what is shared counts as often as it is met; a slice's spare places count too). A statement '..UptoSaid' is the law's where the arguments, and the package variables that the reading takes, are together of bulk at most 1048576: NARROWER than '..Said'. Prove '..Said' where nothing that the law and all that it calls make is longer than what came in: it says more and counts as full. Else prove '..UptoSaid'. A law counts once. -/
mutual
def uptoBulk {H : Type} : DataW H → Nat
  | .lit (.string bytes) => bytes.length + 1
  | .lit _ => 1
  | .nil => 1
  | .ptr d => uptoBulk d + 1
  | .slice elems spare => uptoBulkAll elems + uptoBulkAll spare + 1
  | .agg parts => uptoBulkAll parts + 1
  | .iface _ d => uptoBulk d + 1
  | .map entries => uptoBulkEntries entries + 1
  | .held _ => 1
def uptoBulkAll {H : Type} : List (DataW H) → Nat
  | [] => 0
  | d :: r => uptoBulk d + uptoBulkAll r
def uptoBulkEntries {H : Type} : List (Lit × DataW H) → Nat
  | [] => 0
  | x :: r => uptoBulkEntry x + uptoBulkEntries r
def uptoBulkEntry {H : Type} : Lit × DataW H → Nat
  | (.string bytes, d) => bytes.length + uptoBulk d + 1
  | (_, d) => uptoBulk d + 1
 end
def uptoSmall : (H : Type) → List (DataW H) → Bool := fun _ ds => decide (uptoBulkAll ds ≤ 1048576)
def OpenSpec.upto (s : _root_.Go.ChangeSpec) : _root_.Go.OpenSpec := { _root_.Go.OpenSpec.ofChange s with cond := some uptoSmall }

/-- 'flotsamlaw05.ArenaNews', WHERE WHAT IT READS IS OF BULK AT MOST 1048576: true; the input reads as it did. -/
def arenaNewsUptoRow : OpenClaim := { program := "ytgkidiokipcafaadoor", sum := "959a079de21cad9cee50780d5ef68947fd2464a9b4714be5a0b982e3f200246d", func := "flotsam/flotsamlaw05.ArenaNews", spec := "arenaNews", named := ["flotsam/class.words"], apart := false, laid := [("flotsam/class.words", laid_flotsam_class_words)], narrowed := true }
def ArenaNewsUptoSaid : Prop := arenaNewsUptoRow.holds Tryd.pinned (OpenSpec.upto arenaNewsSpec)

/-- 'flotsamlaw05.ArenaStores', WHERE WHAT IT READS IS OF BULK AT MOST 1048576: true; the input reads as it did. -/
def arenaStoresUptoRow : OpenClaim := { program := "ytgkidiokipcafaadoor", sum := "959a079de21cad9cee50780d5ef68947fd2464a9b4714be5a0b982e3f200246d", func := "flotsam/flotsamlaw05.ArenaStores", spec := "arenaStores", named := ["flotsam/class.words"], apart := false, laid := [("flotsam/class.words", laid_flotsam_class_words)], narrowed := true }
def ArenaStoresUptoSaid : Prop := arenaStoresUptoRow.holds Tryd.pinned (OpenSpec.upto arenaStoresSpec)

/-- 'flotsamlaw05.ArenaPlaces', WHERE WHAT IT READS IS OF BULK AT MOST 1048576: true; the input reads as it did. -/
def arenaPlacesUptoRow : OpenClaim := { program := "ytgkidiokipcafaadoor", sum := "959a079de21cad9cee50780d5ef68947fd2464a9b4714be5a0b982e3f200246d", func := "flotsam/flotsamlaw05.ArenaPlaces", spec := "arenaPlaces", named := ["flotsam/class.words"], apart := false, laid := [("flotsam/class.words", laid_flotsam_class_words)], narrowed := true }
def ArenaPlacesUptoSaid : Prop := arenaPlacesUptoRow.holds Tryd.pinned (OpenSpec.upto arenaPlacesSpec)

/-- 'flotsamlaw05.ArenaHolds', WHERE WHAT IT READS IS OF BULK AT MOST 1048576: true; the input reads as it did. -/
def arenaHoldsUptoRow : OpenClaim := { program := "ytgkidiokipcafaadoor", sum := "959a079de21cad9cee50780d5ef68947fd2464a9b4714be5a0b982e3f200246d", func := "flotsam/flotsamlaw05.ArenaHolds", spec := "arenaHolds", named := ["flotsam/class.words"], apart := false, laid := [("flotsam/class.words", laid_flotsam_class_words)], narrowed := true }
def ArenaHoldsUptoSaid : Prop := arenaHoldsUptoRow.holds Tryd.pinned (OpenSpec.upto arenaHoldsSpec)

/-- 'flotsamlaw05.ArenaKeeps', WHERE WHAT IT READS IS OF BULK AT MOST 1048576: true; the input reads as it did. -/
def arenaKeepsUptoRow : OpenClaim := { program := "ytgkidiokipcafaadoor", sum := "959a079de21cad9cee50780d5ef68947fd2464a9b4714be5a0b982e3f200246d", func := "flotsam/flotsamlaw05.ArenaKeeps", spec := "arenaKeeps", named := ["flotsam/class.words"], apart := false, laid := [("flotsam/class.words", laid_flotsam_class_words)], narrowed := true }
def ArenaKeepsUptoSaid : Prop := arenaKeepsUptoRow.holds Tryd.pinned (OpenSpec.upto arenaKeepsSpec)

/-- 'flotsamlaw05.ArenaTurned', WHERE WHAT IT READS IS OF BULK AT MOST 1048576: true; the input reads as it did. -/
def arenaTurnedUptoRow : OpenClaim := { program := "ytgkidiokipcafaadoor", sum := "959a079de21cad9cee50780d5ef68947fd2464a9b4714be5a0b982e3f200246d", func := "flotsam/flotsamlaw05.ArenaTurned", spec := "arenaTurned", named := ["flotsam/class.words"], apart := false, laid := [("flotsam/class.words", laid_flotsam_class_words)], narrowed := true }
def ArenaTurnedUptoSaid : Prop := arenaTurnedUptoRow.holds Tryd.pinned (OpenSpec.upto arenaTurnedSpec)

/-- 'flotsamlaw06.SpanRights', WHERE WHAT IT READS IS OF BULK AT MOST 1048576: true; the input reads as it did. -/
def spanRightsUptoRow : OpenClaim := { program := "ytgkidiokipcafaadoor", sum := "959a079de21cad9cee50780d5ef68947fd2464a9b4714be5a0b982e3f200246d", func := "flotsam/flotsamlaw06.SpanRights", spec := "spanRights", named := ["flotsam/class.words", "math/bits.deBruijn32tab"], apart := false, laid := [("flotsam/class.words", laid_flotsam_class_words), ("math/bits.deBruijn32tab", laid_math_bits_deBruijn32tab)], narrowed := true }
def SpanRightsUptoSaid : Prop := spanRightsUptoRow.holds Tryd.pinned (OpenSpec.upto spanRightsSpec)

/-- 'flotsamlaw06.SpanAsks', WHERE WHAT IT READS IS OF BULK AT MOST 1048576: true; the input reads as it did. -/
def spanAsksUptoRow : OpenClaim := { program := "ytgkidiokipcafaadoor", sum := "959a079de21cad9cee50780d5ef68947fd2464a9b4714be5a0b982e3f200246d", func := "flotsam/flotsamlaw06.SpanAsks", spec := "spanAsks", named := ["flotsam/class.words", "math/bits.deBruijn32tab"], apart := false, laid := [("flotsam/class.words", laid_flotsam_class_words), ("math/bits.deBruijn32tab", laid_math_bits_deBruijn32tab)], narrowed := true }
def SpanAsksUptoSaid : Prop := spanAsksUptoRow.holds Tryd.pinned (OpenSpec.upto spanAsksSpec)

/-- 'flotsamlaw06.SpanTakes', WHERE WHAT IT READS IS OF BULK AT MOST 1048576: true; the input reads as it did. -/
def spanTakesUptoRow : OpenClaim := { program := "ytgkidiokipcafaadoor", sum := "959a079de21cad9cee50780d5ef68947fd2464a9b4714be5a0b982e3f200246d", func := "flotsam/flotsamlaw06.SpanTakes", spec := "spanTakes", named := ["flotsam/class.words", "math/bits.deBruijn32tab"], apart := false, laid := [("flotsam/class.words", laid_flotsam_class_words), ("math/bits.deBruijn32tab", laid_math_bits_deBruijn32tab)], narrowed := true }
def SpanTakesUptoSaid : Prop := spanTakesUptoRow.holds Tryd.pinned (OpenSpec.upto spanTakesSpec)

/-- 'flotsamlaw06.SpanBack', WHERE WHAT IT READS IS OF BULK AT MOST 1048576: true; the input reads as it did. -/
def spanBackUptoRow : OpenClaim := { program := "ytgkidiokipcafaadoor", sum := "959a079de21cad9cee50780d5ef68947fd2464a9b4714be5a0b982e3f200246d", func := "flotsam/flotsamlaw06.SpanBack", spec := "spanBack", named := ["flotsam/class.words", "math/bits.deBruijn32tab"], apart := false, laid := [("flotsam/class.words", laid_flotsam_class_words), ("math/bits.deBruijn32tab", laid_math_bits_deBruijn32tab)], narrowed := true }
def SpanBackUptoSaid : Prop := spanBackUptoRow.holds Tryd.pinned (OpenSpec.upto spanBackSpec)

end Rows
end Go.Proofs.YtgkidiokipcafaaDoor
