/-
  No cell of these rows narrows 'for every input' (looked for: loops, veiled, ifaces, maps, wideKeys, modest, calm, conditions, laid).
  DERIVED. THE GIVEN ROWS OF THIS SEAT. 8 by the template 'for every input the law returns true; each argument reads behind the call as it read before'; 0 by the template 'total and deterministic' (their statements: YtnpbnkfmajokfaaTotals.lean).
  GIVEN WITH THE SEED: the statements are not yours to turn. If you find one false, say at which input.
  Laid BY PROGRAM, IN A SANDBOX (cutbox-rows.mjs): the forced cells as the released guide's own fill.sh prints them over the translation f86dc93be4c4a8b2… (all of the seat's roots in one cut). By AI agents, Wed Nov 11 2026. No macro, syntax, notation, axiom, sorry.
-/
import Derived.Test.YtnpbnkfmajokfaaChecked
import GoSem.Claim
import GoSem.ClaimJoined
import GoSem.ClaimMapViews
import Derived.JoinedTies
import Derived.KernelRfl
namespace Go.Proofs.Ytnpbnkfmajokfaa
/- THE CELL 'sum', in the pinned program and in every row, IS THE sha256 OF THE DUMP (.gsa) THAT YtnpbnkfmajokfaaProg.lean LOADS. Nothing in Lean hashes anything: it is a label: what it is worth is what the hold of that sum in a sandbox is worth. -/
noncomputable def Try.pinned : Pinned := { name := "ytnpbnkfmajokfaa", sum := "f86dc93be4c4a8b2226868832f9ae8fd745a0285edc67548e6ddda45949c6447", checked := Try.checked }
namespace Rows
def none {H : Type} : Left H := { results := [], args := [] }

/-- 'flotsamlaw02.HeaderPuts': WHATEVER THE INPUT: true; the input reads as it did. -/
def headerPutsSpec : ChangeSpec := { name := "headerPuts", fn := fun _ => fun
  | [d] => { results := [.lit (.bool true)], args := [d] }
  | _ => none }
def headerPutsRow : OpenClaim := { program := "ytnpbnkfmajokfaa", sum := "f86dc93be4c4a8b2226868832f9ae8fd745a0285edc67548e6ddda45949c6447", func := "flotsam/flotsamlaw02.HeaderPuts", spec := "headerPuts", apart := false }
def HeaderPutsSaid : Prop := headerPutsRow.holds Try.pinned (OpenSpec.ofChange headerPutsSpec)

/-- ITS FALSE NEIGHBOUR: 'it returns false'. Refute it at one input. -/
def headerPutsWrong : ChangeSpec := { name := "headerPuts", fn := fun _ => fun
  | [d] => { results := [.lit (.bool false)], args := [d] }
  | _ => none }
def HeaderPutsWrongFalsely : Prop := headerPutsRow.holds Try.pinned (OpenSpec.ofChange headerPutsWrong)

/-- 'flotsamlaw02.HeaderGets': WHATEVER THE INPUT: true; the input reads as it did. -/
def headerGetsSpec : ChangeSpec := { name := "headerGets", fn := fun _ => fun
  | [d] => { results := [.lit (.bool true)], args := [d] }
  | _ => none }
def headerGetsRow : OpenClaim := { program := "ytnpbnkfmajokfaa", sum := "f86dc93be4c4a8b2226868832f9ae8fd745a0285edc67548e6ddda45949c6447", func := "flotsam/flotsamlaw02.HeaderGets", spec := "headerGets", apart := false }
def HeaderGetsSaid : Prop := headerGetsRow.holds Try.pinned (OpenSpec.ofChange headerGetsSpec)

/-- ITS FALSE NEIGHBOUR: 'it returns false'. Refute it at one input. -/
def headerGetsWrong : ChangeSpec := { name := "headerGets", fn := fun _ => fun
  | [d] => { results := [.lit (.bool false)], args := [d] }
  | _ => none }
def HeaderGetsWrongFalsely : Prop := headerGetsRow.holds Try.pinned (OpenSpec.ofChange headerGetsWrong)

/-- 'flotsamlaw02.HeaderBack': WHATEVER THE INPUT: true; the input reads as it did. -/
def headerBackSpec : ChangeSpec := { name := "headerBack", fn := fun _ => fun
  | [d1, d2, d3] => { results := [.lit (.bool true)], args := [d1, d2, d3] }
  | _ => none }
def headerBackRow : OpenClaim := { program := "ytnpbnkfmajokfaa", sum := "f86dc93be4c4a8b2226868832f9ae8fd745a0285edc67548e6ddda45949c6447", func := "flotsam/flotsamlaw02.HeaderBack", spec := "headerBack", apart := false }
def HeaderBackSaid : Prop := headerBackRow.holds Try.pinned (OpenSpec.ofChange headerBackSpec)

/-- ITS FALSE NEIGHBOUR: 'it returns false'. Refute it at one input. -/
def headerBackWrong : ChangeSpec := { name := "headerBack", fn := fun _ => fun
  | [d1, d2, d3] => { results := [.lit (.bool false)], args := [d1, d2, d3] }
  | _ => none }
def HeaderBackWrongFalsely : Prop := headerBackRow.holds Try.pinned (OpenSpec.ofChange headerBackWrong)

/-- 'flotsamlaw02.HeaderParts': WHATEVER THE INPUT: true; the input reads as it did. -/
def headerPartsSpec : ChangeSpec := { name := "headerParts", fn := fun _ => fun
  | [d] => { results := [.lit (.bool true)], args := [d] }
  | _ => none }
def headerPartsRow : OpenClaim := { program := "ytnpbnkfmajokfaa", sum := "f86dc93be4c4a8b2226868832f9ae8fd745a0285edc67548e6ddda45949c6447", func := "flotsam/flotsamlaw02.HeaderParts", spec := "headerParts", apart := false }
def HeaderPartsSaid : Prop := headerPartsRow.holds Try.pinned (OpenSpec.ofChange headerPartsSpec)

/-- ITS FALSE NEIGHBOUR: 'it returns false'. Refute it at one input. -/
def headerPartsWrong : ChangeSpec := { name := "headerParts", fn := fun _ => fun
  | [d] => { results := [.lit (.bool false)], args := [d] }
  | _ => none }
def HeaderPartsWrongFalsely : Prop := headerPartsRow.holds Try.pinned (OpenSpec.ofChange headerPartsWrong)

/-- 'flotsamlaw01.WordPuts': WHATEVER THE INPUT: true; the input reads as it did. -/
def wordPutsSpec : ChangeSpec := { name := "wordPuts", fn := fun _ => fun
  | [d] => { results := [.lit (.bool true)], args := [d] }
  | _ => none }
def wordPutsRow : OpenClaim := { program := "ytnpbnkfmajokfaa", sum := "f86dc93be4c4a8b2226868832f9ae8fd745a0285edc67548e6ddda45949c6447", func := "flotsam/flotsamlaw01.WordPuts", spec := "wordPuts", apart := false }
def WordPutsSaid : Prop := wordPutsRow.holds Try.pinned (OpenSpec.ofChange wordPutsSpec)

/-- ITS FALSE NEIGHBOUR: 'it returns false'. Refute it at one input. -/
def wordPutsWrong : ChangeSpec := { name := "wordPuts", fn := fun _ => fun
  | [d] => { results := [.lit (.bool false)], args := [d] }
  | _ => none }
def WordPutsWrongFalsely : Prop := wordPutsRow.holds Try.pinned (OpenSpec.ofChange wordPutsWrong)

/-- 'flotsamlaw01.WordGets': WHATEVER THE INPUT: true; the input reads as it did. -/
def wordGetsSpec : ChangeSpec := { name := "wordGets", fn := fun _ => fun
  | [d] => { results := [.lit (.bool true)], args := [d] }
  | _ => none }
def wordGetsRow : OpenClaim := { program := "ytnpbnkfmajokfaa", sum := "f86dc93be4c4a8b2226868832f9ae8fd745a0285edc67548e6ddda45949c6447", func := "flotsam/flotsamlaw01.WordGets", spec := "wordGets", apart := false }
def WordGetsSaid : Prop := wordGetsRow.holds Try.pinned (OpenSpec.ofChange wordGetsSpec)

/-- ITS FALSE NEIGHBOUR: 'it returns false'. Refute it at one input. -/
def wordGetsWrong : ChangeSpec := { name := "wordGets", fn := fun _ => fun
  | [d] => { results := [.lit (.bool false)], args := [d] }
  | _ => none }
def WordGetsWrongFalsely : Prop := wordGetsRow.holds Try.pinned (OpenSpec.ofChange wordGetsWrong)

/-- 'flotsamlaw01.WordBack': WHATEVER THE INPUT: true; the input reads as it did. -/
def wordBackSpec : ChangeSpec := { name := "wordBack", fn := fun _ => fun
  | [d1, d2, d3] => { results := [.lit (.bool true)], args := [d1, d2, d3] }
  | _ => none }
def wordBackRow : OpenClaim := { program := "ytnpbnkfmajokfaa", sum := "f86dc93be4c4a8b2226868832f9ae8fd745a0285edc67548e6ddda45949c6447", func := "flotsam/flotsamlaw01.WordBack", spec := "wordBack", apart := false }
def WordBackSaid : Prop := wordBackRow.holds Try.pinned (OpenSpec.ofChange wordBackSpec)

/-- ITS FALSE NEIGHBOUR: 'it returns false'. Refute it at one input. -/
def wordBackWrong : ChangeSpec := { name := "wordBack", fn := fun _ => fun
  | [d1, d2, d3] => { results := [.lit (.bool false)], args := [d1, d2, d3] }
  | _ => none }
def WordBackWrongFalsely : Prop := wordBackRow.holds Try.pinned (OpenSpec.ofChange wordBackWrong)

/-- 'flotsamlaw01.WordKinds': WHATEVER THE INPUT: true; the input reads as it did. -/
def wordKindsSpec : ChangeSpec := { name := "wordKinds", fn := fun _ => fun
  | [d] => { results := [.lit (.bool true)], args := [d] }
  | _ => none }
def wordKindsRow : OpenClaim := { program := "ytnpbnkfmajokfaa", sum := "f86dc93be4c4a8b2226868832f9ae8fd745a0285edc67548e6ddda45949c6447", func := "flotsam/flotsamlaw01.WordKinds", spec := "wordKinds", apart := false }
def WordKindsSaid : Prop := wordKindsRow.holds Try.pinned (OpenSpec.ofChange wordKindsSpec)

/-- ITS FALSE NEIGHBOUR: 'it returns false'. Refute it at one input. -/
def wordKindsWrong : ChangeSpec := { name := "wordKinds", fn := fun _ => fun
  | [d] => { results := [.lit (.bool false)], args := [d] }
  | _ => none }
def WordKindsWrongFalsely : Prop := wordKindsRow.holds Try.pinned (OpenSpec.ofChange wordKindsWrong)

/- THE SECOND FORM. 'bulk': how many values and letters a reading holds, each counted each time it is reached (what is shared counts as often as it is met; a slice's spare places count too). A statement '..UptoSaid' is the law's where the arguments, and the package variables that the reading takes, are together of bulk at most 1048576: NARROWER than '..Said'. Prove '..Said' where nothing that the law and all that it calls make is longer than what came in: it says more and counts as full. Else prove '..UptoSaid'. A law counts once. -/
mutual
def uptoBulk {H : Type} : DataW H → Nat
  | .lit (.string bytes) => bytes.length + 1
  | .lit _ => 1
  | .nil => 1
  | .ptr d => uptoBulk d + 1
  | .slice elems spare => uptoBulkAll elems + uptoBulkAll spare + 1
  | .agg parts => uptoBulkAll parts + 1
  | .iface _ d => uptoBulk d + 1
  | .map entries => uptoBulkEntries entries + 1
  | .held _ => 1
def uptoBulkAll {H : Type} : List (DataW H) → Nat
  | [] => 0
  | d :: r => uptoBulk d + uptoBulkAll r
def uptoBulkEntries {H : Type} : List (Lit × DataW H) → Nat
  | [] => 0
  | x :: r => uptoBulkEntry x + uptoBulkEntries r
def uptoBulkEntry {H : Type} : Lit × DataW H → Nat
  | (.string bytes, d) => bytes.length + uptoBulk d + 1
  | (_, d) => uptoBulk d + 1
 end
def uptoSmall : (H : Type) → List (DataW H) → Bool := fun _ ds => decide (uptoBulkAll ds ≤ 1048576)
def OpenSpec.upto (s : _root_.Go.ChangeSpec) : _root_.Go.OpenSpec := { _root_.Go.OpenSpec.ofChange s with cond := some uptoSmall }

/-- 'flotsamlaw02.HeaderPuts', WHERE WHAT IT READS IS OF BULK AT MOST 1048576: true; the input reads as it did. -/
def headerPutsUptoRow : OpenClaim := { program := "ytnpbnkfmajokfaa", sum := "f86dc93be4c4a8b2226868832f9ae8fd745a0285edc67548e6ddda45949c6447", func := "flotsam/flotsamlaw02.HeaderPuts", spec := "headerPuts", apart := false, narrowed := true }
def HeaderPutsUptoSaid : Prop := headerPutsUptoRow.holds Try.pinned (OpenSpec.upto headerPutsSpec)

/-- 'flotsamlaw02.HeaderGets', WHERE WHAT IT READS IS OF BULK AT MOST 1048576: true; the input reads as it did. -/
def headerGetsUptoRow : OpenClaim := { program := "ytnpbnkfmajokfaa", sum := "f86dc93be4c4a8b2226868832f9ae8fd745a0285edc67548e6ddda45949c6447", func := "flotsam/flotsamlaw02.HeaderGets", spec := "headerGets", apart := false, narrowed := true }
def HeaderGetsUptoSaid : Prop := headerGetsUptoRow.holds Try.pinned (OpenSpec.upto headerGetsSpec)

/-- 'flotsamlaw02.HeaderBack', WHERE WHAT IT READS IS OF BULK AT MOST 1048576: true; the input reads as it did. -/
def headerBackUptoRow : OpenClaim := { program := "ytnpbnkfmajokfaa", sum := "f86dc93be4c4a8b2226868832f9ae8fd745a0285edc67548e6ddda45949c6447", func := "flotsam/flotsamlaw02.HeaderBack", spec := "headerBack", apart := false, narrowed := true }
def HeaderBackUptoSaid : Prop := headerBackUptoRow.holds Try.pinned (OpenSpec.upto headerBackSpec)

/-- 'flotsamlaw02.HeaderParts', WHERE WHAT IT READS IS OF BULK AT MOST 1048576: true; the input reads as it did. -/
def headerPartsUptoRow : OpenClaim := { program := "ytnpbnkfmajokfaa", sum := "f86dc93be4c4a8b2226868832f9ae8fd745a0285edc67548e6ddda45949c6447", func := "flotsam/flotsamlaw02.HeaderParts", spec := "headerParts", apart := false, narrowed := true }
def HeaderPartsUptoSaid : Prop := headerPartsUptoRow.holds Try.pinned (OpenSpec.upto headerPartsSpec)

/-- 'flotsamlaw01.WordPuts', WHERE WHAT IT READS IS OF BULK AT MOST 1048576: true; the input reads as it did. -/
def wordPutsUptoRow : OpenClaim := { program := "ytnpbnkfmajokfaa", sum := "f86dc93be4c4a8b2226868832f9ae8fd745a0285edc67548e6ddda45949c6447", func := "flotsam/flotsamlaw01.WordPuts", spec := "wordPuts", apart := false, narrowed := true }
def WordPutsUptoSaid : Prop := wordPutsUptoRow.holds Try.pinned (OpenSpec.upto wordPutsSpec)

/-- 'flotsamlaw01.WordGets', WHERE WHAT IT READS IS OF BULK AT MOST 1048576: true; the input reads as it did. -/
def wordGetsUptoRow : OpenClaim := { program := "ytnpbnkfmajokfaa", sum := "f86dc93be4c4a8b2226868832f9ae8fd745a0285edc67548e6ddda45949c6447", func := "flotsam/flotsamlaw01.WordGets", spec := "wordGets", apart := false, narrowed := true }
def WordGetsUptoSaid : Prop := wordGetsUptoRow.holds Try.pinned (OpenSpec.upto wordGetsSpec)

/-- 'flotsamlaw01.WordBack', WHERE WHAT IT READS IS OF BULK AT MOST 1048576: true; the input reads as it did. -/
def wordBackUptoRow : OpenClaim := { program := "ytnpbnkfmajokfaa", sum := "f86dc93be4c4a8b2226868832f9ae8fd745a0285edc67548e6ddda45949c6447", func := "flotsam/flotsamlaw01.WordBack", spec := "wordBack", apart := false, narrowed := true }
def WordBackUptoSaid : Prop := wordBackUptoRow.holds Try.pinned (OpenSpec.upto wordBackSpec)

/-- 'flotsamlaw01.WordKinds', WHERE WHAT IT READS IS OF BULK AT MOST 1048576: true; the input reads as it did. -/
def wordKindsUptoRow : OpenClaim := { program := "ytnpbnkfmajokfaa", sum := "f86dc93be4c4a8b2226868832f9ae8fd745a0285edc67548e6ddda45949c6447", func := "flotsam/flotsamlaw01.WordKinds", spec := "wordKinds", apart := false, narrowed := true }
def WordKindsUptoSaid : Prop := wordKindsUptoRow.holds Try.pinned (OpenSpec.upto wordKindsSpec)

end Rows
end Go.Proofs.Ytnpbnkfmajokfaa
