/-
  NARROWER THAN 'FOR EVERY INPUT', by the rows' own cells (each row's printed sentence says how): SoundChecks: laid · SoundApart: laid · SoundSpoilt: laid · SoundStays: laid · SweepFrees: laid · SweepSteps: laid · SweepOnce: laid · SweepPages: laid.
  DERIVED. THE GIVEN ROWS OF THIS SEAT. 8 by the template 'for every input the law returns true; each argument reads behind the call as it read before'; 0 by the template 'total and deterministic' (their statements: YthadoehgmdageaaDoorTotals.lean).
  GIVEN WITH THE SEED: the statements are not yours to turn. If you find one false, say at which input.
  Laid BY PROGRAM, IN A SANDBOX (cutbox-rows.mjs): the forced cells as the released guide's own fill.sh prints them over the translation 83eeb2bf3e4ee19c… (all of the seat's roots in one cut). By AI agents, Wed Nov 11 2026. No macro, syntax, notation, axiom, sorry.
-/
import Derived.Test.YthadoehgmdageaaDoorChecked
import GoSem.Claim
import GoSem.ClaimJoined
import GoSem.ClaimMapViews
import Derived.JoinedTies
import Derived.KernelRfl
namespace Go.Proofs.YthadoehgmdageaaDoor
/- THE CELL 'sum', in the pinned program and in every row, IS THE sha256 OF THE DUMP (.gsa) THAT YthadoehgmdageaaDoorProg.lean LOADS. Nothing in Lean hashes anything: it is a label: what it is worth is what the hold of that sum in a sandbox is worth. -/
noncomputable def Tryd.pinned : Pinned := { name := "ythadoehgmdageaadoor", sum := "83eeb2bf3e4ee19ce4b35eead5492a2e3fa43a9f14232aea648c3b55497d47a7", checked := Tryd.checked }
namespace Rows
def none {H : Type} : Left H := { results := [], args := [] }

/- WHAT THE LISTED PACKAGE-LEVEL VARIABLES READ AS WHEN THE CALL BEGINS. Each datum BY PROGRAM (the guide's laid-datum.mjs) off the statement by which the dump's own 'gosem.cut.vars' lays the variable. In a bare row this is a premise. The card (YthadoehgmdageaaDoorCards.lean) ties it to the program's text. -/
def laid_flotsam_class_words {H : Type} : DataW H := .agg [.lit (.int .i64 2), .lit (.int .i64 4), .lit (.int .i64 8), .lit (.int .i64 16)]

/-- 'flotsamlaw09.SoundChecks': WHATEVER THE INPUT: true; the input reads as it did. -/
def soundChecksSpec : ChangeSpec := { name := "soundChecks", fn := fun _ => fun
  | [d] => { results := [.lit (.bool true)], args := [d] }
  | _ => none }
def soundChecksRow : OpenClaim := { program := "ythadoehgmdageaadoor", sum := "83eeb2bf3e4ee19ce4b35eead5492a2e3fa43a9f14232aea648c3b55497d47a7", func := "flotsam/flotsamlaw09.SoundChecks", spec := "soundChecks", unfollowed := true, recurses := true, named := ["flotsam/class.words"], apart := false, laid := [("flotsam/class.words", laid_flotsam_class_words)] }
def SoundChecksSaid : Prop := soundChecksRow.holds Tryd.pinned (OpenSpec.ofChange soundChecksSpec)

/-- ITS FALSE NEIGHBOUR: 'it returns false'. Refute it at one input. -/
def soundChecksWrong : ChangeSpec := { name := "soundChecks", fn := fun _ => fun
  | [d] => { results := [.lit (.bool false)], args := [d] }
  | _ => none }
def SoundChecksWrongFalsely : Prop := soundChecksRow.holds Tryd.pinned (OpenSpec.ofChange soundChecksWrong)

/-- 'flotsamlaw09.SoundApart': WHATEVER THE INPUT: true; the input reads as it did. -/
def soundApartSpec : ChangeSpec := { name := "soundApart", fn := fun _ => fun
  | [d] => { results := [.lit (.bool true)], args := [d] }
  | _ => none }
def soundApartRow : OpenClaim := { program := "ythadoehgmdageaadoor", sum := "83eeb2bf3e4ee19ce4b35eead5492a2e3fa43a9f14232aea648c3b55497d47a7", func := "flotsam/flotsamlaw09.SoundApart", spec := "soundApart", unfollowed := true, recurses := true, named := ["flotsam/class.words"], apart := false, laid := [("flotsam/class.words", laid_flotsam_class_words)] }
def SoundApartSaid : Prop := soundApartRow.holds Tryd.pinned (OpenSpec.ofChange soundApartSpec)

/-- ITS FALSE NEIGHBOUR: 'it returns false'. Refute it at one input. -/
def soundApartWrong : ChangeSpec := { name := "soundApart", fn := fun _ => fun
  | [d] => { results := [.lit (.bool false)], args := [d] }
  | _ => none }
def SoundApartWrongFalsely : Prop := soundApartRow.holds Tryd.pinned (OpenSpec.ofChange soundApartWrong)

/-- 'flotsamlaw09.SoundSpoilt': WHATEVER THE INPUT: true; the input reads as it did. -/
def soundSpoiltSpec : ChangeSpec := { name := "soundSpoilt", fn := fun _ => fun
  | [d1, d2, d3, d4] => { results := [.lit (.bool true)], args := [d1, d2, d3, d4] }
  | _ => none }
def soundSpoiltRow : OpenClaim := { program := "ythadoehgmdageaadoor", sum := "83eeb2bf3e4ee19ce4b35eead5492a2e3fa43a9f14232aea648c3b55497d47a7", func := "flotsam/flotsamlaw09.SoundSpoilt", spec := "soundSpoilt", unfollowed := true, recurses := true, named := ["flotsam/class.words"], apart := false, laid := [("flotsam/class.words", laid_flotsam_class_words)] }
def SoundSpoiltSaid : Prop := soundSpoiltRow.holds Tryd.pinned (OpenSpec.ofChange soundSpoiltSpec)

/-- ITS FALSE NEIGHBOUR: 'it returns false'. Refute it at one input. -/
def soundSpoiltWrong : ChangeSpec := { name := "soundSpoilt", fn := fun _ => fun
  | [d1, d2, d3, d4] => { results := [.lit (.bool false)], args := [d1, d2, d3, d4] }
  | _ => none }
def SoundSpoiltWrongFalsely : Prop := soundSpoiltRow.holds Tryd.pinned (OpenSpec.ofChange soundSpoiltWrong)

/-- 'flotsamlaw09.SoundStays': WHATEVER THE INPUT: true; the input reads as it did. -/
def soundStaysSpec : ChangeSpec := { name := "soundStays", fn := fun _ => fun
  | [d1, d2, d3, d4, d5] => { results := [.lit (.bool true)], args := [d1, d2, d3, d4, d5] }
  | _ => none }
def soundStaysRow : OpenClaim := { program := "ythadoehgmdageaadoor", sum := "83eeb2bf3e4ee19ce4b35eead5492a2e3fa43a9f14232aea648c3b55497d47a7", func := "flotsam/flotsamlaw09.SoundStays", spec := "soundStays", unfollowed := true, recurses := true, named := ["flotsam/class.words"], apart := false, laid := [("flotsam/class.words", laid_flotsam_class_words)] }
def SoundStaysSaid : Prop := soundStaysRow.holds Tryd.pinned (OpenSpec.ofChange soundStaysSpec)

/-- ITS FALSE NEIGHBOUR: 'it returns false'. Refute it at one input. -/
def soundStaysWrong : ChangeSpec := { name := "soundStays", fn := fun _ => fun
  | [d1, d2, d3, d4, d5] => { results := [.lit (.bool false)], args := [d1, d2, d3, d4, d5] }
  | _ => none }
def SoundStaysWrongFalsely : Prop := soundStaysRow.holds Tryd.pinned (OpenSpec.ofChange soundStaysWrong)

/-- 'flotsamlaw12.SweepFrees': WHATEVER THE INPUT: true; the input reads as it did. -/
def sweepFreesSpec : ChangeSpec := { name := "sweepFrees", fn := fun _ => fun
  | [d1, d2] => { results := [.lit (.bool true)], args := [d1, d2] }
  | _ => none }
def sweepFreesRow : OpenClaim := { program := "ythadoehgmdageaadoor", sum := "83eeb2bf3e4ee19ce4b35eead5492a2e3fa43a9f14232aea648c3b55497d47a7", func := "flotsam/flotsamlaw12.SweepFrees", spec := "sweepFrees", unfollowed := true, recurses := true, named := ["flotsam/class.words"], apart := false, laid := [("flotsam/class.words", laid_flotsam_class_words)] }
def SweepFreesSaid : Prop := sweepFreesRow.holds Tryd.pinned (OpenSpec.ofChange sweepFreesSpec)

/-- ITS FALSE NEIGHBOUR: 'it returns false'. Refute it at one input. -/
def sweepFreesWrong : ChangeSpec := { name := "sweepFrees", fn := fun _ => fun
  | [d1, d2] => { results := [.lit (.bool false)], args := [d1, d2] }
  | _ => none }
def SweepFreesWrongFalsely : Prop := sweepFreesRow.holds Tryd.pinned (OpenSpec.ofChange sweepFreesWrong)

/-- 'flotsamlaw12.SweepSteps': WHATEVER THE INPUT: true; the input reads as it did. -/
def sweepStepsSpec : ChangeSpec := { name := "sweepSteps", fn := fun _ => fun
  | [d1, d2] => { results := [.lit (.bool true)], args := [d1, d2] }
  | _ => none }
def sweepStepsRow : OpenClaim := { program := "ythadoehgmdageaadoor", sum := "83eeb2bf3e4ee19ce4b35eead5492a2e3fa43a9f14232aea648c3b55497d47a7", func := "flotsam/flotsamlaw12.SweepSteps", spec := "sweepSteps", unfollowed := true, recurses := true, named := ["flotsam/class.words"], apart := false, laid := [("flotsam/class.words", laid_flotsam_class_words)] }
def SweepStepsSaid : Prop := sweepStepsRow.holds Tryd.pinned (OpenSpec.ofChange sweepStepsSpec)

/-- ITS FALSE NEIGHBOUR: 'it returns false'. Refute it at one input. -/
def sweepStepsWrong : ChangeSpec := { name := "sweepSteps", fn := fun _ => fun
  | [d1, d2] => { results := [.lit (.bool false)], args := [d1, d2] }
  | _ => none }
def SweepStepsWrongFalsely : Prop := sweepStepsRow.holds Tryd.pinned (OpenSpec.ofChange sweepStepsWrong)

/-- 'flotsamlaw12.SweepOnce': WHATEVER THE INPUT: true; the input reads as it did. -/
def sweepOnceSpec : ChangeSpec := { name := "sweepOnce", fn := fun _ => fun
  | [d1, d2] => { results := [.lit (.bool true)], args := [d1, d2] }
  | _ => none }
def sweepOnceRow : OpenClaim := { program := "ythadoehgmdageaadoor", sum := "83eeb2bf3e4ee19ce4b35eead5492a2e3fa43a9f14232aea648c3b55497d47a7", func := "flotsam/flotsamlaw12.SweepOnce", spec := "sweepOnce", unfollowed := true, recurses := true, named := ["flotsam/class.words"], apart := false, laid := [("flotsam/class.words", laid_flotsam_class_words)] }
def SweepOnceSaid : Prop := sweepOnceRow.holds Tryd.pinned (OpenSpec.ofChange sweepOnceSpec)

/-- ITS FALSE NEIGHBOUR: 'it returns false'. Refute it at one input. -/
def sweepOnceWrong : ChangeSpec := { name := "sweepOnce", fn := fun _ => fun
  | [d1, d2] => { results := [.lit (.bool false)], args := [d1, d2] }
  | _ => none }
def SweepOnceWrongFalsely : Prop := sweepOnceRow.holds Tryd.pinned (OpenSpec.ofChange sweepOnceWrong)

/-- 'flotsamlaw12.SweepPages': WHATEVER THE INPUT: true; the input reads as it did. -/
def sweepPagesSpec : ChangeSpec := { name := "sweepPages", fn := fun _ => fun
  | [d1, d2] => { results := [.lit (.bool true)], args := [d1, d2] }
  | _ => none }
def sweepPagesRow : OpenClaim := { program := "ythadoehgmdageaadoor", sum := "83eeb2bf3e4ee19ce4b35eead5492a2e3fa43a9f14232aea648c3b55497d47a7", func := "flotsam/flotsamlaw12.SweepPages", spec := "sweepPages", unfollowed := true, recurses := true, named := ["flotsam/class.words"], apart := false, laid := [("flotsam/class.words", laid_flotsam_class_words)] }
def SweepPagesSaid : Prop := sweepPagesRow.holds Tryd.pinned (OpenSpec.ofChange sweepPagesSpec)

/-- ITS FALSE NEIGHBOUR: 'it returns false'. Refute it at one input. -/
def sweepPagesWrong : ChangeSpec := { name := "sweepPages", fn := fun _ => fun
  | [d1, d2] => { results := [.lit (.bool false)], args := [d1, d2] }
  | _ => none }
def SweepPagesWrongFalsely : Prop := sweepPagesRow.holds Tryd.pinned (OpenSpec.ofChange sweepPagesWrong)

/- THE SECOND FORM. 'bulk': how many values and letters a reading holds, each counted each time it is reached (what is shared counts as often as it is met; a slice's spare places count too). A statement '..UptoSaid' is the law's where the arguments, and the package variables that the reading takes, are together of bulk at most 1048576: NARROWER than '..Said'. Prove '..Said' where nothing that the law and all that it calls make is longer than what came in: it says more and counts as full. Else prove '..UptoSaid'. A law counts once. -/
mutual
def uptoBulk {H : Type} : DataW H → Nat
  | .lit (.string bytes) => bytes.length + 1
  | .lit _ => 1
  | .nil => 1
  | .ptr d => uptoBulk d + 1
  | .slice elems spare => uptoBulkAll elems + uptoBulkAll spare + 1
  | .agg parts => uptoBulkAll parts + 1
  | .iface _ d => uptoBulk d + 1
  | .map entries => uptoBulkEntries entries + 1
  | .held _ => 1
def uptoBulkAll {H : Type} : List (DataW H) → Nat
  | [] => 0
  | d :: r => uptoBulk d + uptoBulkAll r
def uptoBulkEntries {H : Type} : List (Lit × DataW H) → Nat
  | [] => 0
  | x :: r => uptoBulkEntry x + uptoBulkEntries r
def uptoBulkEntry {H : Type} : Lit × DataW H → Nat
  | (.string bytes, d) => bytes.length + uptoBulk d + 1
  | (_, d) => uptoBulk d + 1
 end
def uptoSmall : (H : Type) → List (DataW H) → Bool := fun _ ds => decide (uptoBulkAll ds ≤ 1048576)
def OpenSpec.upto (s : _root_.Go.ChangeSpec) : _root_.Go.OpenSpec := { _root_.Go.OpenSpec.ofChange s with cond := some uptoSmall }

/-- 'flotsamlaw09.SoundChecks', WHERE WHAT IT READS IS OF BULK AT MOST 1048576: true; the input reads as it did. -/
def soundChecksUptoRow : OpenClaim := { program := "ythadoehgmdageaadoor", sum := "83eeb2bf3e4ee19ce4b35eead5492a2e3fa43a9f14232aea648c3b55497d47a7", func := "flotsam/flotsamlaw09.SoundChecks", spec := "soundChecks", unfollowed := true, recurses := true, named := ["flotsam/class.words"], apart := false, laid := [("flotsam/class.words", laid_flotsam_class_words)], narrowed := true }
def SoundChecksUptoSaid : Prop := soundChecksUptoRow.holds Tryd.pinned (OpenSpec.upto soundChecksSpec)

/-- 'flotsamlaw09.SoundApart', WHERE WHAT IT READS IS OF BULK AT MOST 1048576: true; the input reads as it did. -/
def soundApartUptoRow : OpenClaim := { program := "ythadoehgmdageaadoor", sum := "83eeb2bf3e4ee19ce4b35eead5492a2e3fa43a9f14232aea648c3b55497d47a7", func := "flotsam/flotsamlaw09.SoundApart", spec := "soundApart", unfollowed := true, recurses := true, named := ["flotsam/class.words"], apart := false, laid := [("flotsam/class.words", laid_flotsam_class_words)], narrowed := true }
def SoundApartUptoSaid : Prop := soundApartUptoRow.holds Tryd.pinned (OpenSpec.upto soundApartSpec)

/-- 'flotsamlaw09.SoundSpoilt', WHERE WHAT IT READS IS OF BULK AT MOST 1048576: true; the input reads as it did. -/
def soundSpoiltUptoRow : OpenClaim := { program := "ythadoehgmdageaadoor", sum := "83eeb2bf3e4ee19ce4b35eead5492a2e3fa43a9f14232aea648c3b55497d47a7", func := "flotsam/flotsamlaw09.SoundSpoilt", spec := "soundSpoilt", unfollowed := true, recurses := true, named := ["flotsam/class.words"], apart := false, laid := [("flotsam/class.words", laid_flotsam_class_words)], narrowed := true }
def SoundSpoiltUptoSaid : Prop := soundSpoiltUptoRow.holds Tryd.pinned (OpenSpec.upto soundSpoiltSpec)

/-- 'flotsamlaw09.SoundStays', WHERE WHAT IT READS IS OF BULK AT MOST 1048576: true; the input reads as it did. -/
def soundStaysUptoRow : OpenClaim := { program := "ythadoehgmdageaadoor", sum := "83eeb2bf3e4ee19ce4b35eead5492a2e3fa43a9f14232aea648c3b55497d47a7", func := "flotsam/flotsamlaw09.SoundStays", spec := "soundStays", unfollowed := true, recurses := true, named := ["flotsam/class.words"], apart := false, laid := [("flotsam/class.words", laid_flotsam_class_words)], narrowed := true }
def SoundStaysUptoSaid : Prop := soundStaysUptoRow.holds Tryd.pinned (OpenSpec.upto soundStaysSpec)

/-- 'flotsamlaw12.SweepFrees', WHERE WHAT IT READS IS OF BULK AT MOST 1048576: true; the input reads as it did. -/
def sweepFreesUptoRow : OpenClaim := { program := "ythadoehgmdageaadoor", sum := "83eeb2bf3e4ee19ce4b35eead5492a2e3fa43a9f14232aea648c3b55497d47a7", func := "flotsam/flotsamlaw12.SweepFrees", spec := "sweepFrees", unfollowed := true, recurses := true, named := ["flotsam/class.words"], apart := false, laid := [("flotsam/class.words", laid_flotsam_class_words)], narrowed := true }
def SweepFreesUptoSaid : Prop := sweepFreesUptoRow.holds Tryd.pinned (OpenSpec.upto sweepFreesSpec)

/-- 'flotsamlaw12.SweepSteps', WHERE WHAT IT READS IS OF BULK AT MOST 1048576: true; the input reads as it did. -/
def sweepStepsUptoRow : OpenClaim := { program := "ythadoehgmdageaadoor", sum := "83eeb2bf3e4ee19ce4b35eead5492a2e3fa43a9f14232aea648c3b55497d47a7", func := "flotsam/flotsamlaw12.SweepSteps", spec := "sweepSteps", unfollowed := true, recurses := true, named := ["flotsam/class.words"], apart := false, laid := [("flotsam/class.words", laid_flotsam_class_words)], narrowed := true }
def SweepStepsUptoSaid : Prop := sweepStepsUptoRow.holds Tryd.pinned (OpenSpec.upto sweepStepsSpec)

/-- 'flotsamlaw12.SweepOnce', WHERE WHAT IT READS IS OF BULK AT MOST 1048576: true; the input reads as it did. -/
def sweepOnceUptoRow : OpenClaim := { program := "ythadoehgmdageaadoor", sum := "83eeb2bf3e4ee19ce4b35eead5492a2e3fa43a9f14232aea648c3b55497d47a7", func := "flotsam/flotsamlaw12.SweepOnce", spec := "sweepOnce", unfollowed := true, recurses := true, named := ["flotsam/class.words"], apart := false, laid := [("flotsam/class.words", laid_flotsam_class_words)], narrowed := true }
def SweepOnceUptoSaid : Prop := sweepOnceUptoRow.holds Tryd.pinned (OpenSpec.upto sweepOnceSpec)

/-- 'flotsamlaw12.SweepPages', WHERE WHAT IT READS IS OF BULK AT MOST 1048576: true; the input reads as it did. -/
def sweepPagesUptoRow : OpenClaim := { program := "ythadoehgmdageaadoor", sum := "83eeb2bf3e4ee19ce4b35eead5492a2e3fa43a9f14232aea648c3b55497d47a7", func := "flotsam/flotsamlaw12.SweepPages", spec := "sweepPages", unfollowed := true, recurses := true, named := ["flotsam/class.words"], apart := false, laid := [("flotsam/class.words", laid_flotsam_class_words)], narrowed := true }
def SweepPagesUptoSaid : Prop := sweepPagesUptoRow.holds Tryd.pinned (OpenSpec.upto sweepPagesSpec)

end Rows
end Go.Proofs.YthadoehgmdageaaDoor
