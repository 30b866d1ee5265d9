/-
  NARROWER THAN 'FOR EVERY INPUT', by the rows' own cells (each row's printed sentence says how): ClassSizes: laid · ClassOfs: laid · ClassFits: laid · ClassDoubles: laid.
  DERIVED. THE GIVEN ROWS OF THIS SEAT. 4 by the template 'for every input the law returns true; each argument reads behind the call as it read before'; 0 by the template 'total and deterministic' (their statements: YtnpbnkfmajokfaaDoorTotals.lean).
  GIVEN WITH THE SEED: the statements are not yours to turn. If you find one false, say at which input.
  Laid BY PROGRAM, IN A SANDBOX (cutbox-rows.mjs): the forced cells as the released guide's own fill.sh prints them over the translation a77f7e2249587eaa… (all of the seat's roots in one cut). By AI agents, Wed Nov 11 2026. No macro, syntax, notation, axiom, sorry.
-/
import Derived.Test.YtnpbnkfmajokfaaDoorChecked
import GoSem.Claim
import GoSem.ClaimJoined
import GoSem.ClaimMapViews
import Derived.JoinedTies
import Derived.KernelRfl
namespace Go.Proofs.YtnpbnkfmajokfaaDoor
/- THE CELL 'sum', in the pinned program and in every row, IS THE sha256 OF THE DUMP (.gsa) THAT YtnpbnkfmajokfaaDoorProg.lean LOADS. Nothing in Lean hashes anything: it is a label: what it is worth is what the hold of that sum in a sandbox is worth. -/
noncomputable def Tryd.pinned : Pinned := { name := "ytnpbnkfmajokfaadoor", sum := "a77f7e2249587eaabf8473f5fd2d7f7f766d6d51f9522a3e6804a92485cb09bb", checked := Tryd.checked }
namespace Rows
def none {H : Type} : Left H := { results := [], args := [] }

/- WHAT THE LISTED PACKAGE-LEVEL VARIABLES READ AS WHEN THE CALL BEGINS. Each datum BY PROGRAM (the guide's laid-datum.mjs) off the statement by which the dump's own 'gosem.cut.vars' lays the variable. In a bare row this is a premise. The card (YtnpbnkfmajokfaaDoorCards.lean) ties it to the program's text. -/
def laid_flotsam_class_words {H : Type} : DataW H := .agg [.lit (.int .i64 2), .lit (.int .i64 4), .lit (.int .i64 8), .lit (.int .i64 16)]

/-- 'flotsamlaw04.ClassSizes': WHATEVER THE INPUT: true; the input reads as it did. -/
def classSizesSpec : ChangeSpec := { name := "classSizes", fn := fun _ => fun
  | [d] => { results := [.lit (.bool true)], args := [d] }
  | _ => none }
def classSizesRow : OpenClaim := { program := "ytnpbnkfmajokfaadoor", sum := "a77f7e2249587eaabf8473f5fd2d7f7f766d6d51f9522a3e6804a92485cb09bb", func := "flotsam/flotsamlaw04.ClassSizes", spec := "classSizes", named := ["flotsam/class.words"], apart := false, laid := [("flotsam/class.words", laid_flotsam_class_words)] }
def ClassSizesSaid : Prop := classSizesRow.holds Tryd.pinned (OpenSpec.ofChange classSizesSpec)

/-- ITS FALSE NEIGHBOUR: 'it returns false'. Refute it at one input. -/
def classSizesWrong : ChangeSpec := { name := "classSizes", fn := fun _ => fun
  | [d] => { results := [.lit (.bool false)], args := [d] }
  | _ => none }
def ClassSizesWrongFalsely : Prop := classSizesRow.holds Tryd.pinned (OpenSpec.ofChange classSizesWrong)

/-- 'flotsamlaw04.ClassOfs': WHATEVER THE INPUT: true; the input reads as it did. -/
def classOfsSpec : ChangeSpec := { name := "classOfs", fn := fun _ => fun
  | [d] => { results := [.lit (.bool true)], args := [d] }
  | _ => none }
def classOfsRow : OpenClaim := { program := "ytnpbnkfmajokfaadoor", sum := "a77f7e2249587eaabf8473f5fd2d7f7f766d6d51f9522a3e6804a92485cb09bb", func := "flotsam/flotsamlaw04.ClassOfs", spec := "classOfs", named := ["flotsam/class.words"], apart := false, laid := [("flotsam/class.words", laid_flotsam_class_words)] }
def ClassOfsSaid : Prop := classOfsRow.holds Tryd.pinned (OpenSpec.ofChange classOfsSpec)

/-- ITS FALSE NEIGHBOUR: 'it returns false'. Refute it at one input. -/
def classOfsWrong : ChangeSpec := { name := "classOfs", fn := fun _ => fun
  | [d] => { results := [.lit (.bool false)], args := [d] }
  | _ => none }
def ClassOfsWrongFalsely : Prop := classOfsRow.holds Tryd.pinned (OpenSpec.ofChange classOfsWrong)

/-- 'flotsamlaw04.ClassFits': WHATEVER THE INPUT: true; the input reads as it did. -/
def classFitsSpec : ChangeSpec := { name := "classFits", fn := fun _ => fun
  | [d] => { results := [.lit (.bool true)], args := [d] }
  | _ => none }
def classFitsRow : OpenClaim := { program := "ytnpbnkfmajokfaadoor", sum := "a77f7e2249587eaabf8473f5fd2d7f7f766d6d51f9522a3e6804a92485cb09bb", func := "flotsam/flotsamlaw04.ClassFits", spec := "classFits", named := ["flotsam/class.words"], apart := false, laid := [("flotsam/class.words", laid_flotsam_class_words)] }
def ClassFitsSaid : Prop := classFitsRow.holds Tryd.pinned (OpenSpec.ofChange classFitsSpec)

/-- ITS FALSE NEIGHBOUR: 'it returns false'. Refute it at one input. -/
def classFitsWrong : ChangeSpec := { name := "classFits", fn := fun _ => fun
  | [d] => { results := [.lit (.bool false)], args := [d] }
  | _ => none }
def ClassFitsWrongFalsely : Prop := classFitsRow.holds Tryd.pinned (OpenSpec.ofChange classFitsWrong)

/-- 'flotsamlaw04.ClassDoubles': WHATEVER THE INPUT: true; the input reads as it did. -/
def classDoublesSpec : ChangeSpec := { name := "classDoubles", fn := fun _ => fun
  | [d1, d2] => { results := [.lit (.bool true)], args := [d1, d2] }
  | _ => none }
def classDoublesRow : OpenClaim := { program := "ytnpbnkfmajokfaadoor", sum := "a77f7e2249587eaabf8473f5fd2d7f7f766d6d51f9522a3e6804a92485cb09bb", func := "flotsam/flotsamlaw04.ClassDoubles", spec := "classDoubles", named := ["flotsam/class.words"], apart := false, laid := [("flotsam/class.words", laid_flotsam_class_words)] }
def ClassDoublesSaid : Prop := classDoublesRow.holds Tryd.pinned (OpenSpec.ofChange classDoublesSpec)

/-- ITS FALSE NEIGHBOUR: 'it returns false'. Refute it at one input. -/
def classDoublesWrong : ChangeSpec := { name := "classDoubles", fn := fun _ => fun
  | [d1, d2] => { results := [.lit (.bool false)], args := [d1, d2] }
  | _ => none }
def ClassDoublesWrongFalsely : Prop := classDoublesRow.holds Tryd.pinned (OpenSpec.ofChange classDoublesWrong)

/- THE SECOND FORM. 'bulk': how many values and letters a reading holds, each counted each time it is reached (what is shared counts as often as it is met; a slice's spare places count too). A statement '..UptoSaid' is the law's where the arguments, and the package variables that the reading takes, are together of bulk at most 1048576: NARROWER than '..Said'. Prove '..Said' where nothing that the law and all that it calls make is longer than what came in: it says more and counts as full. Else prove '..UptoSaid'. A law counts once. -/
mutual
def uptoBulk {H : Type} : DataW H → Nat
  | .lit (.string bytes) => bytes.length + 1
  | .lit _ => 1
  | .nil => 1
  | .ptr d => uptoBulk d + 1
  | .slice elems spare => uptoBulkAll elems + uptoBulkAll spare + 1
  | .agg parts => uptoBulkAll parts + 1
  | .iface _ d => uptoBulk d + 1
  | .map entries => uptoBulkEntries entries + 1
  | .held _ => 1
def uptoBulkAll {H : Type} : List (DataW H) → Nat
  | [] => 0
  | d :: r => uptoBulk d + uptoBulkAll r
def uptoBulkEntries {H : Type} : List (Lit × DataW H) → Nat
  | [] => 0
  | x :: r => uptoBulkEntry x + uptoBulkEntries r
def uptoBulkEntry {H : Type} : Lit × DataW H → Nat
  | (.string bytes, d) => bytes.length + uptoBulk d + 1
  | (_, d) => uptoBulk d + 1
 end
def uptoSmall : (H : Type) → List (DataW H) → Bool := fun _ ds => decide (uptoBulkAll ds ≤ 1048576)
def OpenSpec.upto (s : _root_.Go.ChangeSpec) : _root_.Go.OpenSpec := { _root_.Go.OpenSpec.ofChange s with cond := some uptoSmall }

/-- 'flotsamlaw04.ClassSizes', WHERE WHAT IT READS IS OF BULK AT MOST 1048576: true; the input reads as it did. -/
def classSizesUptoRow : OpenClaim := { program := "ytnpbnkfmajokfaadoor", sum := "a77f7e2249587eaabf8473f5fd2d7f7f766d6d51f9522a3e6804a92485cb09bb", func := "flotsam/flotsamlaw04.ClassSizes", spec := "classSizes", named := ["flotsam/class.words"], apart := false, laid := [("flotsam/class.words", laid_flotsam_class_words)], narrowed := true }
def ClassSizesUptoSaid : Prop := classSizesUptoRow.holds Tryd.pinned (OpenSpec.upto classSizesSpec)

/-- 'flotsamlaw04.ClassOfs', WHERE WHAT IT READS IS OF BULK AT MOST 1048576: true; the input reads as it did. -/
def classOfsUptoRow : OpenClaim := { program := "ytnpbnkfmajokfaadoor", sum := "a77f7e2249587eaabf8473f5fd2d7f7f766d6d51f9522a3e6804a92485cb09bb", func := "flotsam/flotsamlaw04.ClassOfs", spec := "classOfs", named := ["flotsam/class.words"], apart := false, laid := [("flotsam/class.words", laid_flotsam_class_words)], narrowed := true }
def ClassOfsUptoSaid : Prop := classOfsUptoRow.holds Tryd.pinned (OpenSpec.upto classOfsSpec)

/-- 'flotsamlaw04.ClassFits', WHERE WHAT IT READS IS OF BULK AT MOST 1048576: true; the input reads as it did. -/
def classFitsUptoRow : OpenClaim := { program := "ytnpbnkfmajokfaadoor", sum := "a77f7e2249587eaabf8473f5fd2d7f7f766d6d51f9522a3e6804a92485cb09bb", func := "flotsam/flotsamlaw04.ClassFits", spec := "classFits", named := ["flotsam/class.words"], apart := false, laid := [("flotsam/class.words", laid_flotsam_class_words)], narrowed := true }
def ClassFitsUptoSaid : Prop := classFitsUptoRow.holds Tryd.pinned (OpenSpec.upto classFitsSpec)

/-- 'flotsamlaw04.ClassDoubles', WHERE WHAT IT READS IS OF BULK AT MOST 1048576: true; the input reads as it did. -/
def classDoublesUptoRow : OpenClaim := { program := "ytnpbnkfmajokfaadoor", sum := "a77f7e2249587eaabf8473f5fd2d7f7f766d6d51f9522a3e6804a92485cb09bb", func := "flotsam/flotsamlaw04.ClassDoubles", spec := "classDoubles", named := ["flotsam/class.words"], apart := false, laid := [("flotsam/class.words", laid_flotsam_class_words)], narrowed := true }
def ClassDoublesUptoSaid : Prop := classDoublesUptoRow.holds Tryd.pinned (OpenSpec.upto classDoublesSpec)

end Rows
end Go.Proofs.YtnpbnkfmajokfaaDoor
