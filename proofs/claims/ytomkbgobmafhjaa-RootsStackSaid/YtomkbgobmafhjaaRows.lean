/-
  No cell of these rows narrows 'for every input' (looked for: loops, veiled, ifaces, maps, wideKeys, modest, calm, conditions, laid).
  DERIVED. THE GIVEN ROWS OF THIS SEAT. 8 by the template 'for every input the law returns true; each argument reads behind the call as it read before'; 0 by the template 'total and deterministic' (their statements: YtomkbgobmafhjaaTotals.lean).
  GIVEN WITH THE SEED: the statements are not yours to turn. If you find one false, say at which input.
  Laid BY PROGRAM, IN A SANDBOX (cutbox-rows.mjs): the forced cells as the released guide's own fill.sh prints them over the translation 25c3053157edff6c… (all of the seat's roots in one cut). By AI agents, Wed Nov 11 2026. No macro, syntax, notation, axiom, sorry.
-/
import Derived.Test.YtomkbgobmafhjaaChecked
import GoSem.Claim
import GoSem.ClaimJoined
import GoSem.ClaimMapViews
import Derived.JoinedTies
import Derived.KernelRfl
namespace Go.Proofs.Ytomkbgobmafhjaa
/- THE CELL 'sum', in the pinned program and in every row, IS THE sha256 OF THE DUMP (.gsa) THAT YtomkbgobmafhjaaProg.lean LOADS. Nothing in Lean hashes anything: it is a label: what it is worth is what the hold of that sum in a sandbox is worth. -/
noncomputable def Try.pinned : Pinned := { name := "ytomkbgobmafhjaa", sum := "25c3053157edff6c19c6054ea893004ad87a63a3431a1b2a1c4a05790dc24287", checked := Try.checked }
namespace Rows
def none {H : Type} : Left H := { results := [], args := [] }

/-- 'flotsamlaw13.GreyDoes': WHATEVER THE INPUT: true; the input reads as it did. -/
def greyDoesSpec : ChangeSpec := { name := "greyDoes", fn := fun _ => fun
  | [d1, d2, d3] => { results := [.lit (.bool true)], args := [d1, d2, d3] }
  | _ => none }
def greyDoesRow : OpenClaim := { program := "ytomkbgobmafhjaa", sum := "25c3053157edff6c19c6054ea893004ad87a63a3431a1b2a1c4a05790dc24287", func := "flotsam/flotsamlaw13.GreyDoes", spec := "greyDoes", unfollowed := true, recurses := true, apart := false }
def GreyDoesSaid : Prop := greyDoesRow.holds Try.pinned (OpenSpec.ofChange greyDoesSpec)

/-- ITS FALSE NEIGHBOUR: 'it returns false'. Refute it at one input. -/
def greyDoesWrong : ChangeSpec := { name := "greyDoes", fn := fun _ => fun
  | [d1, d2, d3] => { results := [.lit (.bool false)], args := [d1, d2, d3] }
  | _ => none }
def GreyDoesWrongFalsely : Prop := greyDoesRow.holds Try.pinned (OpenSpec.ofChange greyDoesWrong)

/-- 'flotsamlaw13.GreyLast': WHATEVER THE INPUT: true; the input reads as it did. -/
def greyLastSpec : ChangeSpec := { name := "greyLast", fn := fun _ => fun
  | [d1, d2] => { results := [.lit (.bool true)], args := [d1, d2] }
  | _ => none }
def greyLastRow : OpenClaim := { program := "ytomkbgobmafhjaa", sum := "25c3053157edff6c19c6054ea893004ad87a63a3431a1b2a1c4a05790dc24287", func := "flotsam/flotsamlaw13.GreyLast", spec := "greyLast", unfollowed := true, recurses := true, apart := false }
def GreyLastSaid : Prop := greyLastRow.holds Try.pinned (OpenSpec.ofChange greyLastSpec)

/-- ITS FALSE NEIGHBOUR: 'it returns false'. Refute it at one input. -/
def greyLastWrong : ChangeSpec := { name := "greyLast", fn := fun _ => fun
  | [d1, d2] => { results := [.lit (.bool false)], args := [d1, d2] }
  | _ => none }
def GreyLastWrongFalsely : Prop := greyLastRow.holds Try.pinned (OpenSpec.ofChange greyLastWrong)

/-- 'flotsamlaw13.GreyKeeps': WHATEVER THE INPUT: true; the input reads as it did. -/
def greyKeepsSpec : ChangeSpec := { name := "greyKeeps", fn := fun _ => fun
  | [d1, d2] => { results := [.lit (.bool true)], args := [d1, d2] }
  | _ => none }
def greyKeepsRow : OpenClaim := { program := "ytomkbgobmafhjaa", sum := "25c3053157edff6c19c6054ea893004ad87a63a3431a1b2a1c4a05790dc24287", func := "flotsam/flotsamlaw13.GreyKeeps", spec := "greyKeeps", unfollowed := true, recurses := true, apart := false }
def GreyKeepsSaid : Prop := greyKeepsRow.holds Try.pinned (OpenSpec.ofChange greyKeepsSpec)

/-- ITS FALSE NEIGHBOUR: 'it returns false'. Refute it at one input. -/
def greyKeepsWrong : ChangeSpec := { name := "greyKeeps", fn := fun _ => fun
  | [d1, d2] => { results := [.lit (.bool false)], args := [d1, d2] }
  | _ => none }
def GreyKeepsWrongFalsely : Prop := greyKeepsRow.holds Try.pinned (OpenSpec.ofChange greyKeepsWrong)

/-- 'flotsamlaw13.GreyBack': WHATEVER THE INPUT: true; the input reads as it did. -/
def greyBackSpec : ChangeSpec := { name := "greyBack", fn := fun _ => fun
  | [d1, d2] => { results := [.lit (.bool true)], args := [d1, d2] }
  | _ => none }
def greyBackRow : OpenClaim := { program := "ytomkbgobmafhjaa", sum := "25c3053157edff6c19c6054ea893004ad87a63a3431a1b2a1c4a05790dc24287", func := "flotsam/flotsamlaw13.GreyBack", spec := "greyBack", unfollowed := true, recurses := true, apart := false }
def GreyBackSaid : Prop := greyBackRow.holds Try.pinned (OpenSpec.ofChange greyBackSpec)

/-- ITS FALSE NEIGHBOUR: 'it returns false'. Refute it at one input. -/
def greyBackWrong : ChangeSpec := { name := "greyBack", fn := fun _ => fun
  | [d1, d2] => { results := [.lit (.bool false)], args := [d1, d2] }
  | _ => none }
def GreyBackWrongFalsely : Prop := greyBackRow.holds Try.pinned (OpenSpec.ofChange greyBackWrong)

/-- 'flotsamlaw14.RootsDoes': WHATEVER THE INPUT: true; the input reads as it did. -/
def rootsDoesSpec : ChangeSpec := { name := "rootsDoes", fn := fun _ => fun
  | [d1, d2, d3, d4] => { results := [.lit (.bool true)], args := [d1, d2, d3, d4] }
  | _ => none }
def rootsDoesRow : OpenClaim := { program := "ytomkbgobmafhjaa", sum := "25c3053157edff6c19c6054ea893004ad87a63a3431a1b2a1c4a05790dc24287", func := "flotsam/flotsamlaw14.RootsDoes", spec := "rootsDoes", apart := false }
def RootsDoesSaid : Prop := rootsDoesRow.holds Try.pinned (OpenSpec.ofChange rootsDoesSpec)

/-- ITS FALSE NEIGHBOUR: 'it returns false'. Refute it at one input. -/
def rootsDoesWrong : ChangeSpec := { name := "rootsDoes", fn := fun _ => fun
  | [d1, d2, d3, d4] => { results := [.lit (.bool false)], args := [d1, d2, d3, d4] }
  | _ => none }
def RootsDoesWrongFalsely : Prop := rootsDoesRow.holds Try.pinned (OpenSpec.ofChange rootsDoesWrong)

/-- 'flotsamlaw14.RootsStack': WHATEVER THE INPUT: true; the input reads as it did. -/
def rootsStackSpec : ChangeSpec := { name := "rootsStack", fn := fun _ => fun
  | [d1, d2] => { results := [.lit (.bool true)], args := [d1, d2] }
  | _ => none }
def rootsStackRow : OpenClaim := { program := "ytomkbgobmafhjaa", sum := "25c3053157edff6c19c6054ea893004ad87a63a3431a1b2a1c4a05790dc24287", func := "flotsam/flotsamlaw14.RootsStack", spec := "rootsStack", apart := false }
def RootsStackSaid : Prop := rootsStackRow.holds Try.pinned (OpenSpec.ofChange rootsStackSpec)

/-- ITS FALSE NEIGHBOUR: 'it returns false'. Refute it at one input. -/
def rootsStackWrong : ChangeSpec := { name := "rootsStack", fn := fun _ => fun
  | [d1, d2] => { results := [.lit (.bool false)], args := [d1, d2] }
  | _ => none }
def RootsStackWrongFalsely : Prop := rootsStackRow.holds Try.pinned (OpenSpec.ofChange rootsStackWrong)

/-- 'flotsamlaw14.RootsKeeps': WHATEVER THE INPUT: true; the input reads as it did. -/
def rootsKeepsSpec : ChangeSpec := { name := "rootsKeeps", fn := fun _ => fun
  | [d1, d2] => { results := [.lit (.bool true)], args := [d1, d2] }
  | _ => none }
def rootsKeepsRow : OpenClaim := { program := "ytomkbgobmafhjaa", sum := "25c3053157edff6c19c6054ea893004ad87a63a3431a1b2a1c4a05790dc24287", func := "flotsam/flotsamlaw14.RootsKeeps", spec := "rootsKeeps", apart := false }
def RootsKeepsSaid : Prop := rootsKeepsRow.holds Try.pinned (OpenSpec.ofChange rootsKeepsSpec)

/-- ITS FALSE NEIGHBOUR: 'it returns false'. Refute it at one input. -/
def rootsKeepsWrong : ChangeSpec := { name := "rootsKeeps", fn := fun _ => fun
  | [d1, d2] => { results := [.lit (.bool false)], args := [d1, d2] }
  | _ => none }
def RootsKeepsWrongFalsely : Prop := rootsKeepsRow.holds Try.pinned (OpenSpec.ofChange rootsKeepsWrong)

/-- 'flotsamlaw14.RootsBack': WHATEVER THE INPUT: true; the input reads as it did. -/
def rootsBackSpec : ChangeSpec := { name := "rootsBack", fn := fun _ => fun
  | [d1, d2] => { results := [.lit (.bool true)], args := [d1, d2] }
  | _ => none }
def rootsBackRow : OpenClaim := { program := "ytomkbgobmafhjaa", sum := "25c3053157edff6c19c6054ea893004ad87a63a3431a1b2a1c4a05790dc24287", func := "flotsam/flotsamlaw14.RootsBack", spec := "rootsBack", apart := false }
def RootsBackSaid : Prop := rootsBackRow.holds Try.pinned (OpenSpec.ofChange rootsBackSpec)

/-- ITS FALSE NEIGHBOUR: 'it returns false'. Refute it at one input. -/
def rootsBackWrong : ChangeSpec := { name := "rootsBack", fn := fun _ => fun
  | [d1, d2] => { results := [.lit (.bool false)], args := [d1, d2] }
  | _ => none }
def RootsBackWrongFalsely : Prop := rootsBackRow.holds Try.pinned (OpenSpec.ofChange rootsBackWrong)

/- THE SECOND FORM. 'bulk': how many values and letters a reading holds, each counted each time it is reached (what is shared counts as often as it is met; a slice's spare places count too). A statement '..UptoSaid' is the law's where the arguments, and the package variables that the reading takes, are together of bulk at most 1048576: NARROWER than '..Said'. Prove '..Said' where nothing that the law and all that it calls make is longer than what came in: it says more and counts as full. Else prove '..UptoSaid'. A law counts once. -/
mutual
def uptoBulk {H : Type} : DataW H → Nat
  | .lit (.string bytes) => bytes.length + 1
  | .lit _ => 1
  | .nil => 1
  | .ptr d => uptoBulk d + 1
  | .slice elems spare => uptoBulkAll elems + uptoBulkAll spare + 1
  | .agg parts => uptoBulkAll parts + 1
  | .iface _ d => uptoBulk d + 1
  | .map entries => uptoBulkEntries entries + 1
  | .held _ => 1
def uptoBulkAll {H : Type} : List (DataW H) → Nat
  | [] => 0
  | d :: r => uptoBulk d + uptoBulkAll r
def uptoBulkEntries {H : Type} : List (Lit × DataW H) → Nat
  | [] => 0
  | x :: r => uptoBulkEntry x + uptoBulkEntries r
def uptoBulkEntry {H : Type} : Lit × DataW H → Nat
  | (.string bytes, d) => bytes.length + uptoBulk d + 1
  | (_, d) => uptoBulk d + 1
 end
def uptoSmall : (H : Type) → List (DataW H) → Bool := fun _ ds => decide (uptoBulkAll ds ≤ 1048576)
def OpenSpec.upto (s : _root_.Go.ChangeSpec) : _root_.Go.OpenSpec := { _root_.Go.OpenSpec.ofChange s with cond := some uptoSmall }

/-- 'flotsamlaw13.GreyDoes', WHERE WHAT IT READS IS OF BULK AT MOST 1048576: true; the input reads as it did. -/
def greyDoesUptoRow : OpenClaim := { program := "ytomkbgobmafhjaa", sum := "25c3053157edff6c19c6054ea893004ad87a63a3431a1b2a1c4a05790dc24287", func := "flotsam/flotsamlaw13.GreyDoes", spec := "greyDoes", unfollowed := true, recurses := true, apart := false, narrowed := true }
def GreyDoesUptoSaid : Prop := greyDoesUptoRow.holds Try.pinned (OpenSpec.upto greyDoesSpec)

/-- 'flotsamlaw13.GreyLast', WHERE WHAT IT READS IS OF BULK AT MOST 1048576: true; the input reads as it did. -/
def greyLastUptoRow : OpenClaim := { program := "ytomkbgobmafhjaa", sum := "25c3053157edff6c19c6054ea893004ad87a63a3431a1b2a1c4a05790dc24287", func := "flotsam/flotsamlaw13.GreyLast", spec := "greyLast", unfollowed := true, recurses := true, apart := false, narrowed := true }
def GreyLastUptoSaid : Prop := greyLastUptoRow.holds Try.pinned (OpenSpec.upto greyLastSpec)

/-- 'flotsamlaw13.GreyKeeps', WHERE WHAT IT READS IS OF BULK AT MOST 1048576: true; the input reads as it did. -/
def greyKeepsUptoRow : OpenClaim := { program := "ytomkbgobmafhjaa", sum := "25c3053157edff6c19c6054ea893004ad87a63a3431a1b2a1c4a05790dc24287", func := "flotsam/flotsamlaw13.GreyKeeps", spec := "greyKeeps", unfollowed := true, recurses := true, apart := false, narrowed := true }
def GreyKeepsUptoSaid : Prop := greyKeepsUptoRow.holds Try.pinned (OpenSpec.upto greyKeepsSpec)

/-- 'flotsamlaw13.GreyBack', WHERE WHAT IT READS IS OF BULK AT MOST 1048576: true; the input reads as it did. -/
def greyBackUptoRow : OpenClaim := { program := "ytomkbgobmafhjaa", sum := "25c3053157edff6c19c6054ea893004ad87a63a3431a1b2a1c4a05790dc24287", func := "flotsam/flotsamlaw13.GreyBack", spec := "greyBack", unfollowed := true, recurses := true, apart := false, narrowed := true }
def GreyBackUptoSaid : Prop := greyBackUptoRow.holds Try.pinned (OpenSpec.upto greyBackSpec)

/-- 'flotsamlaw14.RootsDoes', WHERE WHAT IT READS IS OF BULK AT MOST 1048576: true; the input reads as it did. -/
def rootsDoesUptoRow : OpenClaim := { program := "ytomkbgobmafhjaa", sum := "25c3053157edff6c19c6054ea893004ad87a63a3431a1b2a1c4a05790dc24287", func := "flotsam/flotsamlaw14.RootsDoes", spec := "rootsDoes", apart := false, narrowed := true }
def RootsDoesUptoSaid : Prop := rootsDoesUptoRow.holds Try.pinned (OpenSpec.upto rootsDoesSpec)

/-- 'flotsamlaw14.RootsStack', WHERE WHAT IT READS IS OF BULK AT MOST 1048576: true; the input reads as it did. -/
def rootsStackUptoRow : OpenClaim := { program := "ytomkbgobmafhjaa", sum := "25c3053157edff6c19c6054ea893004ad87a63a3431a1b2a1c4a05790dc24287", func := "flotsam/flotsamlaw14.RootsStack", spec := "rootsStack", apart := false, narrowed := true }
def RootsStackUptoSaid : Prop := rootsStackUptoRow.holds Try.pinned (OpenSpec.upto rootsStackSpec)

/-- 'flotsamlaw14.RootsKeeps', WHERE WHAT IT READS IS OF BULK AT MOST 1048576: true; the input reads as it did. -/
def rootsKeepsUptoRow : OpenClaim := { program := "ytomkbgobmafhjaa", sum := "25c3053157edff6c19c6054ea893004ad87a63a3431a1b2a1c4a05790dc24287", func := "flotsam/flotsamlaw14.RootsKeeps", spec := "rootsKeeps", apart := false, narrowed := true }
def RootsKeepsUptoSaid : Prop := rootsKeepsUptoRow.holds Try.pinned (OpenSpec.upto rootsKeepsSpec)

/-- 'flotsamlaw14.RootsBack', WHERE WHAT IT READS IS OF BULK AT MOST 1048576: true; the input reads as it did. -/
def rootsBackUptoRow : OpenClaim := { program := "ytomkbgobmafhjaa", sum := "25c3053157edff6c19c6054ea893004ad87a63a3431a1b2a1c4a05790dc24287", func := "flotsam/flotsamlaw14.RootsBack", spec := "rootsBack", apart := false, narrowed := true }
def RootsBackUptoSaid : Prop := rootsBackUptoRow.holds Try.pinned (OpenSpec.upto rootsBackSpec)

end Rows
end Go.Proofs.Ytomkbgobmafhjaa
