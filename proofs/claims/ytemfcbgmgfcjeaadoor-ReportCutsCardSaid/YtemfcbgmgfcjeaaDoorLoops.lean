/- Loops that append to a list of their own. Plain lemmas; conditions: in each. -/
import Derived.Test.YtemfcbgmgfcjeaaDoorNum2
import Derived.Test.YtemfcbgmgfcjeaaDoorLists
import Derived.Test.YtemfcbgmgfcjeaaDoorVec
set_option linter.unusedVariables false
set_option linter.unusedSimpArgs false
namespace Go.Proofs.YtemfcbgmgfcjeaaDoor.Fl
def gh (l : List Nat) (i : Nat) : Nat := l.getD i 0
structure GV (α : Type) where
  i : Nat
  b : Nat
  o : Nat
  m : Nat
  x : List α
def GInv {α : Type} (F : Nat → List α) (N : Nat) (s : GV α) : Prop := s.i ≤ N ∧ s.x = F s.i ∧ s.x.length ≤ s.m ∧ (s.b = 0 → s.m = 0)
theorem GInv.zero {α : Type} {F : Nat → List α} {N : Nat} (h : [] = F 0) : GInv F N (GV.mk 0 0 0 0 []) := ⟨Nat.zero_le _, h, Nat.le_refl _, fun _ => rfl⟩
theorem GInv.push {α : Type} {F : Nat → List α} {N : Nat} {s : GV α} (h : GInv F N s) (hi : s.i < N) {y : List α} (e : y = F (s.i + 1)) {b o m : Nat} (hm : y.length ≤ m) (hb : b = 0 → m = 0) : GInv F N (GV.mk (s.i + 1) b o m y) := ⟨hi, e, hm, hb⟩
theorem GInv.skip {α : Type} {F : Nat → List α} {N : Nat} {s : GV α} (h : GInv F N s) (hi : s.i < N) (e : F s.i = F (s.i + 1)) : GInv F N (GV.mk (s.i + 1) s.b s.o s.m s.x) := ⟨hi, h.2.1.trans e, h.2.2.1, h.2.2.2⟩
theorem GInv.len {α : Type} {F : Nat → List α} {N K : Nat} {s : GV α} (h : GInv F N s) (hF : ∀ i, i ≤ N → (F i).length ≤ K) : s.x.length ≤ K := by rw [h.2.1]; exact hF _ h.1
theorem GInv.done {α : Type} {F : Nat → List α} {N : Nat} {s : GV α} (h : GInv F N s) (hi : ¬ ((s.i : Nat) : Int) < ((N : Nat) : Int)) : s.x = F N := by rw [h.2.1, show s.i = N by have := h.1; omega]
theorem GInv.app {α : Type} {F : Nat → List α} {N : Nat} {s : GV α} (h : GInv F N s) {y : List α} (e : F s.i ++ y = F (s.i + 1)) : s.x ++ y = F (s.i + 1) := by rw [h.2.1]; exact e
/-- A place, and a list of one's own. -/
structure LK (α : Type) where
  i : Nat
  x : List α
theorem take_oneD {α : Type} {xs : List α} {i : Nat} (d : α) (h : i < xs.length) : xs.take (i + 1) = xs.take i ++ [xs.getD i d] := by
  rw [List.take_succ_eq_append_getElem h, show xs.getD i d = xs[i] by simp [List.getD, h]]
end Go.Proofs.YtemfcbgmgfcjeaaDoor.Fl
