/- What the laws of sweep say. Plain lemmas; conditions: in each. -/
import Derived.Test.YthadoehgmdageaaDoorZ1SwP2
set_option linter.unusedVariables false
set_option linter.unusedSimpArgs false
namespace Go.Proofs.YthadoehgmdageaaDoor.Fl
open Go.RowKit
attribute [local irreducible] blkB zeroB
def stB (e : Bool) (ws : List Int) (sp : List Sp) (a : Int) : Bool := blB ws sp e a || ((spAt sp (a / 32)).1 != 2)
/-- All that stays refers, to black objects alone: of the first i objects. -/
def ClTo (e : Bool) (ws : List Int) (sp : List Sp) (i : Nat) : Prop := ∀ j : Nat, j < i → stB e ws sp ((lsA ws sp).getD j 0) = true → ∀ z ∈ refTo ws ((lsA ws sp).getD j 0) (gtN ws sp ((lsA ws sp).getD j 0)).toNat, blB ws sp e z = true
theorem ClTo.zero {e : Bool} {ws : List Int} {sp : List Sp} : ClTo e ws sp 0 := fun j h => by omega
theorem ClTo.succ {e : Bool} {ws : List Int} {sp : List Sp} {i : Nat} (h : ClTo e ws sp i) (hx : stB e ws sp ((lsA ws sp).getD i 0) = true → ∀ z ∈ refTo ws ((lsA ws sp).getD i 0) (gtN ws sp ((lsA ws sp).getD i 0)).toNat, blB ws sp e z = true) : ClTo e ws sp (i + 1) := fun j hj => by
  by_cases e1 : j = i
  · subst e1; exact hx
  · exact h j (by omega)
/-- The state of the two loops: what 'closed' says. -/
def CcI (e : Bool) (ws : List Int) (sp : List Sp) (i : Nat) (c : Bool) : Prop := c = true → ClTo e ws sp i
def CkI2 (e : Bool) (ws : List Int) (sp : List Sp) (i k : Nat) (c : Bool) : Prop := c = true → ClTo e ws sp i ∧ ∀ m : Nat, m < k → blB ws sp e ((refTo ws ((lsA ws sp).getD i 0) (gtN ws sp ((lsA ws sp).getD i 0)).toNat).getD m 0) = true
theorem CkI2.zero {e : Bool} {ws : List Int} {sp : List Sp} {i : Nat} {c : Bool} (h : CcI e ws sp i c) : CkI2 e ws sp i 0 c := fun hc => ⟨h hc, fun m hm => by omega⟩
theorem CkI2.step {e : Bool} {ws : List Int} {sp : List Sp} {i k : Nat} {c c' : Bool} (h : CkI2 e ws sp i k c) (hc : c' = true → c = true ∧ blB ws sp e ((refTo ws ((lsA ws sp).getD i 0) (gtN ws sp ((lsA ws sp).getD i 0)).toNat).getD k 0) = true) : CkI2 e ws sp i (k + 1) c' := fun h1 => by
  obtain ⟨a, b⟩ := hc h1
  refine ⟨(h a).1, fun m hm => ?_⟩
  by_cases e1 : m = k
  · subst e1; exact b
  · exact (h a).2 m (by omega)
theorem FmI.bg {ws : List Int} {sp : List Sp} (h : FmI ws sp) : ∀ i, i ≤ sp.length → FmI ws (bgTo sp i)
  | 0, _ => h
  | i + 1, hi => by
    have ih := h.bg i (by omega)
    unfold bgTo
    split
    · rename_i h1
      have hlt : i < (bgTo sp i).length := by rw [bgTo_len]; omega
      have hr := ih.right hlt
      refine ih.set i rfl ih.u64 ?_ (getD_u32 ih.u32 i)
      have hr2 : spR ((bgTo sp i).getD i (0, 0, 0)).1 ((bgTo sp i).getD i (0, 0, 0)).2.1 ((bgTo sp i).getD i (0, 0, 0)).2.2 = true := hr
      rw [h1] at hr2; exact hr2
    · exact ih
def BkTo (e : Bool) (ws : List Int) (sp : List Sp) (i : Nat) : Prop := ∀ j : Nat, j < i → blB ws sp e ((lsA ws sp).getD j 0) = true
theorem BkTo.zero {e : Bool} {ws : List Int} {sp : List Sp} : BkTo e ws sp 0 := fun j h => by omega
theorem BkTo.succ {e : Bool} {ws : List Int} {sp : List Sp} {i : Nat} (h : BkTo e ws sp i) (hx : blB ws sp e ((lsA ws sp).getD i 0) = true) : BkTo e ws sp (i + 1) := fun j hj => by
  by_cases e1 : j = i
  · subst e1; exact hx
  · exact h j (by omega)
end Go.Proofs.YthadoehgmdageaaDoor.Fl
