/- What the laws of sweep say. Plain lemmas; conditions: in each. -/
import Derived.Test.YthadoehgmdageaaDoorZ3SwP2
set_option linter.unusedVariables false
set_option linter.unusedSimpArgs false
namespace Go.Proofs.YthadoehgmdageaaDoor.Fl
open Go.RowKit
attribute [local irreducible] blkB zeroB
theorem chk_e0 {ws : List Int} {sp : List Sp} {e : Bool} (h : (chkI ws sp e != 0) = false) : (chkI ws sp e == 0) = true := beq_iff_eq.2 (bne_eq_false_iff_eq.1 h)
def stB (e : Bool) (ws : List Int) (sp : List Sp) (a : Int) : Bool := blB ws sp e a || ((spAt sp (a / 32)).1 != 2)
theorem al_st {cs : List Cc} {e : Bool} {ws : List Int} {sp : List Sp} (h : FmI ws sp) (q : Nat) : stP (alX cs e ws sp).2.1 ((q : Nat) : Int) ≠ 2 := dy_none (dy_zero (alX_fm h cs e).2.2.1) q
/-- All that stays refers, to black objects alone: of the first i objects. -/
def ClTo (e : Bool) (ws : List Int) (sp : List Sp) (i : Nat) : Prop := ∀ j : Nat, j < i → stB e ws sp ((lsA ws sp).getD j 0) = true → ∀ z ∈ refTo ws ((lsA ws sp).getD j 0) (gtN ws sp ((lsA ws sp).getD j 0)).toNat, blB ws sp e z = true
theorem ClTo.zero {e : Bool} {ws : List Int} {sp : List Sp} : ClTo e ws sp 0 := fun j h => by omega
theorem ClTo.succ {e : Bool} {ws : List Int} {sp : List Sp} {i : Nat} (h : ClTo e ws sp i) (hx : stB e ws sp ((lsA ws sp).getD i 0) = true → ∀ z ∈ refTo ws ((lsA ws sp).getD i 0) (gtN ws sp ((lsA ws sp).getD i 0)).toNat, blB ws sp e z = true) : ClTo e ws sp (i + 1) := fun j hj => by
  by_cases e1 : j = i
  · subst e1; exact hx
  · exact h j (by omega)
/-- The state of the two loops: what 'closed' says. -/
def CcI (e : Bool) (ws : List Int) (sp : List Sp) (i : Nat) (c : Bool) : Prop := c = true → ClTo e ws sp i
def CkI2 (e : Bool) (ws : List Int) (sp : List Sp) (i k : Nat) (c : Bool) : Prop := c = true → ClTo e ws sp i ∧ ∀ m : Nat, m < k → blB ws sp e ((refTo ws ((lsA ws sp).getD i 0) (gtN ws sp ((lsA ws sp).getD i 0)).toNat).getD m 0) = true
theorem CkI2.zero {e : Bool} {ws : List Int} {sp : List Sp} {i : Nat} {c : Bool} (h : CcI e ws sp i c) : CkI2 e ws sp i 0 c := fun hc => ⟨h hc, fun m hm => by omega⟩
theorem CkI2.step {e : Bool} {ws : List Int} {sp : List Sp} {i k : Nat} {c c' : Bool} (h : CkI2 e ws sp i k c) (hc : c' = true → c = true ∧ blB ws sp e ((refTo ws ((lsA ws sp).getD i 0) (gtN ws sp ((lsA ws sp).getD i 0)).toNat).getD k 0) = true) : CkI2 e ws sp i (k + 1) c' := fun h1 => by
  obtain ⟨a, b⟩ := hc h1
  refine ⟨(h a).1, fun m hm => ?_⟩
  by_cases e1 : m = k
  · subst e1; exact b
  · exact (h a).2 m (by omega)
theorem FmI.bg {ws : List Int} {sp : List Sp} (h : FmI ws sp) : ∀ i, i ≤ sp.length → FmI ws (bgTo sp i)
  | 0, _ => h
  | i + 1, hi => by
    have ih := h.bg i (by omega)
    unfold bgTo
    split
    · rename_i h1
      have hlt : i < (bgTo sp i).length := by rw [bgTo_len]; omega
      have hr := ih.right hlt
      refine ih.set i rfl ih.u64 ?_ (getD_u32 ih.u32 i)
      have hr2 : spR ((bgTo sp i).getD i (0, 0, 0)).1 ((bgTo sp i).getD i (0, 0, 0)).2.1 ((bgTo sp i).getD i (0, 0, 0)).2.2 = true := hr
      rw [h1] at hr2; exact hr2
    · exact ih
def BkTo (e : Bool) (ws : List Int) (sp : List Sp) (i : Nat) : Prop := ∀ j : Nat, j < i → blB ws sp e ((lsA ws sp).getD j 0) = true
theorem BkTo.zero {e : Bool} {ws : List Int} {sp : List Sp} : BkTo e ws sp 0 := fun j h => by omega
theorem BkTo.succ {e : Bool} {ws : List Int} {sp : List Sp} {i : Nat} (h : BkTo e ws sp i) (hx : blB ws sp e ((lsA ws sp).getD i 0) = true) : BkTo e ws sp (i + 1) := fun j hj => by
  by_cases e1 : j = i
  · subst e1; exact hx
  · exact h j (by omega)
def lfB (l : List Int) (p : Int) : Bool := l.any fun z => z / 32 == p
theorem al_pgn {cs : List Cc} {e : Bool} {ws : List Int} {sp : List Sp} (h : FbI ws sp) {q : Nat} (hs : ¬ (sp.getD q (0, 0, 0)).1 = 2) : (alX cs e ws sp).2.1.getD q (0, 0, 0) = sp.getD q (0, 0, 0) := ((alX_Q (cs := cs) (e := e) h).cl q (.inl hs)).1
theorem al_pgs {cs : List Cc} {e : Bool} {ws : List Int} {sp : List Sp} (h : FbI ws sp) {q : Nat} (hs : (sp.getD q (0, 0, 0)).1 = 2) : ((alX cs e ws sp).2.1.getD q (0, 0, 0)).1 = if (lfB (lsA (alX cs e ws sp).1 (alX cs e ws sp).2.1) ((q : Nat) : Int) || kpB cs ((q : Nat) : Int)) = true then 1 else 0 := by
  have Q := alX_Q (cs := cs) (e := e) h
  obtain ⟨_, f3, f4⟩ := Q.fb.frm
  have hmem : ∀ z : Int, z ∈ lsA (alX cs e ws sp).1 (alX cs e ws sp).2.1 ↔ gtOk (alX cs e ws sp).1 (alX cs e ws sp).2.1 z = true := fun z => by
    refine ls_mem.trans ⟨fun h => h.2, fun h => ⟨?_, h⟩⟩
    have := fn_lt (gt_parts h).1 f4; omega
  rcases Q.st q hs (al_st h.fm q) with ⟨h1, h2, h3⟩ | ⟨h1, h2⟩
  · have hl : lfB (lsA (alX cs e ws sp).1 (alX cs e ws sp).2.1) ((q : Nat) : Int) = false := by
      unfold lfB; rw [List.any_eq_false]
      intro z hz hx
      have := (hmem z).1 hz
      rw [h3 z (eq_of_beq hx)] at this; cases this
    rw [hl, h2, if_neg (by decide)]; exact h1
  · have hl : (lfB (lsA (alX cs e ws sp).1 (alX cs e ws sp).2.1) ((q : Nat) : Int) || kpB cs ((q : Nat) : Int)) = true := by
      rcases h2 with h2 | ⟨z, hz, h2⟩
      · rw [h2, Bool.or_true]
      · rw [Bool.or_eq_true]; left
        unfold lfB; rw [List.any_eq_true]
        exact ⟨z, (hmem z).2 h2, beq_iff_eq.2 hz⟩
    rw [hl, if_pos rfl]; exact h1

end Go.Proofs.YthadoehgmdageaaDoor.Fl
