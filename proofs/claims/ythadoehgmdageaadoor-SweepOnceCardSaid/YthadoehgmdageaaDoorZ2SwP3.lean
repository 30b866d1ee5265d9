/- What the laws of sweep say. Plain lemmas; conditions: in each. -/
import Derived.Test.YthadoehgmdageaaDoorZ2SwP2
set_option linter.unusedVariables false
set_option linter.unusedSimpArgs false
namespace Go.Proofs.YthadoehgmdageaaDoor.Fl
open Go.RowKit
attribute [local irreducible] blkB zeroB
theorem chk_e0 {ws : List Int} {sp : List Sp} {e : Bool} (h : (chkI ws sp e != 0) = false) : (chkI ws sp e == 0) = true := beq_iff_eq.2 (bne_eq_false_iff_eq.1 h)
def stB (e : Bool) (ws : List Int) (sp : List Sp) (a : Int) : Bool := blB ws sp e a || ((spAt sp (a / 32)).1 != 2)
theorem al_st {cs : List Cc} {e : Bool} {ws : List Int} {sp : List Sp} (h : FmI ws sp) (q : Nat) : stP (alX cs e ws sp).2.1 ((q : Nat) : Int) ≠ 2 := dy_none (dy_zero (alX_fm h cs e).2.2.1) q
theorem al_gt {cs : List Cc} {e : Bool} {ws : List Int} {sp : List Sp} (h : FbI ws sp) (a : Int) : gtOk (alX cs e ws sp).1 (alX cs e ws sp).2.1 a = (gtOk ws sp a && stB e ws sp a) := by
  have Q := alX_Q (cs := cs) (e := e) h
  have hs := al_st (cs := cs) (e := e) h.fm
  by_cases ha : 0 ≤ a
  · have hq : a / 32 = (((a / 32).toNat : Nat) : Int) := by omega
    generalize (a / 32).toNat = q at hq
    unfold stB; rw [hq]
    by_cases e1 : stP sp ((q : Nat) : Int) = 2
    · rw [Q.gt q e1 (hs q) a hq, show (spAt sp ((q : Nat) : Int)).1 = 2 from e1]; simp
    · have hc := Q.cl q (.inl e1)
      rw [(page_same Q.len hc.1 hc.2 hq).1, show ((spAt sp ((q : Nat) : Int)).1 != 2) = true from bne_iff_ne.2 e1]; simp
  · have : ∀ (w : List Int) (s : List Sp), gtOk w s a = false := fun w s => by unfold gtOk fnOk; rw [decide_eq_false ha]; rfl
    rw [this, this]; rfl
/-- All that stays refers, to black objects alone: of the first i objects. -/
def ClTo (e : Bool) (ws : List Int) (sp : List Sp) (i : Nat) : Prop := ∀ j : Nat, j < i → stB e ws sp ((lsA ws sp).getD j 0) = true → ∀ z ∈ refTo ws ((lsA ws sp).getD j 0) (gtN ws sp ((lsA ws sp).getD j 0)).toNat, blB ws sp e z = true
theorem ClTo.zero {e : Bool} {ws : List Int} {sp : List Sp} : ClTo e ws sp 0 := fun j h => by omega
theorem ClTo.succ {e : Bool} {ws : List Int} {sp : List Sp} {i : Nat} (h : ClTo e ws sp i) (hx : stB e ws sp ((lsA ws sp).getD i 0) = true → ∀ z ∈ refTo ws ((lsA ws sp).getD i 0) (gtN ws sp ((lsA ws sp).getD i 0)).toNat, blB ws sp e z = true) : ClTo e ws sp (i + 1) := fun j hj => by
  by_cases e1 : j = i
  · subst e1; exact hx
  · exact h j (by omega)
/-- The state of the two loops: what 'closed' says. -/
def CcI (e : Bool) (ws : List Int) (sp : List Sp) (i : Nat) (c : Bool) : Prop := c = true → ClTo e ws sp i
def CkI2 (e : Bool) (ws : List Int) (sp : List Sp) (i k : Nat) (c : Bool) : Prop := c = true → ClTo e ws sp i ∧ ∀ m : Nat, m < k → blB ws sp e ((refTo ws ((lsA ws sp).getD i 0) (gtN ws sp ((lsA ws sp).getD i 0)).toNat).getD m 0) = true
theorem CkI2.zero {e : Bool} {ws : List Int} {sp : List Sp} {i : Nat} {c : Bool} (h : CcI e ws sp i c) : CkI2 e ws sp i 0 c := fun hc => ⟨h hc, fun m hm => by omega⟩
theorem CkI2.step {e : Bool} {ws : List Int} {sp : List Sp} {i k : Nat} {c c' : Bool} (h : CkI2 e ws sp i k c) (hc : c' = true → c = true ∧ blB ws sp e ((refTo ws ((lsA ws sp).getD i 0) (gtN ws sp ((lsA ws sp).getD i 0)).toNat).getD k 0) = true) : CkI2 e ws sp i (k + 1) c' := fun h1 => by
  obtain ⟨a, b⟩ := hc h1
  refine ⟨(h a).1, fun m hm => ?_⟩
  by_cases e1 : m = k
  · subst e1; exact b
  · exact (h a).2 m (by omega)
theorem stB_b {e : Bool} {ws : List Int} {sp : List Sp} {a : Int} (h : blB ws sp e a = true) : stB e ws sp a = true := by unfold stB; rw [h]; rfl
theorem ph_none {e : Bool} {ws : List Int} {sp : List Sp} (h : ∀ q : Nat, phT e ws sp q = 0) : ∀ i, phTo e ws sp i = 0
  | 0 => rfl
  | i + 1 => by show phTo e ws sp i + phT e ws sp i = 0; rw [ph_none h i, h i]; rfl
theorem al_sum {cs : List Cc} {e : Bool} {ws : List Int} {sp : List Sp} (h : FbI ws sp) : (alX cs e ws sp).2.2 = phTo e ws sp sp.length := by
  have Q := (alX_Q (cs := cs) (e := e) h).sum
  rw [ph_none (fun q => by unfold phT; rw [if_neg (al_st h.fm q)])] at Q
  omega
theorem lsTo_same {ws ws' : List Int} {sp sp' : List Sp} (h : ∀ a : Int, gtOk ws' sp' a = gtOk ws sp a) : ∀ i, lsTo ws' sp' i = lsTo ws sp i
  | 0 => rfl
  | i + 1 => by unfold lsTo; rw [lsTo_same h i, h]
theorem lsA_same {ws ws' : List Int} {sp sp' : List Sp} (hl : ws'.length = ws.length) (h : ∀ a : Int, gtOk ws' sp' a = gtOk ws sp a) : lsA ws' sp' = lsA ws sp := by unfold lsA; rw [hl]; exact lsTo_same h _
theorem al_lsA {cs cs' : List Cc} {e : Bool} {ws : List Int} {sp : List Sp} (h : FbI ws sp) : lsA (alX cs e ws sp).1 (alX cs e ws sp).2.1 = lsA (alX cs' e ws sp).1 (alX cs' e ws sp).2.1 := by
  refine lsA_same ?_ fun a => by rw [al_gt h, al_gt h]
  rw [(alX_Q h).lenw, (alX_Q h).lenw]
theorem bg_at (sp : List Sp) (q : Nat) : ∀ i, i ≤ sp.length → spAt (bgTo sp i) ((q : Nat) : Int) = if q < i ∧ stP sp ((q : Nat) : Int) = 1 then (2, clP sp ((q : Nat) : Int), frP sp ((q : Nat) : Int)) else spAt sp ((q : Nat) : Int)
  | 0, _ => by rw [if_neg (fun h => by omega)]; rfl
  | i + 1, hi => by
    have ih := bg_at sp q i (by omega)
    by_cases e1 : q = i
    · subst e1
      rw [if_neg (fun h => by omega)] at ih
      unfold bgTo
      have ih2 : (bgTo sp q).getD q (0, 0, 0) = spAt sp ((q : Nat) : Int) := ih
      rw [ih2]
      by_cases e2 : (spAt sp ((q : Nat) : Int)).1 = 1
      · rw [if_pos e2, if_pos ⟨by omega, e2⟩, spAt_set, if_pos ⟨rfl, by rw [bgTo_len]; omega⟩]; rfl
      · rw [if_neg e2, if_neg (fun h => e2 h.2)]; exact ih
    · have e3 : (if q < i + 1 ∧ stP sp ((q : Nat) : Int) = 1 then ((2, clP sp ((q : Nat) : Int), frP sp ((q : Nat) : Int)) : Sp) else spAt sp ((q : Nat) : Int)) = (if q < i ∧ stP sp ((q : Nat) : Int) = 1 then (2, clP sp ((q : Nat) : Int), frP sp ((q : Nat) : Int)) else spAt sp ((q : Nat) : Int)) := by
        by_cases hA : q < i ∧ stP sp ((q : Nat) : Int) = 1
        · rw [if_pos hA, if_pos ⟨by omega, hA.2⟩]
        · rw [if_neg hA, if_neg (fun h => hA ⟨by omega, h.2⟩)]
      rw [e3, ← ih]
      show spAt (if ((bgTo sp i).getD i (0, 0, 0)).1 = 1 then _ else _) _ = _
      split
      · rw [spAt_set, if_neg (fun h => e1 h.1.symm)]
      · rfl
theorem FmI.bg {ws : List Int} {sp : List Sp} (h : FmI ws sp) : ∀ i, i ≤ sp.length → FmI ws (bgTo sp i)
  | 0, _ => h
  | i + 1, hi => by
    have ih := h.bg i (by omega)
    unfold bgTo
    split
    · rename_i h1
      have hlt : i < (bgTo sp i).length := by rw [bgTo_len]; omega
      have hr := ih.right hlt
      refine ih.set i rfl ih.u64 ?_ (getD_u32 ih.u32 i)
      have hr2 : spR ((bgTo sp i).getD i (0, 0, 0)).1 ((bgTo sp i).getD i (0, 0, 0)).2.1 ((bgTo sp i).getD i (0, 0, 0)).2.2 = true := hr
      rw [h1] at hr2; exact hr2
    · exact ih
theorem FbI.bgn {ws : List Int} {sp : List Sp} (h : FbI ws sp) : FbI ws (bgS sp) ∧ ∀ z : Int, gtOk ws (bgS sp) z = gtOk ws sp z ∧ gtB ws (bgS sp) z = gtB ws sp z ∧ gtC ws (bgS sp) z = gtC ws sp z ∧ gtN ws (bgS sp) z = gtN ws sp z := by
  refine h.state (h.fm.bg _ (Nat.le_refl _)) (bgS_len sp) fun q => ?_
  have := bg_at sp q sp.length (Nat.le_refl _)
  unfold stP clP frP bgS; rw [this]
  split
  · rename_i h1
    have h2 : (spAt sp ((q : Nat) : Int)).1 = 1 := h1.2
    exact ⟨by rw [h2]; rfl, rfl, rfl⟩
  · exact ⟨rfl, rfl, rfl⟩
def BkTo (e : Bool) (ws : List Int) (sp : List Sp) (i : Nat) : Prop := ∀ j : Nat, j < i → blB ws sp e ((lsA ws sp).getD j 0) = true
theorem BkTo.zero {e : Bool} {ws : List Int} {sp : List Sp} : BkTo e ws sp 0 := fun j h => by omega
theorem BkTo.succ {e : Bool} {ws : List Int} {sp : List Sp} {i : Nat} (h : BkTo e ws sp i) (hx : blB ws sp e ((lsA ws sp).getD i 0) = true) : BkTo e ws sp (i + 1) := fun j hj => by
  by_cases e1 : j = i
  · subst e1; exact hx
  · exact h j (by omega)
theorem again {cs : List Cc} {e : Bool} {ws : List Int} {sp : List Sp} (h : FbI ws sp) {i : Nat} (hb : BkTo e ws sp i) (hi : ¬ ((i : Nat) : Int) < ((lsA ws sp).length : Int)) : (alX cs e ws (bgS sp)).2.2 = 0 ∧ lsA (alX cs e ws (bgS sp)).1 (alX cs e ws (bgS sp)).2.1 = lsA ws sp := by
  obtain ⟨hB, hg⟩ := h.bgn
  obtain ⟨_, f3, f4⟩ := h.frm
  have hall : ∀ z : Int, gtOk ws sp z = true → blB ws (bgS sp) e z = true := fun z hz => by
    have hm : z ∈ lsA ws sp := ls_mem.2 ⟨by have := fn_lt (gt_parts hz).1 f4; omega, hz⟩
    obtain ⟨m, hm1, hm2⟩ := List.getElem_of_mem hm
    have := hb m (by omega)
    rw [show (lsA ws sp).getD m 0 = z by rw [← hm2]; simp [List.getD, hm1]] at this
    unfold blB at this ⊢; rw [(hg z).1, (hg z).2.1]; exact this
  constructor
  · rw [al_sum hB]
    refine ph_none (fun q => ?_) _
    unfold phT
    split
    · have key : ∀ n, frTo e ws (bgS sp) q n = 0 := fun n => by
        induction n with
        | zero => rfl
        | succ n ih =>
          show (if toF e ws (bgS sp) q n = true then _ else _) = 0
          rw [if_neg, ih]
          intro ht
          unfold toF at ht
          simp only [Bool.and_eq_true] at ht
          rw [hall _ (by rw [← (hg _).1]; exact ht.1)] at ht
          exact absurd ht.2 (by decide)
      exact key _
    · rfl
  · refine lsA_same (alX_Q hB).lenw fun a => ?_
    rw [al_gt hB, (hg a).1]
    cases e1 : gtOk ws sp a with
    | false => rfl
    | true => rw [stB_b (hall a e1)]; rfl
end Go.Proofs.YthadoehgmdageaaDoor.Fl
