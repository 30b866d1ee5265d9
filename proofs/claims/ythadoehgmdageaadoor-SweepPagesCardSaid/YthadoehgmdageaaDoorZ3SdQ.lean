/- What deeds make of a heap is sound. Plain lemmas; conditions: in each. -/
import Derived.Test.YthadoehgmdageaaDoorZ3SdO
set_option linter.unusedVariables false
set_option linter.unusedSimpArgs false
namespace Go.Proofs.YthadoehgmdageaaDoor.Fl
open Go.RowKit
attribute [local irreducible] blkB zeroB
def mdF (ws : List Int) (sp : List Sp) (p a : Int) (f : Bool) : Bool := if f = true then zeroB ws a.toNat (cWords (clP sp p)).toNat else gtOk ws sp a && (gtC ws sp a == clP sp p && zeroB ws (a + 1).toNat (cWords (clP sp p) - 1).toNat)
structure MadeI (ws : List Int) (sp : List Sp) : Prop where
  form : formB ws.length sp = true
  u32 : ∀ s ∈ sp, inU32 s.2.2
  u64 : ∀ x ∈ ws, inU64 x
  pgs : PgTo ws sp sp.length
  blk : ∀ q j : Nat, BlAt sp q j → mdF ws sp ((q : Nat) : Int) (adr sp q j) (hasB (frP sp ((q : Nat) : Int)) ((j : Nat) : Int)) = true
theorem zero_eq {ws ws' : List Int} {a n : Nat} (hl : ws'.length = ws.length) (h : a + n ≤ ws.length) (he : ∀ k : Nat, k < n → ws'.getD (a + k) 0 = ws.getD (a + k) 0) : zeroB ws' a n = zeroB ws a n := by
  rw [Bool.eq_iff_iff, zero_iff h, zero_iff (by rw [hl]; exact h)]
  constructor
  · intro hz k hk; rw [← he k hk]; exact hz k hk
  · intro hz k hk; rw [he k hk]; exact hz k hk
theorem spAt_n (sp : List Sp) (q : Nat) : spAt sp ((q : Nat) : Int) = sp.getD q (0, 0, 0) := rfl
theorem mem_getD {sp : List Sp} {s : Sp} (h : s ∈ sp) : ∃ q : Nat, q < sp.length ∧ spAt sp ((q : Nat) : Int) = s := by
  obtain ⟨q, hq, rfl⟩ := List.getElem_of_mem h
  exact ⟨q, hq, by rw [spAt_n]; simp [List.getD, hq]⟩
theorem gt_same2 {ws ws' : List Int} {sp sp' : List Sp} {b : Int} (hl : sp'.length = sp.length) (hs : spAt sp' (b / 32) = spAt sp (b / 32)) (h : fnOk sp b = true → wAt ws' b = wAt ws b) : gtOk ws' sp' b = gtOk ws sp b ∧ gtC ws' sp' b = gtC ws sp b ∧ gtN ws' sp' b = gtN ws sp b := by
  have hf : fnOk sp' b = fnOk sp b := by unfold fnOk stP clP; rw [hl, hs]
  cases e : fnOk sp b with
  | false => unfold gtC gtN gtOk; rw [hf, e]; simp
  | true => have hw := h e; unfold gtC gtN gtOk; rw [hf, hw]; exact ⟨rfl, rfl, rfl⟩
theorem MadeI.change {ws ws' : List Int} {sp sp' : List Sp} (h : MadeI ws sp) (q0 : Nat) (hq0 : q0 < sp.length) (hl : sp'.length = sp.length) (hw : ws'.length = ws.length) (hs : ∀ q : Nat, q ≠ q0 → spAt sp' ((q : Nat) : Int) = spAt sp ((q : Nat) : Int)) (ho : ∀ x : Nat, x < ws.length → x / 32 ≠ q0 → ws'.getD x 0 = ws.getD x 0)
    (hr : rightS (spAt sp' ((q0 : Nat) : Int)) = true ∧ inU32 (spAt sp' ((q0 : Nat) : Int)).2.2) (hu : ∀ x ∈ ws', inU64 x) (hz : stP sp' ((q0 : Nat) : Int) = 0 → zeroB ws' (32 * q0) 32 = true) (hb : ∀ j : Nat, BlAt sp' q0 j → mdF ws' sp' ((q0 : Nat) : Int) (adr sp' q0 j) (hasB (frP sp' ((q0 : Nat) : Int)) ((j : Nat) : Int)) = true) : MadeI ws' sp' := by
  obtain ⟨f1, f2, f3, f4⟩ := form_p h.form
  have hst : ∀ q : Nat, q ≠ q0 → stP sp' ((q : Nat) : Int) = stP sp ((q : Nat) : Int) ∧ clP sp' ((q : Nat) : Int) = clP sp ((q : Nat) : Int) ∧ frP sp' ((q : Nat) : Int) = frP sp ((q : Nat) : Int) := fun q hq => by unfold stP clP frP; rw [hs q hq]; exact ⟨rfl, rfl, rfl⟩
  refine ⟨form_of (fun s hs' => ?_) (by omega) (by omega) (by omega), fun s hs' => ?_, hu, fun q hq hq' => ?_, fun q j hbl => ?_⟩
  · obtain ⟨q, hq, rfl⟩ := mem_getD hs'
    by_cases e : q = q0
    · rw [e]; exact hr.1
    · rw [hs q e, spAt_n]; exact f1 _ (by rw [show sp.getD q (0, 0, 0) = sp[q]'(by omega) by simp [List.getD, show q < sp.length by omega]]; exact List.getElem_mem _)
  · obtain ⟨q, hq, rfl⟩ := mem_getD hs'
    by_cases e : q = q0
    · rw [e]; exact hr.2
    · rw [hs q e]; exact getD_u32 h.u32 q
  · by_cases e : q = q0
    · subst e; exact hz hq'
    · rw [(hst q e).1] at hq'
      rw [zero_eq hw (by omega) fun k hk => ho _ (by omega) (by omega)]
      exact h.pgs q (by omega) hq'
  · by_cases e : q = q0
    · subst e; exact hb j hbl
    · obtain ⟨s1, s2, s3⟩ := hst q e
      have hbo : BlAt sp q j := ⟨by have := hbl.1; omega, by rw [← s1]; exact hbl.2.1, by rw [← s2]; exact hbl.2.2⟩
      have ha : adr sp' q j = adr sp q j := by unfold adr; rw [s2]
      have hg := blk_range f3 hbo; have hlen := blk_len f3 hbo f4
      obtain ⟨g1, g2, g3⟩ := gt_same2 (ws := ws) (ws' := ws') (sp := sp) (sp' := sp') (b := adr sp q j) hl (by rw [hg.2.2.1]; exact hs q e) fun _ => ho _ (by omega) (by omega)
      have hold := h.blk q j hbo
      unfold mdF at hold ⊢
      rw [ha, s2, s3, g1, g2, zero_eq hw (by omega) fun k hk => ho _ (by omega) (by omega), zero_eq (ws := ws) (ws' := ws') hw (a := (adr sp q j + 1).toNat) (by omega) fun k hk => ho _ (by omega) (by omega)]
      exact hold
theorem MadeI.fil {ws : List Int} {sp : List Sp} (h : MadeI ws sp) {e : Bool} : (chkI ws sp e == 0) = true := by
  obtain ⟨f1, f2, f3, f4⟩ := form_p h.form
  have hobj : ∀ q j : Nat, BlAt sp q j → gtOk ws sp (adr sp q j) = true → zeroB ws (adr sp q j + 1).toNat (cWords (clP sp ((q : Nat) : Int)) - 1).toNat = true := fun q j hb hg => by
    have hm := h.blk q j hb
    have hr := blk_range f3 hb; have hlen := blk_len f3 hb f4
    unfold mdF at hm
    split at hm
    · have := (zero_iff (by omega)).1 hm 0 (by omega)
      rw [gt_zero (ws := ws) (sp := sp) (a := adr sp q j) this] at hg; cases hg
    · simp only [Bool.and_eq_true] at hm; exact hm.2.2
  refine chk_eq h.form ?_ ?_ ?_
  · unfold filA; rw [Bool.and_eq_true]
    refine ⟨pgs_iff.2 h.pgs, blk_iff.2 fun q j hb => ?_⟩
    have hm := h.blk q j hb
    unfold mdF at hm; unfold filF
    split
    · rename_i hh; rw [if_pos hh] at hm; exact hm
    · rename_i hh; rw [if_neg hh] at hm
      simp only [Bool.and_eq_true] at hm ⊢; exact ⟨hm.1, hm.2.1⟩
  · refine blk_iff.2 fun q j hb => ?_
    have hr := blk_range f3 hb; have hlen := blk_len f3 hb f4
    have hm := h.blk q j hb
    have hgr := gt_range (ws := ws) (sp := sp) (a := adr sp q j)
    cases hg : gtOk ws sp (adr sp q j) with
    | true =>
      have hz := hobj q j hb hg
      unfold behF
      by_cases e3 : cWords (clP sp ((q : Nat) : Int)) - 1 - gtN ws sp (adr sp q j) ≤ 0
      · rw [show (cWords (clP sp ((q : Nat) : Int)) - 1 - gtN ws sp (adr sp q j)).toNat = 0 by omega]; unfold zeroB; simp
      · refine (zero_iff (by omega)).2 fun k hk => ?_
        have := (zero_iff (by omega)).1 hz ((gtN ws sp (adr sp q j)).toNat + k) (by omega)
        rwa [show (adr sp q j + 1).toNat + ((gtN ws sp (adr sp q j)).toNat + k) = (adr sp q j + 1 + gtN ws sp (adr sp q j)).toNat + k by omega] at this
    | false =>
      unfold mdF at hm
      split at hm
      · exact beh_free f3 f4 hb hm
      · rw [hg] at hm; simp at hm
  · refine blk_iff.2 fun q j hb => ?_
    have hr := blk_range f3 hb; have hlen := blk_len f3 hb f4
    have href : refTo ws (adr sp q j) (gtN ws sp (adr sp q j)).toNat = [] := by
      refine List.eq_nil_iff_forall_not_mem.2 fun z hz => ?_
      obtain ⟨i, i1, i2, _⟩ := (ref_mem _).1 hz
      have hgr := gt_range (ws := ws) (sp := sp) (a := adr sp q j)
      have hg := gtN_pos (ws := ws) (sp := sp) (a := adr sp q j) (i := i) (by omega)
      have hzz := hobj q j hb hg
      by_cases e3 : ((i : Nat) : Int) < cWords (clP sp ((q : Nat) : Int)) - 1
      · have := (zero_iff (by omega)).1 hzz i (by omega)
        have hw0 : wAt ws (adr sp q j + 1 + ((i : Nat) : Int)) = 0 := by unfold wAt; rw [show (adr sp q j + 1 + ((i : Nat) : Int)).toNat = (adr sp q j + 1).toNat + i by omega]; exact this
        rw [hw0] at i2; cases i2
      · have hm := h.blk q j hb
        have hp := gt_parts hg; have hrg := good_range hp.2.1
        unfold mdF at hm
        split at hm
        · have := (zero_iff (by omega)).1 hm 0 (by omega)
          rw [gt_zero (ws := ws) (sp := sp) (a := adr sp q j) this] at hg; cases hg
        · simp only [Bool.and_eq_true, beq_iff_eq] at hm
          rw [← hm.2.1, hp.2.2.2.1] at e3; rw [hp.2.2.1] at i1; omega
    unfold refF; rw [href]; simp

end Go.Proofs.YthadoehgmdageaaDoor.Fl
