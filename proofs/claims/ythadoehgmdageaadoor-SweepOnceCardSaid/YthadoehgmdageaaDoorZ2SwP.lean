/- Heaps whose blocks are as their spans say. Plain lemmas; conditions: in each. -/
import Derived.Test.YthadoehgmdageaaDoorZ2SwF
set_option linter.unusedVariables false
set_option linter.unusedSimpArgs false
namespace Go.Proofs.YthadoehgmdageaaDoor.Fl
open Go.RowKit
attribute [local irreducible] blkB zeroB
structure FbI (ws : List Int) (sp : List Sp) : Prop where
  fm : FmI ws sp
  fil : filA ws sp = true
  beh : behA ws sp = true
theorem FbI.of {ws : List Int} {sp : List Sp} {e : Bool} (hw : ∀ x ∈ ws, inU64 x) (hf : ∀ s ∈ sp, inU32 s.2.2) (hc : (chkI ws sp e == 0) = true) : FbI ws sp := by
  obtain ⟨h1, h2, h3, _⟩ := chk_all hc
  exact ⟨⟨h1, hf, hw⟩, h2, h3⟩
theorem FbI.pg {ws : List Int} {sp : List Sp} (h : FbI ws sp) : PgTo ws sp sp.length := by
  have := h.fil; unfold filA at this; simp only [Bool.and_eq_true] at this
  exact pgs_iff.1 this.1
theorem FbI.bl {ws : List Int} {sp : List Sp} (h : FbI ws sp) {q j : Nat} (hb : BlAt sp q j) : filF ws sp ((q : Nat) : Int) (adr sp q j) (hasB (frP sp ((q : Nat) : Int)) ((j : Nat) : Int)) = true ∧ behF ws sp ((q : Nat) : Int) (adr sp q j) false = true := by
  have := h.fil; unfold filA at this; simp only [Bool.and_eq_true] at this
  exact ⟨blk_iff.1 this.2 q j hb, blk_iff.1 h.beh q j hb⟩
theorem FbI.mk' {ws : List Int} {sp : List Sp} (fm : FmI ws sp) (hp : PgTo ws sp sp.length) (hb : ∀ q j : Nat, BlAt sp q j → filF ws sp ((q : Nat) : Int) (adr sp q j) (hasB (frP sp ((q : Nat) : Int)) ((j : Nat) : Int)) = true ∧ behF ws sp ((q : Nat) : Int) (adr sp q j) false = true) : FbI ws sp := by
  refine ⟨fm, ?_, blk_iff.2 fun q j h => (hb q j h).2⟩
  unfold filA; rw [pgs_iff.2 hp, blk_iff.2 fun q j h => (hb q j h).1]; rfl
theorem FbI.frm {ws : List Int} {sp : List Sp} (h : FbI ws sp) : 1 ≤ sp.length ∧ sp.length ≤ 16 ∧ ws.length = 32 * sp.length := (form_p h.fm.form).2
theorem FbI.zero {ws : List Int} {sp : List Sp} (h : FbI ws sp) {q j : Nat} (hb : BlAt sp q j) (hf : hasB (frP sp ((q : Nat) : Int)) ((j : Nat) : Int) = true) : ∀ x : Nat, adr sp q j ≤ ((x : Nat) : Int) → ((x : Nat) : Int) < adr sp q j + cWords (clP sp ((q : Nat) : Int)) → ws.getD x 0 = 0 := by
  obtain ⟨_, f3, f4⟩ := h.frm
  have hr := blk_range f3 hb; have hlen := blk_len f3 hb f4
  have hb1 := (h.bl hb).1
  unfold filF at hb1; rw [hf, if_pos rfl] at hb1
  intro x h1 h2
  have := (zero_iff (by omega)).1 hb1 (x - (adr sp q j).toNat) (by omega)
  rwa [show (adr sp q j).toNat + (x - (adr sp q j).toNat) = x by omega] at this
theorem FbI.obj {ws : List Int} {sp : List Sp} (h : FbI ws sp) {q j : Nat} (hb : BlAt sp q j) : gtOk ws sp (adr sp q j) = !(hasB (frP sp ((q : Nat) : Int)) ((j : Nat) : Int)) := by
  obtain ⟨_, f3, f4⟩ := h.frm
  have hr := blk_range f3 hb
  cases hf : hasB (frP sp ((q : Nat) : Int)) ((j : Nat) : Int) with
  | true =>
    refine gt_zero ?_
    have := h.zero hb hf (adr sp q j).toNat (by omega) (by omega)
    exact this
  | false =>
    have hb1 := (h.bl hb).1
    unfold filF at hb1; rw [hf, if_neg (by decide)] at hb1
    simp only [Bool.and_eq_true] at hb1
    exact hb1.1
theorem gt_same4 {ws ws' : List Int} {sp sp' : List Sp} {b : Int} (hl : sp'.length = sp.length) (hs : stP sp' (b / 32) = stP sp (b / 32)) (hc : clP sp' (b / 32) = clP sp (b / 32)) (h : fnOk sp b = true → wAt ws' b = wAt ws b) : gtOk ws' sp' b = gtOk ws sp b ∧ gtB ws' sp' b = gtB ws sp b ∧ gtC ws' sp' b = gtC ws sp b ∧ gtN ws' sp' b = gtN ws sp b := by
  have hf : fnOk sp' b = fnOk sp b := by unfold fnOk; rw [hl, hs, hc]
  cases e : fnOk sp b with
  | false => unfold gtB gtC gtN gtOk; rw [hf, e]; simp
  | true => have hw := h e; unfold gtB gtC gtN gtOk; rw [hf, hw]; exact ⟨rfl, rfl, rfl, rfl⟩
/-- Of a page that is as it was, so are the objects. -/
theorem page_same {ws ws' : List Int} {sp sp' : List Sp} (hl : sp'.length = sp.length) {q : Nat} (hs : spAt sp' ((q : Nat) : Int) = spAt sp ((q : Nat) : Int)) (hw : ∀ x : Nat, x / 32 = q → ws'.getD x 0 = ws.getD x 0) {z : Int} (hz : z / 32 = ((q : Nat) : Int)) : gtOk ws' sp' z = gtOk ws sp z ∧ gtB ws' sp' z = gtB ws sp z ∧ gtC ws' sp' z = gtC ws sp z ∧ gtN ws' sp' z = gtN ws sp z := by
  refine gt_same4 hl (by rw [hz]; unfold stP; rw [hs]) (by rw [hz]; unfold clP; rw [hs]) fun hf => hw _ ?_
  have := (fn_parts hf).1; omega
/-- A block is given back, its words put to 0. -/
theorem FbI.zap {ws ws' : List Int} {sp sp' : List Sp} (h : FbI ws sp) {q0 j0 : Nat} (hb0 : BlAt sp q0 j0) (hm : FmI ws' sp') (hl : sp'.length = sp.length) (hlw : ws'.length = ws.length) (hst : ∀ q : Nat, stP sp' ((q : Nat) : Int) = stP sp ((q : Nat) : Int) ∧ clP sp' ((q : Nat) : Int) = clP sp ((q : Nat) : Int))
    (hfr : ∀ q j : Nat, ¬ (q = q0 ∧ j = j0) → hasB (frP sp' ((q : Nat) : Int)) ((j : Nat) : Int) = hasB (frP sp ((q : Nat) : Int)) ((j : Nat) : Int)) (hf0 : hasB (frP sp' ((q0 : Nat) : Int)) ((j0 : Nat) : Int) = true)
    (hwd : ∀ x : Nat, x < ws.length → ws'.getD x 0 = if adr sp q0 j0 ≤ ((x : Nat) : Int) ∧ ((x : Nat) : Int) < adr sp q0 j0 + cWords (clP sp ((q0 : Nat) : Int)) then 0 else ws.getD x 0) :
    FbI ws' sp' ∧ (∀ q j : Nat, BlAt sp q j → ¬ (q = q0 ∧ j = j0) → gtOk ws' sp' (adr sp q j) = gtOk ws sp (adr sp q j) ∧ gtB ws' sp' (adr sp q j) = gtB ws sp (adr sp q j)) ∧ gtOk ws' sp' (adr sp q0 j0) = false := by
  obtain ⟨_, f3, f4⟩ := h.frm
  have hr0 := blk_range f3 hb0; have hlen0 := blk_len f3 hb0 f4
  have hsame : ∀ q j : Nat, BlAt sp q j → ¬ (q = q0 ∧ j = j0) → ∀ x : Nat, adr sp q j ≤ ((x : Nat) : Int) → ((x : Nat) : Int) < adr sp q j + cWords (clP sp ((q : Nat) : Int)) → ws'.getD x 0 = ws.getD x 0 := fun q j hb hne x h1 h2 => by
    have hlen := blk_len f3 hb f4
    rw [hwd x (by omega), if_neg fun hx => hne (blk_uniq f3 hb hb0 ⟨h1, h2⟩ hx)]
  have hz0 : ∀ x : Nat, adr sp q0 j0 ≤ ((x : Nat) : Int) → ((x : Nat) : Int) < adr sp q0 j0 + cWords (clP sp ((q0 : Nat) : Int)) → ws'.getD x 0 = 0 := fun x h1 h2 => by rw [hwd x (by omega), if_pos ⟨h1, h2⟩]
  have hgt : ∀ q j : Nat, BlAt sp q j → ¬ (q = q0 ∧ j = j0) → gtOk ws' sp' (adr sp q j) = gtOk ws sp (adr sp q j) ∧ gtB ws' sp' (adr sp q j) = gtB ws sp (adr sp q j) ∧ gtC ws' sp' (adr sp q j) = gtC ws sp (adr sp q j) ∧ gtN ws' sp' (adr sp q j) = gtN ws sp (adr sp q j) := fun q j hb hne => by
    have hr := blk_range f3 hb
    refine gt_same4 hl (by rw [hr.2.2.1]; exact (hst q).1) (by rw [hr.2.2.1]; exact (hst q).2) fun _ => hsame q j hb hne _ (by omega) (by omega)
  have hg0 : gtOk ws' sp' (adr sp q0 j0) = false := gt_zero (hz0 _ (by omega) (by omega))
  have hadr : ∀ q j : Nat, adr sp' q j = adr sp q j := fun q j => by unfold adr; rw [(hst q).2]
  have hbl : ∀ q j : Nat, BlAt sp' q j → BlAt sp q j := fun q j hb => ⟨by have := hb.1; omega, by rw [← (hst q).1]; exact hb.2.1, by rw [← (hst q).2]; exact hb.2.2⟩
  refine ⟨FbI.mk' hm (fun q hq h0 => ?_) (fun q j hb' => ?_), fun q j hb hne => ⟨(hgt q j hb hne).1, (hgt q j hb hne).2.1⟩, hg0⟩
  · rw [(hst q).1] at h0
    have hne : q ≠ q0 := fun e => by subst e; exact hb0.2.1 h0
    rw [zero_eq hlw (by omega) fun k hk => by rw [hwd _ (by omega), if_neg (by omega)]]
    exact h.pg q (by omega) h0
  · have hb := hbl q j hb'
    have hr := blk_range f3 hb; have hlen := blk_len f3 hb f4
    rw [hadr]
    by_cases e : q = q0 ∧ j = j0
    · obtain ⟨rfl, rfl⟩ := e
      constructor
      · unfold filF; rw [hf0, if_pos rfl, (hst q).2]
        exact (zero_iff (by omega)).2 fun k hk => hz0 _ (by omega) (by omega)
      · unfold behF; rw [gtN_no hg0, (hst q).2]
        exact (zero_iff (by omega)).2 fun k hk => hz0 _ (by omega) (by omega)
    · obtain ⟨g1, _, g3, g4⟩ := hgt q j hb e
      obtain ⟨o1, o2⟩ := h.bl hb
      have hgr := gt_range (ws := ws) (sp := sp) (a := adr sp q j)
      constructor
      · unfold filF at o1 ⊢
        rw [hfr q j e, g1, g3, (hst q).2, zero_eq hlw (by omega) fun k hk => hsame q j hb e _ (by omega) (by omega)]
        exact o1
      · unfold behF at o2 ⊢
        rw [g4, (hst q).2]
        by_cases e2 : cWords (clP sp ((q : Nat) : Int)) - 1 - gtN ws sp (adr sp q j) ≤ 0
        · rw [show (cWords (clP sp ((q : Nat) : Int)) - 1 - gtN ws sp (adr sp q j)).toNat = 0 by omega]; unfold zeroB; simp
        · rw [zero_eq hlw (by omega) fun k hk => hsame q j hb e _ (by omega) (by omega)]
          exact o2
/-- An object's block can be given back. -/
theorem FbI.can {ws : List Int} {sp : List Sp} (h : FbI ws sp) {q0 j0 : Nat} (hb0 : BlAt sp q0 j0) (hg : gtOk ws sp (adr sp q0 j0) = true) : fnP sp (adr sp q0 j0) = ((q0 : Nat) : Int) ∧ fnX sp (adr sp q0 j0) = ((j0 : Nat) : Int) ∧ reB sp (adr sp q0 j0) = true := by
  obtain ⟨_, f3, f4⟩ := h.frm
  have hr0 := blk_range f3 hb0
  have hfn := blk_fn f3 hb0
  have hP : fnP sp (adr sp q0 j0) = ((q0 : Nat) : Int) := by rw [(fn_parts hfn).2.2.2.2.1, hr0.2.2.1]
  have hX : fnX sp (adr sp q0 j0) = ((j0 : Nat) : Int) := by
    rw [(fn_parts hfn).2.2.2.2.2, hr0.2.2.1]
    have hc := (pl_block hr0.2.2.2.2.2).1
    exact (ad_lt hc (q := q0) (j := j0) (by have := hb0.1; omega) hb0.2.2).2.2.2.2
  have hob := h.obj hb0
  rw [hg] at hob
  have hin : inU (stP sp ((q0 : Nat) : Int)) = true := by
    rcases (spR_noHi (h.fm.fu _) (h.fm.right hb0.1)).2 with hx | hx
    · exact absurd hx.1 hb0.2.1
    · exact hx.1
  refine ⟨hP, hX, ?_⟩
  have hh : hasB (frP sp ((q0 : Nat) : Int)) ((j0 : Nat) : Int) = false := by
    cases e : hasB (frP sp ((q0 : Nat) : Int)) ((j0 : Nat) : Int) with
    | false => rfl
    | true => rw [e] at hob; cases hob
  unfold reB gvOk; rw [hfn, hP, hX, hin, hh, decide_eq_true (And.intro (Int.natCast_nonneg j0) hb0.2.2)]; rfl
theorem FbI.re {ws : List Int} {sp : List Sp} (h : FbI ws sp) {q0 j0 : Nat} (hb0 : BlAt sp q0 j0) (hg : gtOk ws sp (adr sp q0 j0) = true) :
    FbI (reW ws sp (adr sp q0 j0)) (reS sp (adr sp q0 j0)) ∧ (∀ q j : Nat, BlAt sp q j → ¬ (q = q0 ∧ j = j0) → gtOk (reW ws sp (adr sp q0 j0)) (reS sp (adr sp q0 j0)) (adr sp q j) = gtOk ws sp (adr sp q j) ∧ gtB (reW ws sp (adr sp q0 j0)) (reS sp (adr sp q0 j0)) (adr sp q j) = gtB ws sp (adr sp q j)) ∧ gtOk (reW ws sp (adr sp q0 j0)) (reS sp (adr sp q0 j0)) (adr sp q0 j0) = false := by
  obtain ⟨_, f3, f4⟩ := h.frm
  have hr0 := blk_range f3 hb0
  obtain ⟨hP, hX, hre⟩ := h.can hb0 hg
  refine h.zap hb0 (h.fm.re _) (re_lenS _ _) (re_lenW _ _ _) (re_st sp _) (fun q j hne => ?_) ?_ (fun x hx => ?_)
  · unfold frP; rw [re_at, hP, hX]
    by_cases e : q = q0
    · subst e
      rw [if_pos ⟨hre, rfl⟩]
      exact has_with_ne (by intro e2; exact hne ⟨rfl, by omega⟩)
    · rw [if_neg (fun hx => e (by have := hx.2; omega))]
  · unfold frP; rw [re_at, hP, hX, if_pos ⟨hre, rfl⟩]
    have := blocks_range (clP sp ((q0 : Nat) : Int)); have := hb0.2.2
    exact has_with_self (by omega)
  · rw [re_w ws sp _ hx, hP]
    by_cases e : adr sp q0 j0 ≤ ((x : Nat) : Int) ∧ ((x : Nat) : Int) < adr sp q0 j0 + cWords (clP sp ((q0 : Nat) : Int))
    · rw [if_pos e, if_pos ⟨hre, by omega, by omega⟩]
    · rw [if_neg e, if_neg (fun hx => e ⟨by have := hx.2.1; omega, by have := hx.2.2; omega⟩)]

end Go.Proofs.YthadoehgmdageaaDoor.Fl
