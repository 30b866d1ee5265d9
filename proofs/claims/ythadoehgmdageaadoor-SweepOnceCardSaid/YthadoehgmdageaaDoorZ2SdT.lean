/- A block's change. Plain lemmas; conditions: in each. -/
import Derived.Test.YthadoehgmdageaaDoorZ2SdR
set_option linter.unusedVariables false
set_option linter.unusedSimpArgs false
namespace Go.Proofs.YthadoehgmdageaaDoor.Fl
open Go.RowKit
attribute [local irreducible] blkB zeroB
theorem without_noHi {f n i : Int} (hf : inU32 f) (h : NoHi f n) : NoHi (withoutI f i) n := fun j hj => by rw [without_bit f i hf, h j hj]; simp
theorem has_without_ne {f i j : Int} (hf : inU32 f) (hij : j ≠ i) : hasB (withoutI f i) j = hasB f j := by
  unfold hasB
  by_cases h : 0 ≤ j ∧ j < 32
  · rw [without_bit f i hf]
    by_cases e : 0 ≤ i ∧ i < 32
    · rw [decide_eq_false (show ¬ i.toNat = j.toNat by omega)]; simp
    · rw [decide_eq_false e]; simp
  · rw [decide_eq_false h]; rfl
theorem gt_same3 {ws ws' : List Int} {sp sp' : List Sp} {b : Int} (hl : sp'.length = sp.length) (hs : stP sp' (b / 32) = stP sp (b / 32)) (hc : clP sp' (b / 32) = clP sp (b / 32)) (h : fnOk sp b = true → wAt ws' b = wAt ws b) : gtOk ws' sp' b = gtOk ws sp b ∧ gtC ws' sp' b = gtC ws sp b ∧ gtN ws' sp' b = gtN ws sp b := by
  have hf : fnOk sp' b = fnOk sp b := by unfold fnOk; rw [hl, hs, hc]
  cases e : fnOk sp b with
  | false => unfold gtC gtN gtOk; rw [hf, e]; simp
  | true => have hw := h e; unfold gtC gtN gtOk; rw [hf, hw]; exact ⟨rfl, rfl, rfl⟩
theorem set_getD (l : List Int) (i x : Nat) (v : Int) : (l.set i v).getD x 0 = if i = x ∧ x < l.length then v else l.getD x 0 := by
  rw [List.getD, List.getElem?_set]
  by_cases e : i = x
  · subst e
    by_cases h : i < l.length
    · rw [if_pos rfl, if_pos h, if_pos ⟨rfl, h⟩]; rfl
    · rw [if_pos rfl, if_neg h, if_neg (fun x => h x.2)]; simp [List.getD, h]
  · rw [if_neg e, if_neg (fun x => e x.1)]; rfl
theorem zTo_u64 {ws : List Int} (h : ∀ x ∈ ws, inU64 x) (a : Nat) : ∀ k, ∀ x ∈ zTo ws a k, inU64 x
  | 0 => h
  | k + 1 => by unfold zTo; exact set_u64 (zTo_u64 h a k) ⟨by decide, by decide⟩
/-- A change within one block of a page: its free bit, and its words. -/
theorem MadeI.block {ws ws' : List Int} {sp : List Sp} (h : MadeI ws sp) {q0 j0 : Nat} (hb0 : BlAt sp q0 j0) {f : Int} (hw : ws'.length = ws.length) (hu : ∀ x ∈ ws', inU64 x) (ho : ∀ x : Nat, x < ws.length → (((x : Nat) : Int) < adr sp q0 j0 ∨ adr sp q0 j0 + cWords (clP sp ((q0 : Nat) : Int)) ≤ ((x : Nat) : Int)) → ws'.getD x 0 = ws.getD x 0)
    (hr : spR (stP sp ((q0 : Nat) : Int)) (clP sp ((q0 : Nat) : Int)) f = true) (hf : inU32 f) (hhas : ∀ j : Nat, j ≠ j0 → hasB f ((j : Nat) : Int) = hasB (frP sp ((q0 : Nat) : Int)) ((j : Nat) : Int))
    (hm : mdF ws' (stG sp ((q0 : Nat) : Int) (stP sp ((q0 : Nat) : Int), clP sp ((q0 : Nat) : Int), f)) ((q0 : Nat) : Int) (adr sp q0 j0) (hasB f ((j0 : Nat) : Int)) = true) : MadeI ws' (stG sp ((q0 : Nat) : Int) (stP sp ((q0 : Nat) : Int), clP sp ((q0 : Nat) : Int), f)) := by
  obtain ⟨f1, f2, f3, f4⟩ := form_p h.form
  have hr0 := blk_range f3 hb0; have hlen0 := blk_len f3 hb0 f4
  have hq0 := hb0.1
  obtain ⟨hnew, hold⟩ := stG_at (sp := sp) (p := ((q0 : Nat) : Int)) (by omega) (stP sp ((q0 : Nat) : Int), clP sp ((q0 : Nat) : Int), f)
  rw [Int.toNat_natCast] at hnew hold
  have hlen : (stG sp ((q0 : Nat) : Int) (stP sp ((q0 : Nat) : Int), clP sp ((q0 : Nat) : Int), f)).length = sp.length := stG_len _ _ _
  generalize hsp : stG sp ((q0 : Nat) : Int) (stP sp ((q0 : Nat) : Int), clP sp ((q0 : Nat) : Int), f) = sp' at *
  have e1 : stP sp' ((q0 : Nat) : Int) = stP sp ((q0 : Nat) : Int) := by unfold stP; rw [hnew]; rfl
  have e2 : clP sp' ((q0 : Nat) : Int) = clP sp ((q0 : Nat) : Int) := by unfold clP; rw [hnew]; rfl
  have e3 : frP sp' ((q0 : Nat) : Int) = f := by unfold frP; rw [hnew]
  refine h.change q0 hq0 hlen hw hold (fun x hx hne => ho x hx (by omega)) ⟨by rw [hnew]; exact hr, by rw [hnew]; exact hf⟩ hu (fun h0 => absurd (e1 ▸ h0) hb0.2.1) fun j hb => ?_
  have hbo : BlAt sp q0 j := ⟨hq0, by rw [← e1]; exact hb.2.1, by rw [← e2]; exact hb.2.2⟩
  have ha : adr sp' q0 j = adr sp q0 j := by unfold adr; rw [e2]
  rw [ha, e3]
  by_cases e : j = j0
  · rw [e]; exact hm
  · have hg := blk_range f3 hbo; have hlenj := blk_len f3 hbo f4
    have hoth : ∀ x : Nat, adr sp q0 j ≤ ((x : Nat) : Int) → ((x : Nat) : Int) < adr sp q0 j + cWords (clP sp ((q0 : Nat) : Int)) → ws'.getD x 0 = ws.getD x 0 := fun x h1 h2 => ho x (by omega) (by
      refine Classical.byContradiction fun hc => e ?_
      exact (blk_uniq f3 hbo hb0 (x := ((x : Nat) : Int)) ⟨h1, h2⟩ (by omega)).2)
    obtain ⟨g1, g2, g3⟩ := gt_same3 (ws := ws) (ws' := ws') (sp := sp) (sp' := sp') (b := adr sp q0 j) hlen (by rw [hg.2.2.1]; exact e1) (by rw [hg.2.2.1]; exact e2) fun _ => hoth _ (by omega) (by omega)
    have hold2 := h.blk q0 j hbo
    unfold mdF at hold2 ⊢
    rw [hhas j e, e2, g1, g2, zero_eq hw (by omega) fun k hk => hoth _ (by omega) (by omega), zero_eq (ws := ws) (ws' := ws') hw (a := (adr sp q0 j + 1).toNat) (by omega) fun k hk => hoth _ (by omega) (by omega)]
    exact hold2

end Go.Proofs.YthadoehgmdageaaDoor.Fl
