/- Of a sound heap with another word. Plain lemmas; conditions: in each. -/
import Derived.Test.YthadoehgmdageaaDoorSdAw
set_option linter.unusedVariables false
set_option linter.unusedSimpArgs false
namespace Go.Proofs.YthadoehgmdageaaDoor.Fl
open Go.RowKit

theorem stL_oth {ws : List Int} {p w : Int} {x : Nat} (hx : x < ws.length) (h : ((x : Nat) : Int) ≠ p) : (stL ws p w).getD x 0 = ws.getD x 0 := by rw [stL_get ws p w x hx, if_neg (fun e => h e.symm)]
theorem wAt_oth {ws : List Int} {p w x : Int} (h0 : 0 ≤ x) (hx : x < (ws.length : Int)) (h : x ≠ p) : wAt (stL ws p w) x = wAt ws x := stL_oth (by omega) (by omega)
theorem gt_same {ws ws' : List Int} {sp : List Sp} {b : Int} (h : fnOk sp b = true → wAt ws' b = wAt ws b) : gtOk ws' sp b = gtOk ws sp b ∧ gtB ws' sp b = gtB ws sp b ∧ gtC ws' sp b = gtC ws sp b ∧ gtN ws' sp b = gtN ws sp b := by
  cases e : fnOk sp b with
  | false => unfold gtB gtC gtN gtOk; rw [e]; simp
  | true => have hw := h e; unfold gtB gtC gtN gtOk; rw [hw]; exact ⟨rfl, rfl, rfl, rfl⟩
theorem blk_uniq {sp : List Sp} {q j q' j' : Nat} (hl : sp.length ≤ 16) (h : BlAt sp q j) (h' : BlAt sp q' j') {x : Int} (h1 : adr sp q j ≤ x ∧ x < adr sp q j + cWords (clP sp ((q : Nat) : Int))) (h2 : adr sp q' j' ≤ x ∧ x < adr sp q' j' + cWords (clP sp ((q' : Nat) : Int))) : q = q' ∧ j = j' := by
  have r := blk_range hl h; have r' := blk_range hl h'
  obtain rfl : q = q' := by omega
  refine ⟨rfl, ?_⟩
  have hc := (pl_block r.2.2.2.2.2).1
  clear r r'
  unfold adr at h1 h2
  generalize clP sp ((q : Nat) : Int) = c at *
  rcases isC_cases hc with rfl | rfl | rfl | rfl <;> simp only [cWords] at h1 h2 <;> simp at h1 h2 <;> omega
theorem zero_same {ws : List Int} {p w : Int} {a n : Nat} (h : a + n ≤ ws.length) (hp : ∀ k : Nat, k < n → ((a + k : Nat) : Int) ≠ p) : zeroB (stL ws p w) a n = zeroB ws a n := by
  rw [Bool.eq_iff_iff, zero_iff h, zero_iff (by rw [stL_len]; exact h)]
  constructor
  · intro hz k hk; have := hz k hk; rwa [stL_oth (by omega) (hp k hk)] at this
  · intro hz k hk; rw [stL_oth (by omega) (hp k hk)]; exact hz k hk
theorem ref_same {ws ws' : List Int} {b : Int} : ∀ n : Nat, (∀ i : Nat, i < n → wAt ws' (b + 1 + ((i : Nat) : Int)) = wAt ws (b + 1 + ((i : Nat) : Int))) → refTo ws' b n = refTo ws b n
  | 0, _ => rfl
  | n + 1, h => by unfold refTo; rw [ref_same n fun i hi => h i (by omega), h n (by omega)]
theorem ref_mem {ws : List Int} {b z : Int} : ∀ n : Nat, z ∈ refTo ws b n ↔ ∃ i : Nat, i < n ∧ vK (wAt ws (b + 1 + ((i : Nat) : Int))) = 2 ∧ z = vN (wAt ws (b + 1 + ((i : Nat) : Int)))
  | 0 => ⟨fun h => (by cases h), fun ⟨i, h, _⟩ => by omega⟩
  | n + 1 => by
    have ih := ref_mem (ws := ws) (b := b) (z := z) n
    unfold refTo
    split
    · rename_i hk
      rw [List.mem_append, List.mem_singleton, ih]
      constructor
      · rintro (⟨i, h1, h2⟩ | h)
        · exact ⟨i, by omega, h2⟩
        · exact ⟨n, by omega, hk, h⟩
      · rintro ⟨i, h1, h2, h3⟩
        by_cases e : i = n
        · subst e; exact .inr h3
        · exact .inl ⟨i, by omega, h2, h3⟩
    · rename_i hk
      rw [ih]
      constructor
      · rintro ⟨i, h1, h2⟩; exact ⟨i, by omega, h2⟩
      · rintro ⟨i, h1, h2, h3⟩
        by_cases e : i = n
        · subst e; exact absurd h2 hk
        · exact ⟨i, by omega, h2, h3⟩
theorem hput_u64 {u k : Bool} {c n : Int} (h : hMay u k c n = true) : inU64 (hPut u k c n) := by
  cases u with
  | false => unfold hPut; simp; exact ⟨by decide, by decide⟩
  | true =>
    have := good_range (good_put h).1
    unfold inU64; omega
/-- Of a sound heap: an object's block isn't free, and the object fits it. -/
theorem obj_blk {ws : List Int} {sp : List Sp} (h1 : formB ws.length sp = true) (h2 : filA ws sp = true) {q j : Nat} (hb : BlAt sp q j) (hg : gtOk ws sp (adr sp q j) = true) : hasB (frP sp ((q : Nat) : Int)) ((j : Nat) : Int) = false ∧ gtC ws sp (adr sp q j) = clP sp ((q : Nat) : Int) ∧ gtN ws sp (adr sp q j) < cWords (clP sp ((q : Nat) : Int)) := by
  have hn := (form_p h1).2.2.2; have hl := (form_p h1).2.2.1
  have h0 := blk_range hl hb; have hlen := blk_len hl hb hn
  unfold filA at h2
  simp only [Bool.and_eq_true] at h2
  have hf := blk_iff.1 h2.2 q j hb
  unfold filF at hf
  cases hh : hasB (frP sp ((q : Nat) : Int)) ((j : Nat) : Int) with
  | true =>
    rw [hh, if_pos rfl] at hf
    have := (zero_iff (by omega)).1 hf 0 (by omega)
    rw [gt_zero (ws := ws) (sp := sp) (a := adr sp q j) this] at hg; cases hg
  | false =>
    rw [hh, if_neg (by decide)] at hf
    simp only [Bool.and_eq_true, beq_iff_eq] at hf
    have hp := gt_parts hg
    have hr := good_range hp.2.1
    refine ⟨rfl, hf.2, ?_⟩
    rw [← hf.2, hp.2.2.1, hp.2.2.2.1]; exact hr.2.2.2.1
theorem gt_all {ws : List Int} {sp : List Sp} {q0 j0 : Nat} {p w : Int} (hl : sp.length ≤ 16) (hn : ws.length = 32 * sp.length) (hb0 : BlAt sp q0 j0) (hg0 : gtOk ws sp (adr sp q0 j0) = true) (hp : adr sp q0 j0 ≤ p ∧ p < adr sp q0 j0 + cWords (clP sp ((q0 : Nat) : Int))) (hok : gtOk (stL ws p w) sp (adr sp q0 j0) = true) (z : Int) : gtOk (stL ws p w) sp z = gtOk ws sp z := by
  by_cases e : z = adr sp q0 j0
  · rw [e, hg0, hok]
  · refine (gt_same fun hf => ?_).1
    obtain ⟨q, j, hb, e1, _⟩ := fn_blk hf
    have h0 := blk_range hl hb; have hlen := blk_len hl hb hn
    refine wAt_oth (by omega) (by omega) fun e2 => e ?_
    obtain ⟨rfl, rfl⟩ := blk_uniq hl hb hb0 (x := p) (by omega) hp
    exact e1
theorem chk_change {ws : List Int} {sp : List Sp} {e : Bool} {q0 j0 : Nat} {p w : Int} (hc : (chkI ws sp e == 0) = true) (hb0 : BlAt sp q0 j0) (hg0 : gtOk ws sp (adr sp q0 j0) = true) (hp : adr sp q0 j0 ≤ p ∧ p ≤ adr sp q0 j0 + gtN ws sp (adr sp q0 j0))
    (hok : gtOk (stL ws p w) sp (adr sp q0 j0) = true ∧ gtC (stL ws p w) sp (adr sp q0 j0) = gtC ws sp (adr sp q0 j0) ∧ gtN (stL ws p w) sp (adr sp q0 j0) = gtN ws sp (adr sp q0 j0)) (hr : refF (stL ws p w) sp e ((q0 : Nat) : Int) (adr sp q0 j0) true = true) : (chkI (stL ws p w) sp e == 0) = true := by
  obtain ⟨h1, h2, h3, h4⟩ := chk_all hc
  have hn := (form_p h1).2.2.2; have hl := (form_p h1).2.2.1
  obtain ⟨hno, hC, hN⟩ := obj_blk h1 h2 hb0 hg0
  have h0 := blk_range hl hb0; have hlen0 := blk_len hl hb0 hn
  have hgr := gt_range (ws := ws) (sp := sp) (a := adr sp q0 j0)
  have hp' : adr sp q0 j0 ≤ p ∧ p < adr sp q0 j0 + cWords (clP sp ((q0 : Nat) : Int)) := by omega
  have hall := gt_all (w := w) hl hn hb0 hg0 hp' hok.1
  have hfil := h2
  unfold filA at hfil
  simp only [Bool.and_eq_true] at hfil
  have hoth : ∀ q j : Nat, BlAt sp q j → ¬ (q = q0 ∧ j = j0) → ∀ x : Int, adr sp q j ≤ x → x < adr sp q j + cWords (clP sp ((q : Nat) : Int)) → x ≠ p := fun q j hb hne x hx1 hx2 e => hne (blk_uniq hl hb hb0 (x := x) ⟨hx1, hx2⟩ (by rw [e]; exact hp'))
  have hsame : ∀ q j : Nat, BlAt sp q j → ¬ (q = q0 ∧ j = j0) → gtOk (stL ws p w) sp (adr sp q j) = gtOk ws sp (adr sp q j) ∧ gtB (stL ws p w) sp (adr sp q j) = gtB ws sp (adr sp q j) ∧ gtC (stL ws p w) sp (adr sp q j) = gtC ws sp (adr sp q j) ∧ gtN (stL ws p w) sp (adr sp q j) = gtN ws sp (adr sp q j) := fun q j hb hne => gt_same fun _ => by
    have hr := blk_range hl hb; have hlen := blk_len hl hb hn
    exact wAt_oth (by omega) (by omega) (hoth q j hb hne _ (by omega) (by omega))
  refine chk_eq (by rw [stL_len]; exact h1) ?_ ?_ ?_
  · unfold filA
    rw [Bool.and_eq_true]
    constructor
    · refine pgs_iff.2 fun q hq hs => ?_
      rw [zero_same (by omega) fun k hk e => ?_]
      · exact pgs_iff.1 hfil.1 q hq hs
      · have : q = q0 := by omega
        subst this; exact hb0.2.1 hs
    · refine blk_iff.2 fun q j hb => ?_
      have hr := blk_range hl hb; have hlen := blk_len hl hb hn
      have hf := blk_iff.1 hfil.2 q j hb
      by_cases e : q = q0 ∧ j = j0
      · obtain ⟨rfl, rfl⟩ := e
        unfold filF; rw [hno, if_neg (by decide), hok.1, hok.2.1, hC]; simp
      · obtain ⟨s1, s2, s3, s4⟩ := hsame q j hb e
        unfold filF at hf ⊢
        rw [s1, s3, zero_same (by omega) fun k hk => hoth q j hb e _ (by omega) (by omega)]
        exact hf
  · refine blk_iff.2 fun q j hb => ?_
    have hr := blk_range hl hb; have hlen := blk_len hl hb hn
    have hf := blk_iff.1 h3 q j hb
    have hg := gt_range (ws := ws) (sp := sp) (a := adr sp q j)
    unfold behF at hf ⊢
    by_cases e : q = q0 ∧ j = j0
    · obtain ⟨rfl, rfl⟩ := e
      rw [hok.2.2, zero_same (by omega) fun k hk => by omega]
      exact hf
    · obtain ⟨s1, s2, s3, s4⟩ := hsame q j hb e
      rw [s4]
      by_cases e3 : cWords (clP sp ((q : Nat) : Int)) - 1 - gtN ws sp (adr sp q j) ≤ 0
      · rw [show (cWords (clP sp ((q : Nat) : Int)) - 1 - gtN ws sp (adr sp q j)).toNat = 0 by omega]; unfold zeroB; simp
      · rw [zero_same (by omega) fun k hk => hoth q j hb e _ (by omega) (by omega)]
        exact hf
  · refine blk_iff.2 fun q j hb => ?_
    have hr' := blk_range hl hb; have hlen := blk_len hl hb hn
    have hf := blk_iff.1 h4 q j hb
    by_cases e : q = q0 ∧ j = j0
    · obtain ⟨rfl, rfl⟩ := e
      exact hr
    · obtain ⟨s1, s2, s3, s4⟩ := hsame q j hb e
      have hfun : (fun z : Int => !(gtOk (stL ws p w) sp z)) = fun z : Int => !(gtOk ws sp z) := funext fun z => by rw [hall z]
      have href : refTo (stL ws p w) (adr sp q j) (gtN ws sp (adr sp q j)).toNat = refTo ws (adr sp q j) (gtN ws sp (adr sp q j)).toNat := by
        cases hg : gtOk ws sp (adr sp q j) with
        | false => rw [gtN_no hg]; rfl
        | true =>
          have ho := obj_blk h1 h2 hb hg
          exact ref_same _ fun i hi => wAt_oth (by omega) (by omega) (hoth q j hb e _ (by omega) (by omega))
      unfold refF blB at hf ⊢
      rw [s1, s2, s4, href, hfun]
      exact hf

end Go.Proofs.YthadoehgmdageaaDoor.Fl
