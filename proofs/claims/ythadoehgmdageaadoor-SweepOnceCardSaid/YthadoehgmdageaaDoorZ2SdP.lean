/- Of a sound heap with another word. Plain lemmas; conditions: in each. -/
import Derived.Test.YthadoehgmdageaaDoorZ2SdW
set_option linter.unusedVariables false
set_option linter.unusedSimpArgs false
namespace Go.Proofs.YthadoehgmdageaaDoor.Fl
open Go.RowKit
theorem blk_uniq {sp : List Sp} {q j q' j' : Nat} (hl : sp.length ≤ 16) (h : BlAt sp q j) (h' : BlAt sp q' j') {x : Int} (h1 : adr sp q j ≤ x ∧ x < adr sp q j + cWords (clP sp ((q : Nat) : Int))) (h2 : adr sp q' j' ≤ x ∧ x < adr sp q' j' + cWords (clP sp ((q' : Nat) : Int))) : q = q' ∧ j = j' := by
  have r := blk_range hl h; have r' := blk_range hl h'
  obtain rfl : q = q' := by omega
  refine ⟨rfl, ?_⟩
  have hc := (pl_block r.2.2.2.2.2).1
  clear r r'
  unfold adr at h1 h2
  generalize clP sp ((q : Nat) : Int) = c at *
  rcases isC_cases hc with rfl | rfl | rfl | rfl <;> simp only [cWords] at h1 h2 <;> simp at h1 h2 <;> omega
theorem ref_mem {ws : List Int} {b z : Int} : ∀ n : Nat, z ∈ refTo ws b n ↔ ∃ i : Nat, i < n ∧ vK (wAt ws (b + 1 + ((i : Nat) : Int))) = 2 ∧ z = vN (wAt ws (b + 1 + ((i : Nat) : Int)))
  | 0 => ⟨fun h => (by cases h), fun ⟨i, h, _⟩ => by omega⟩
  | n + 1 => by
    have ih := ref_mem (ws := ws) (b := b) (z := z) n
    unfold refTo
    split
    · rename_i hk
      rw [List.mem_append, List.mem_singleton, ih]
      constructor
      · rintro (⟨i, h1, h2⟩ | h)
        · exact ⟨i, by omega, h2⟩
        · exact ⟨n, by omega, hk, h⟩
      · rintro ⟨i, h1, h2, h3⟩
        by_cases e : i = n
        · subst e; exact .inr h3
        · exact .inl ⟨i, by omega, h2, h3⟩
    · rename_i hk
      rw [ih]
      constructor
      · rintro ⟨i, h1, h2⟩; exact ⟨i, by omega, h2⟩
      · rintro ⟨i, h1, h2, h3⟩
        by_cases e : i = n
        · subst e; exact absurd h2 hk
        · exact ⟨i, by omega, h2, h3⟩
theorem hput_u64 {u k : Bool} {c n : Int} (h : hMay u k c n = true) : inU64 (hPut u k c n) := by
  cases u with
  | false => unfold hPut; simp; exact ⟨by decide, by decide⟩
  | true =>
    have := good_range (good_put h).1
    unfold inU64; omega
/-- Of a sound heap: an object's block isn't free, and the object fits it. -/
theorem obj_blk {ws : List Int} {sp : List Sp} (h1 : formB ws.length sp = true) (h2 : filA ws sp = true) {q j : Nat} (hb : BlAt sp q j) (hg : gtOk ws sp (adr sp q j) = true) : hasB (frP sp ((q : Nat) : Int)) ((j : Nat) : Int) = false ∧ gtC ws sp (adr sp q j) = clP sp ((q : Nat) : Int) ∧ gtN ws sp (adr sp q j) < cWords (clP sp ((q : Nat) : Int)) := by
  have hn := (form_p h1).2.2.2; have hl := (form_p h1).2.2.1
  have h0 := blk_range hl hb; have hlen := blk_len hl hb hn
  unfold filA at h2
  simp only [Bool.and_eq_true] at h2
  have hf := blk_iff.1 h2.2 q j hb
  unfold filF at hf
  cases hh : hasB (frP sp ((q : Nat) : Int)) ((j : Nat) : Int) with
  | true =>
    rw [hh, if_pos rfl] at hf
    have := (zero_iff (by omega)).1 hf 0 (by omega)
    rw [gt_zero (ws := ws) (sp := sp) (a := adr sp q j) this] at hg; cases hg
  | false =>
    rw [hh, if_neg (by decide)] at hf
    simp only [Bool.and_eq_true, beq_iff_eq] at hf
    have hp := gt_parts hg
    have hr := good_range hp.2.1
    refine ⟨rfl, hf.2, ?_⟩
    rw [← hf.2, hp.2.2.1, hp.2.2.2.1]; exact hr.2.2.2.1
end Go.Proofs.YthadoehgmdageaaDoor.Fl
