/- A word spoilt; a heap of free pages. Plain lemmas; conditions: in each. -/
import Derived.Test.YthadoehgmdageaaDoorSdU
set_option linter.unusedVariables false
set_option linter.unusedSimpArgs false
namespace Go.Proofs.YthadoehgmdageaaDoor.Fl
open Go.RowKit

theorem spoilt {ws : List Int} {sp : List Sp} {e : Bool} {i : Nat} (hf : ∀ s ∈ sp, inU32 s.2.2) (hc : (chkI ws sp e == 0) = true) (hi : i < ws.length) (hun : ∀ j : Nat, j < (lsA ws sp).length → ¬ ((lsA ws sp).getD j 0 ≤ ((i : Nat) : Int) ∧ ((i : Nat) : Int) ≤ (lsA ws sp).getD j 0 + gtN ws sp ((lsA ws sp).getD j 0))) : chkI (ws.set i 1) sp e = 2 ∨ chkI (ws.set i 1) sp e = 3 := by
  have h1 := (chk_all hc).1
  have hn := (form_p h1).2.2.2; have hl := (form_p h1).2.2.1
  have h1' : formB (ws.set i 1).length sp = true := by rw [List.length_set]; exact h1
  cases h2 : filA (ws.set i 1) sp with
  | false => exact .inl (chk_2 h1' h2).symm
  | true =>
    cases h3 : behA (ws.set i 1) sp with
    | false => exact .inr (chk_3 h1' h2 h3).symm
    | true =>
      exfalso
      have hg1 : (ws.set i 1).getD i 0 = 1 := by rw [List.getD, List.getElem?_set, if_pos rfl, if_pos hi]; rfl
      obtain ⟨q, j, m, hb, _, hg, hm, hx⟩ := word_at hf h1' h2 h3 (x := i) (by rw [List.length_set]; exact hi) (by rw [hg1]; decide)
      have hr := blk_range hl hb; have hlen := blk_len hl hb hn
      by_cases e0 : m = 0
      · have hgood := (gt_parts hg).2.1
        rw [show wAt (ws.set i 1) (adr sp q j) = 1 by unfold wAt; rw [show (adr sp q j).toNat = i by omega]; exact hg1] at hgood
        exact absurd hgood (by decide)
      · have hs := gt_same (ws := ws) (ws' := ws.set i 1) (sp := sp) (b := adr sp q j) fun _ => by
          unfold wAt; rw [List.getD, List.getElem?_set, if_neg (by omega)]; rfl
        rw [hs.1] at hg; rw [hs.2.2.2] at hm
        have hmem : adr sp q j ∈ lsA ws sp := ls_mem.2 ⟨by have := fn_lt (gt_parts hg).1 hn; omega, hg⟩
        obtain ⟨k, hk1, hk2⟩ := List.getElem_of_mem hmem
        have hk3 : (lsA ws sp).getD k 0 = adr sp q j := by rw [← hk2]; simp [List.getD, hk1]
        exact hun k hk1 (by rw [hk3]; omega)
theorem MadeI.zero (n : Nat) (h1 : 1 ≤ n) (h2 : n ≤ 16) : MadeI (List.replicate (32 * n) (0 : Int)) (List.replicate n ((0, 0, 0) : Sp)) := by
  have hget : ∀ q : Nat, stP (List.replicate n ((0, 0, 0) : Sp)) ((q : Nat) : Int) = 0 := fun q => by
    unfold stP; rw [spAt_n]
    by_cases h : q < n
    · simp [List.getD, List.getElem?_replicate, h]
    · simp [List.getD, List.getElem?_replicate, h]
  refine ⟨form_of (fun s hs => by rw [(List.mem_replicate.1 hs).2]; rfl) (by rw [List.length_replicate]; exact h1) (by rw [List.length_replicate]; exact h2) (by rw [List.length_replicate, List.length_replicate]), rep_u32 n, rep_u64 _, fun q hq _ => ?_, fun q j hb => absurd (hget q) hb.2.1⟩
  rw [List.length_replicate] at hq
  refine (zero_iff (by rw [List.length_replicate]; omega)).2 fun k hk => ?_
  simp only [List.getD, List.getElem?_replicate]
  split <;> rfl

end Go.Proofs.YthadoehgmdageaaDoor.Fl
