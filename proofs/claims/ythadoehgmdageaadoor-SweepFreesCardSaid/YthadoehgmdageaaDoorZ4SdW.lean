/- Where a word lies in a sound heap. Plain lemmas; conditions: in each. -/
import Derived.Test.YthadoehgmdageaaDoorZ4SdB0
set_option linter.unusedVariables false
set_option linter.unusedSimpArgs false
namespace Go.Proofs.YthadoehgmdageaaDoor.Fl
open Go.RowKit
theorem rep_u64 (n : Nat) : ∀ x ∈ List.replicate n (0 : Int), inU64 x := fun x h => by rw [(List.mem_replicate.1 h).2]; exact ⟨by decide, by decide⟩
theorem rep_u32 (n : Nat) : ∀ s ∈ List.replicate n ((0, 0, 0) : (Int × Int × Int)), inU32 s.2.2 := fun x h => by rw [(List.mem_replicate.1 h).2]; exact ⟨by decide, by decide⟩
theorem set_u64 {l : List Int} (h : ∀ x ∈ l, inU64 x) {i : Nat} {v : Int} (hv : inU64 v) : ∀ x ∈ l.set i v, inU64 x := fun x hx => by
  rcases List.mem_or_eq_of_mem_set hx with e | e
  · exact h x e
  · rw [e]; exact hv



attribute [local irreducible] blkB zeroB
theorem chk_all {ws : List Int} {sp : List Sp} {e : Bool} (h : (chkI ws sp e == 0) = true) : formB ws.length sp = true ∧ filA ws sp = true ∧ behA ws sp = true ∧ refA ws sp e = true := by
  have h := eq_of_beq h
  unfold chkI at h
  cases e1 : formB ws.length sp with
  | false => rw [if_pos e1] at h; cases h
  | true =>
    cases e2 : filA ws sp with
    | false => rw [if_neg (by rw [e1]; decide), if_pos e2] at h; cases h
    | true =>
      cases e3 : behA ws sp with
      | false => rw [if_neg (by rw [e1]; decide), if_neg (by rw [e2]; decide), if_pos e3] at h; cases h
      | true =>
        cases e4 : refA ws sp e with
        | false => rw [if_neg (by rw [e1]; decide), if_neg (by rw [e2]; decide), if_neg (by rw [e3]; decide), if_pos e4] at h; cases h
        | true => exact ⟨rfl, rfl, rfl, rfl⟩
theorem chk_eq {ws : List Int} {sp : List Sp} {e : Bool} (h1 : formB ws.length sp = true) (h2 : filA ws sp = true) (h3 : behA ws sp = true) (h4 : refA ws sp e = true) : (chkI ws sp e == 0) = true := beq_iff_eq.2 (chk_0 h1 h2 h3 h4).symm
theorem cls_geo {c : Int} (hc : isC c = true) (x : Nat) : (((x % 32 / (cWords c).toNat : Nat)) : Int) < cBlocks c ∧ (((x % 32 / (cWords c).toNat : Nat)) : Int) * cWords c + ((x % 32 % (cWords c).toNat : Nat) : Int) = ((x % 32 : Nat) : Int) ∧ ((x % 32 % (cWords c).toNat : Nat) : Int) < cWords c := by
  rcases isC_cases hc with rfl | rfl | rfl | rfl <;> simp only [cWords, cBlocks] <;> simp <;> omega
theorem sp_isC {sp : List Sp} {nw : Nat} (hf : ∀ s ∈ sp, inU32 s.2.2) (hr : formB nw sp = true) {q : Nat} (hq : q < sp.length) (hs : ¬ stP sp ((q : Nat) : Int) = 0) : isC (clP sp ((q : Nat) : Int)) = true := by
  have hm : sp.getD q (0, 0, 0) ∈ sp := by rw [show sp.getD q (0, 0, 0) = sp[q] by simp [List.getD, hq]]; exact List.getElem_mem hq
  have h1 := (form_p hr).1 _ hm
  rcases (spR_noHi (hf _ hm) h1).2 with h | h
  · exact absurd h.1 hs
  · exact h.2
/-- Where a word lies. -/
theorem word_at {ws : List Int} {sp : List Sp} (hf : ∀ s ∈ sp, inU32 s.2.2) (h1 : formB ws.length sp = true) (h2 : filA ws sp = true) (h3 : behA ws sp = true) {x : Nat} (hx : x < ws.length) (hw : ws.getD x 0 ≠ 0) : ∃ q j : Nat, ∃ m : Nat, BlAt sp q j ∧ hasB (frP sp ((q : Nat) : Int)) ((j : Nat) : Int) = false ∧ gtOk ws sp (adr sp q j) = true ∧ ((m : Nat) : Int) ≤ gtN ws sp (adr sp q j) ∧ x = Int.toNat (adr sp q j) + m := by
  have hn := (form_p h1).2.2.2; have hl := (form_p h1).2.2.1
  have hq : x / 32 < sp.length := by omega
  have hfil := h2
  unfold filA at hfil
  simp only [Bool.and_eq_true] at hfil
  by_cases hs : stP sp ((x / 32 : Nat) : Int) = 0
  · have := pgs_iff.1 hfil.1 (x / 32) hq hs
    have := (zero_iff (by omega)).1 this (x % 32) (by omega)
    rw [show 32 * (x / 32) + x % 32 = x by omega] at this
    exact absurd this hw
  · have hc := sp_isC hf h1 hq hs
    obtain ⟨g1, g2, g3⟩ := cls_geo hc x
    have hb : BlAt sp (x / 32) (x % 32 / (cWords (clP sp ((x / 32 : Nat) : Int))).toNat) := ⟨hq, hs, g1⟩
    have hr := blk_range hl hb; have hlen := blk_len hl hb hn
    have hx' : x = Int.toNat (adr sp (x / 32) (x % 32 / (cWords (clP sp ((x / 32 : Nat) : Int))).toNat)) + x % 32 % (cWords (clP sp ((x / 32 : Nat) : Int))).toNat := by
      have : adr sp (x / 32) (x % 32 / (cWords (clP sp ((x / 32 : Nat) : Int))).toNat) = 32 * ((x / 32 : Nat) : Int) + (((x % 32 / (cWords (clP sp ((x / 32 : Nat) : Int))).toNat : Nat)) : Int) * cWords (clP sp ((x / 32 : Nat) : Int)) := rfl
      omega
    generalize x % 32 / (cWords (clP sp ((x / 32 : Nat) : Int))).toNat = j at *
    generalize x % 32 % (cWords (clP sp ((x / 32 : Nat) : Int))).toNat = r at *
    have hfj := blk_iff.1 hfil.2 _ _ hb
    unfold filF at hfj
    cases hh : hasB (frP sp ((x / 32 : Nat) : Int)) ((j : Nat) : Int) with
    | true =>
      rw [hh, if_pos rfl] at hfj
      have := (zero_iff (by omega)).1 hfj r (by omega)
      rw [← hx'] at this; exact absurd this hw
    | false =>
      rw [hh, if_neg (by decide)] at hfj
      simp only [Bool.and_eq_true, beq_iff_eq] at hfj
      refine ⟨x / 32, j, r, hb, hh, hfj.1, ?_, hx'⟩
      refine Int.not_lt.1 fun hlt => ?_
      have hbj := blk_iff.1 h3 _ _ hb
      have hrg := gt_range (ws := ws) (sp := sp) (a := adr sp (x / 32) j)
      unfold behF at hbj
      have hle : (adr sp (x / 32) j + 1 + gtN ws sp (adr sp (x / 32) j)).toNat + (cWords (clP sp ((x / 32 : Nat) : Int)) - 1 - gtN ws sp (adr sp (x / 32) j)).toNat ≤ ws.length := by omega
      have := (zero_iff hle).1 hbj (r - 1 - (gtN ws sp (adr sp (x / 32) j)).toNat) (by omega)
      rw [show (adr sp (x / 32) j + 1 + gtN ws sp (adr sp (x / 32) j)).toNat + (r - 1 - (gtN ws sp (adr sp (x / 32) j)).toNat) = x by omega] at this
      exact hw this

end Go.Proofs.YthadoehgmdageaaDoor.Fl
