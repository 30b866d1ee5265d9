/- A page opened, closed. Plain lemmas; conditions: in each. -/
import Derived.Test.YthadoehgmdageaaDoorZ2SdQ
set_option linter.unusedVariables false
set_option linter.unusedSimpArgs false
namespace Go.Proofs.YthadoehgmdageaaDoor.Fl
open Go.RowKit
attribute [local irreducible] blkB zeroB
theorem stG_getD {α : Type} (x : List α) (i : Int) (w d : α) (k : Nat) : (stG x i w).getD k d = if i = ((k : Nat) : Int) ∧ k < x.length then w else x.getD k d := by
  by_cases hk : k < x.length
  · rw [stG_get x i w d k hk]; simp [hk]
  · rw [if_neg (by omega)]; simp [List.getD, List.getElem?_eq_none (show (stG x i w).length ≤ k by rw [stG_len]; omega), List.getElem?_eq_none (show x.length ≤ k by omega)]
theorem stG_at {sp : List Sp} {p : Int} (hp : 0 ≤ p ∧ p < (sp.length : Int)) (s : Sp) : spAt (stG sp p s) ((p.toNat : Nat) : Int) = s ∧ ∀ q : Nat, q ≠ p.toNat → spAt (stG sp p s) ((q : Nat) : Int) = spAt sp ((q : Nat) : Int) := by
  refine ⟨?_, fun q hq => ?_⟩
  · rw [spAt_n, stG_getD, if_pos (by omega)]
  · rw [spAt_n, stG_getD, if_neg (by omega)]; rfl
theorem zero_sub {ws : List Int} {a n b m : Nat} (h : a + n ≤ ws.length) (hz : zeroB ws a n = true) (hs : a ≤ b ∧ b + m ≤ a + n) : zeroB ws b m = true := by
  refine (zero_iff (by omega)).2 fun k hk => ?_
  have := (zero_iff h).1 hz (b - a + k) (by omega)
  rwa [show a + (b - a + k) = b + k by omega] at this
theorem MadeI.open {ws : List Int} {sp : List Sp} (h : MadeI ws sp) (p c : Int) : MadeI ws (opS sp p c) := by
  cases e : opB sp p c with
  | false => rw [← opS_no e]; exact h
  | true =>
    rw [← opS_yes e]
    unfold opB at e
    simp only [Bool.and_eq_true, beq_iff_eq] at e
    obtain ⟨hp, hc, hs⟩ := e
    have hp := inR_t hp
    obtain ⟨f1, f2, f3, f4⟩ := form_p h.form
    have hpn : p = ((p.toNat : Nat) : Int) := by omega
    obtain ⟨hnew, hold⟩ := stG_at (sp := sp) hp (1, c, whl c)
    refine h.change p.toNat (by omega) (stG_len _ _ _) rfl hold (fun _ _ _ => rfl) ⟨by rw [hnew]; exact spR_one (whl_u32 c) hc (whl_noHi c), by rw [hnew]; exact whl_u32 c⟩ h.u64 (fun h0 => ?_) fun j hb => ?_
    · unfold stP at h0; rw [hnew] at h0; cases h0
    · have hlen : (stG sp p (1, c, whl c)).length = sp.length := stG_len _ _ _
      have hr := blk_range (by omega) hb
      have hq := hb.2.2
      have hpg := h.pgs p.toNat (by omega) (by rw [← hpn]; exact hs)
      unfold mdF
      have hfr : frP (stG sp p (1, c, whl c)) ((p.toNat : Nat) : Int) = whl c := by unfold frP; rw [hnew]
      have hcl : clP (stG sp p (1, c, whl c)) ((p.toNat : Nat) : Int) = c := by unfold clP; rw [hnew]
      rw [hcl] at hq
      rw [hfr, whl_has, if_pos (decide_eq_true (by omega))]
      exact zero_sub (by omega) hpg (by omega)
theorem MadeI.close {ws : List Int} {sp : List Sp} (h : MadeI ws sp) (p : Int) : MadeI ws (clS sp p) := by
  cases e : clB sp p with
  | false => rw [← clS_no e]; exact h
  | true =>
    rw [← clS_yes e]
    unfold clB at e
    simp only [Bool.and_eq_true, Bool.not_eq_true', beq_eq_false_iff_ne] at e
    obtain ⟨hp, hs, hf⟩ := e
    have hp := inR_t hp
    obtain ⟨f1, f2, f3, f4⟩ := form_p h.form
    have hpn : p = ((p.toNat : Nat) : Int) := by omega
    obtain ⟨hnew, hold⟩ := stG_at (sp := sp) hp (0, 0, 0)
    have hfu : inU32 (frP sp p) := getD_u32 h.u32 _
    have hright := sp_right h.form (p := p) (by omega) (by omega)
    rw [pop_whole hfu (spR_noHi hfu hright).1] at hf
    have hf := eq_of_beq hf
    refine h.change p.toNat (by omega) (stG_len _ _ _) rfl hold (fun _ _ _ => rfl) ⟨by rw [hnew]; rfl, by rw [hnew]; exact ⟨by decide, by decide⟩⟩ h.u64 (fun _ => ?_) fun j hb => ?_
    · have hc : isC (clP sp ((p.toNat : Nat) : Int)) = true := sp_isC h.u32 h.form (by omega) (by rw [← hpn]; exact hs)
      refine (zero_iff (by omega)).2 fun k hk => ?_
      obtain ⟨g1, g2, g3⟩ := cls_geo hc k
      have hb : BlAt sp p.toNat (k % 32 / (cWords (clP sp ((p.toNat : Nat) : Int))).toNat) := ⟨by omega, by rw [← hpn]; exact hs, g1⟩
      have hm := h.blk _ _ hb
      have hr := blk_range f3 hb; have hlen := blk_len f3 hb f4
      unfold mdF at hm
      have g1' := g1
      rw [← hpn] at g1'
      rw [← hpn, hf, whl_has, if_pos (decide_eq_true ⟨Int.natCast_nonneg _, g1'⟩)] at hm
      rw [← hpn] at hr hlen g2 g3
      have had : adr sp p.toNat (k % 32 / (cWords (clP sp ((p.toNat : Nat) : Int))).toNat) = 32 * ((p.toNat : Nat) : Int) + (((k % 32 / (cWords (clP sp ((p.toNat : Nat) : Int))).toNat : Nat)) : Int) * cWords (clP sp ((p.toNat : Nat) : Int)) := rfl
      rw [← hpn] at had
      have := (zero_iff (by omega)).1 hm (k % 32 % (cWords (clP sp p)).toNat) (by omega)
      rwa [show Int.toNat (adr sp p.toNat (k % 32 / (cWords (clP sp p)).toNat)) + k % 32 % (cWords (clP sp p)).toNat = 32 * p.toNat + k by omega] at this
    · exact absurd (show stP (stG sp p (0, 0, 0)) ((p.toNat : Nat) : Int) = 0 by unfold stP; rw [hnew]) hb.2.1

end Go.Proofs.YthadoehgmdageaaDoor.Fl
