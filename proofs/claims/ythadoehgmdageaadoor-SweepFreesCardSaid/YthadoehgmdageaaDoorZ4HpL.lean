/- What is so of masks, and of spans. Plain lemmas; conditions: in each. -/
import Derived.Test.YthadoehgmdageaaDoorZ4HpS
set_option linter.unusedVariables false
set_option linter.unusedSimpArgs false
namespace Go.Proofs.YthadoehgmdageaaDoor.Fl
open Go.RowKit
theorem least_has {m : Int} (hm : inU32 m) (h : (m == 0) = false) : hasB m (lstI m) = true := by
  have hn := ne_of_beq_false h
  have h0 : m.toNat ≠ 0 := fun e => hn (by rw [(u32_nat hm).1, e]; rfl)
  obtain ⟨l1, l2, l3⟩ := leastN_spec (u32_nat hm).2 h0
  unfold lstI
  rw [if_neg hn, hasB_nat m l1]; exact l2
theorem u32_ext {x y : Int} (hx : inU32 x) (hy : inU32 y) (h : ∀ i, i < 32 → x.toNat.testBit i = y.toNat.testBit i) : x = y := by
  rw [(u32_nat hx).1, (u32_nat hy).1]
  exact congrArg (fun x : Nat => ((x : Nat) : Int)) (mask_ext (u32_nat hx).2 (u32_nat hy).2 h)
theorem count_gap {m : Nat} {t : Nat} : ∀ {k : Nat}, t ≤ k → (∀ i, t ≤ i → i < k → m.testBit i = false) → countTo m k = countTo m t
  | 0, h, _ => by rw [show t = 0 by omega]
  | k + 1, h, hb => by
    by_cases e : t = k + 1
    · rw [e]
    · show countTo m k + (if m.testBit k = true then 1 else 0) = _
      rw [hb k (by omega) (by omega), count_gap (k := k) (by omega) fun i h1 h2 => hb i h1 (by omega)]; simp
theorem countTo_full {m : Nat} : ∀ {n : Nat}, countTo m n = n ↔ ∀ i, i < n → m.testBit i = true
  | 0 => ⟨fun _ i h => by omega, fun _ => rfl⟩
  | n + 1 => by
    have hl := countTo_le m n
    have hu : countTo m (n + 1) = countTo m n + (if m.testBit n = true then 1 else 0) := rfl
    rw [hu]
    constructor
    · intro h
      have h1 : m.testBit n = true := by
        cases e : m.testBit n with
        | true => rfl
        | false => rw [e] at h; simp at h; omega
      rw [h1] at h
      have h2 := (countTo_full (n := n)).1 (by simpa using h)
      intro i hi
      by_cases e : i = n
      · subst e; exact h1
      · exact h2 i (by omega)
    · intro h
      rw [(countTo_full (n := n)).2 fun i hi => h i (by omega), h n (by omega)]; rfl
theorem pop_whole {c f : Int} (hf : inU32 f) (hn : NoHi f (cBlocks c)) : (((popN f.toNat : Nat) : Int) == cBlocks c) = (f == whl c) := by
  have hb := blocks_range c
  have e : popN f.toNat = countTo f.toNat (cBlocks c).toNat := by
    have := count_gap (m := f.toNat) (t := (cBlocks c).toNat) (k := 32) (by omega) fun i h1 _ => hn i (by omega)
    exact this
  by_cases h : f = whl c
  · rw [beq_iff_eq.2 h, beq_iff_eq, e, countTo_full.2 fun i hi => by rw [h, whl_bit, decide_eq_true (by omega)]]; omega
  · rw [beq_eq_false_iff_ne.2 h, beq_eq_false_iff_ne, e]
    intro h2
    have h3 := (countTo_full (m := f.toNat) (n := (cBlocks c).toNat)).1 (by omega)
    refine h (u32_ext hf (whl_u32 c) fun i hi => ?_)
    rw [whl_bit]
    by_cases e2 : ((i : Nat) : Int) < cBlocks c
    · rw [decide_eq_true e2]; exact h3 i (by omega)
    · rw [decide_eq_false e2]; exact hn i (by omega)
theorem tk_parts {s f : Int} (hf : inU32 f) (h : tkOk s f = true) : s = 1 ∧ (f == 0) = false ∧ tkF s f = withoutI f (lstI f) ∧ tkI s f = lstI f ∧ hasB f (lstI f) = true := by
  have h2 := h
  unfold tkOk at h2
  simp only [Bool.and_eq_true, beq_iff_eq, Bool.not_eq_true'] at h2
  refine ⟨h2.1, h2.2, by unfold tkF; rw [if_pos h], by unfold tkI; rw [if_pos h], least_has hf h2.2⟩
theorem least_lt {s c f : Int} (hf : inU32 f) (hr : spR s c f = true) (hu : inU s = true) (h : (f == 0) = false) : 0 ≤ lstI f ∧ lstI f < cBlocks c := by
  have hl := least_has hf h
  have hb := blocks_range c
  have hn := (spR_noHi hf hr).1
  unfold hasB at hl
  simp only [Bool.and_eq_true, decide_eq_true_eq] at hl
  refine ⟨hl.1.1, ?_⟩
  by_cases e : lstI f < cBlocks c
  · exact e
  · rw [hn (lstI f).toNat (by omega)] at hl; cases hl.2
theorem has_without {f i : Int} (hf : inU32 f) : hasB (withoutI f i) i = false := by
  unfold hasB
  by_cases h : 0 ≤ i ∧ i < 32
  · rw [without_bit f i hf, decide_eq_true h, decide_eq_true (rfl : i.toNat = i.toNat)]; simp
  · rw [decide_eq_false h]; rfl
theorem countTo_del {m : Nat} {k : Nat} (l : Nat) (hk : m.testBit k = true) (h : ∀ i, l.testBit i = (m.testBit i && !(decide (k = i)))) : ∀ n, countTo l n + (if k < n then 1 else 0) = countTo m n
  | 0 => rfl
  | n + 1 => by
    have ih := countTo_del l hk h n
    have e1 : countTo l (n + 1) = countTo l n + (if l.testBit n = true then 1 else 0) := rfl
    have e2 : countTo m (n + 1) = countTo m n + (if m.testBit n = true then 1 else 0) := rfl
    rw [e1, e2, h n]
    by_cases e : k = n
    · subst e; rw [hk, decide_eq_true rfl]; simp at ih ⊢; omega
    · rw [decide_eq_false e, Bool.not_false, Bool.and_true]
      by_cases e3 : k < n
      · rw [if_pos e3] at ih; rw [if_pos (show k < n + 1 by omega)]; omega
      · rw [if_neg e3] at ih; rw [if_neg (show ¬ k < n + 1 by omega)]; omega
theorem has_with_ne {f i j : Int} (hij : i ≠ j) : hasB (withI f j) i = hasB f i := by
  unfold hasB
  by_cases h : 0 ≤ i ∧ i < 32
  · rw [with_bit, decide_eq_true h]
    by_cases e : 0 ≤ j ∧ j < 32
    · rw [decide_eq_false (show ¬ j.toNat = i.toNat by omega)]; simp
    · rw [decide_eq_false e]; simp
  · rw [decide_eq_false h]; rfl
theorem spR_one {c f : Int} (hf : inU32 f) (hc : isC c = true) (hn : NoHi f (cBlocks c)) : spR 1 c f = true := by
  unfold spR; rw [if_neg (by decide), hc, (noHi_iff hf).2 hn]; rfl
theorem whl_noHi (c : Int) : NoHi (whl c) (cBlocks c) := fun j hj => by rw [whl_bit, decide_eq_false (by omega)]
theorem with_noHi {m n : Int} (h : NoHi m n) {k : Nat} (hk : ((k : Nat) : Int) < n) : NoHi (withI m ((k : Nat) : Int)) n := fun j hj => by
  rw [with_bit, h j hj, Int.toNat_natCast, decide_eq_false (show ¬ k = j by omega)]; simp
end Go.Proofs.YthadoehgmdageaaDoor.Fl
