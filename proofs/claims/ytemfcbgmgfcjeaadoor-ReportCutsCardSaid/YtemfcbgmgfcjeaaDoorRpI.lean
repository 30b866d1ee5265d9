/- Texts cut off: the plain law. No program in sight. Conditions: in each. -/
import Derived.Test.YtemfcbgmgfcjeaaDoorRpH
set_option linter.unusedVariables false
set_option linter.unusedSimpArgs false
namespace Go.Proofs.YtemfcbgmgfcjeaaDoor.Fl
open Go.RowKit
/-! ### A text that is cut off -/
def nC (c : Int) (n : Nat) : Nat := Int.toNat (c % ((n : Int) + 1))
theorem nC_le (c : Int) (n : Nat) : nC c n ≤ n := by
  unfold nC
  have := Int.emod_lt_of_pos c (show (0 : Int) < (n : Int) + 1 by omega)
  omega
theorem nC_eq {c : Int} {n : Nat} (h : inU16 c) (hn : n ≤ 100000) : Int.tmod (iCv .i64 c) (iAdd .i64 ((n : Nat) : Int) 1) = ((nC c n : Nat) : Int) := by
  have h0 := h.1; have h1 := h.2
  rw [cv_i64 (x := c) (by unfold in64; omega), add_i64 (by unfold in64; omega), tmod_pos h0]
  unfold nC
  have := Int.emod_nonneg c (show ((n : Int) + 1) ≠ 0 by omega)
  omega
theorem line_no10 {r : Rep} (h : mayR r = true) : noC 10 (lineL r) := by
  obtain ⟨h1, h2, h3, h4, h5⟩ := mayR_all h
  have hd : ∀ {n : Int}, 0 ≤ n → noC 10 (decL n) := fun hn b hb => by
    have := decL_dig hn b hb
    rintro rfl
    revert this; decide
  have e := line_eq r.1 r.2.1 r.2.2.1 r.2.2.2.1 r.2.2.2.2
  have e2 : lineL r = [99, 121, 99, 108, 101, 32] ++ decL r.1 ++ [32, 102, 114, 101, 101, 32] ++ decL r.2.1 ++ [32, 108, 105, 118, 101, 32] ++ decL r.2.2.1 ++ [32, 102, 108, 111, 97, 116, 105, 110, 103, 32] ++ decL r.2.2.2.1 ++ [32, 102, 114, 101, 101, 100, 32] ++ decL r.2.2.2.2 := (List.append_cancel_right e).symm
  rw [e2]
  intro b hb
  simp only [List.mem_append] at hb
  rcases hb with ((((((((hb | hb) | hb) | hb) | hb) | hb) | hb) | hb) | hb) | hb
  · revert b; decide
  · exact hd h1.1 b hb
  · revert b; decide
  · exact hd h2.1 b hb
  · revert b; decide
  · exact hd h3.1 b hb
  · revert b; decide
  · exact hd h4.1 b hb
  · revert b; decide
  · exact hd h5.1 b hb
theorem cut_line : ∀ (w s : List UInt8), noC 10 w → cutL 10 (w ++ 10 :: s) = (w, s, true)
  | [], s, _ => by
    show cutL 10 (10 :: s) = _
    conv => lhs; unfold cutL
    rw [if_pos rfl]
  | b :: w, s, h => by
    show cutL 10 (b :: (w ++ 10 :: s)) = _
    conv => lhs; unfold cutL
    rw [if_neg (h b (by simp)), cut_line w s fun x hx => h x (by simp [hx])]
theorem cut_none : ∀ (w : List UInt8), noC 10 w → cutL 10 w = (w, [], false)
  | [], _ => rfl
  | b :: w, h => by
    unfold cutL
    rw [if_neg (h b (by simp)), cut_none w fun x hx => h x (by simp [hx])]
/-- What a reader finds that has read k reports of x and stands before the text t that has no whole line: the reports, or the line that is not ended. -/
theorem read_go {x : List Rep} (hx : mayL x = true) (t : List UInt8) (ht : noC 10 t) : ∀ (d k f : Nat), k + d = x.length → (putL x ++ t).length < (putTo x k).length + f →
    getF (putL x ++ t) f (putTo x k).length (x.take k) = if t = [] then (x, 0, 0) else ([], (putL x).length, 8)
  | 0, k, f, hk, hf => by
    have hkx : k = x.length := by omega
    subst hkx
    rw [List.take_length]
    have hp : putTo x x.length = putL x := rfl
    rw [hp] at hf ⊢
    obtain ⟨g, rfl⟩ : ∃ g, f = g + 1 := ⟨f - 1, by rw [List.length_append] at hf; omega⟩
    show (if (putL x).length < (putL x ++ t).length then _ else _) = _
    by_cases h : t = []
    · subst h
      rw [if_neg (by simp), if_pos rfl]
    · have hl : 0 < t.length := by cases t with | nil => exact absurd rfl h | cons _ _ => simp
      rw [if_pos (by rw [List.length_append]; omega), if_neg h, if_neg]
      unfold getOk cutF
      rw [List.drop_left, cut_none t ht]; simp
  | d + 1, k, f, hk, hf => by
    have hkl : k < x.length := by omega
    have hs := putTo_go hkl
    have hm := may_at hx hkl
    have hpre : putL x = putTo x k ++ ((lineL (x.getD k (0, 0, 0, 0, 0)) ++ [10]) ++ (x.drop (k + 1)).flatMap fun r => lineL r ++ [10]) := by
      rw [← List.append_assoc, hs, putL_is]
      show _ = (x.take (k + 1)).flatMap _ ++ _
      rw [← List.flatMap_append, List.take_append_drop]
    have hdr : (putL x ++ t).drop (putTo x k).length = lineL (x.getD k (0, 0, 0, 0, 0)) ++ 10 :: (((x.drop (k + 1)).flatMap fun r => lineL r ++ [10]) ++ t) := by
      rw [hpre, List.append_assoc, List.drop_left]; simp
    have hc := cut_line (lineL (x.getD k (0, 0, 0, 0, 0))) (((x.drop (k + 1)).flatMap fun r => lineL r ++ [10]) ++ t) (line_no10 hm)
    have hT : cutT (putL x ++ t) (putTo x k).length = lineL (x.getD k (0, 0, 0, 0, 0)) := by unfold cutT; rw [hdr, hc]
    have hF : cutF (putL x ++ t) (putTo x k).length = true := by unfold cutF; rw [hdr, hc]
    have hk1 := key1 hm
    have htk : x.take (k + 1) = x.take k ++ [x.getD k (0, 0, 0, 0, 0)] := by
      rw [List.take_add_one, List.getElem?_eq_getElem hkl, List.getD, List.getElem?_eq_getElem hkl]; rfl
    have hlt : (putTo x k).length < (putL x ++ t).length := by rw [hpre]; simp; omega
    obtain ⟨g, rfl⟩ : ∃ g, f = g + 1 := ⟨f - 1, by omega⟩
    show (if (putTo x k).length < (putL x ++ t).length then _ else _) = _
    have hok : getOk (putL x ++ t) (putTo x k).length (x.take k) = true := by
      unfold getOk
      rw [hT, hF, hk1.1, hk1.2, ← htk, may_take hx]; rfl
    rw [if_pos hlt, if_pos hok, hT, hk1.1, ← htk]
    have hl1 : (putTo x (k + 1)).length = (putTo x k).length + ((lineL (x.getD k (0, 0, 0, 0, 0))).length + 1) := by rw [← hs]; simp
    rw [← hl1]
    exact read_go hx t ht d (k + 1) g (by omega) (by omega)
theorem read_put {x : List Rep} (hx : mayL x = true) (t : List UInt8) (ht : noC 10 t) : getL (putL x ++ t) = if t = [] then (x, 0, 0) else ([], (putL x).length, 8) := by
  have h := read_go hx t ht x.length 0 ((putL x ++ t).length + 1) (by omega) (by show _ < 0 + _; omega)
  exact h
/-- A text cut off: so many whole reports, and what is left of the next line. -/
theorem cut_off {x : List Rep} (hx : mayL x = true) : ∀ (k n : Nat), k ≤ x.length → n ≤ (putTo x k).length → ∃ (j : Nat) (t : List UInt8), j ≤ k ∧ (putL x).take n = putTo x j ++ t ∧ noC 10 t
  | 0, n, _, hn => ⟨0, [], Nat.le_refl _, by
    have : n = 0 := by have h0 : (putTo x 0).length = 0 := rfl; omega
    subst this; rfl, fun b hb => by cases hb⟩
  | k + 1, n, hk, hn => by
    by_cases h : n ≤ (putTo x k).length
    · obtain ⟨j, t, h1, h2, h3⟩ := cut_off hx k n (by omega) h
      exact ⟨j, t, by omega, h2, h3⟩
    · have hs := putTo_go (show k < x.length by omega)
      have hm := may_at hx (show k < x.length by omega)
      have hl1 : (putTo x (k + 1)).length = (putTo x k).length + ((lineL (x.getD k (0, 0, 0, 0, 0))).length + 1) := by rw [← hs]; simp
      have hpre : putL x = putTo x (k + 1) ++ ((x.drop (k + 1)).flatMap fun r => lineL r ++ [10]) := by
        rw [putL_is]
        show _ = (x.take (k + 1)).flatMap _ ++ _
        rw [← List.flatMap_append, List.take_append_drop]
      by_cases e : n = (putTo x (k + 1)).length
      · exact ⟨k + 1, [], Nat.le_refl _, by rw [hpre, e, List.take_left, List.append_nil], fun b hb => by cases hb⟩
      · refine ⟨k, (lineL (x.getD k (0, 0, 0, 0, 0))).take (n - (putTo x k).length), by omega, ?_, fun b hb => line_no10 hm b (List.mem_of_mem_take hb)⟩
        rw [hpre, ← hs, List.append_assoc, List.append_assoc, List.take_append, List.take_of_length_le (by omega), List.take_append_of_le_length (by omega)]


theorem putTo_take {x : List Rep} {j : Nat} : putTo x j = putL (x.take j) := by rw [putL_is]; rfl
theorem putTo_last {x : List Rep} : ∀ {j : Nat}, j ≤ x.length → (putTo x j).length ≠ 0 → (putTo x j).getD ((putTo x j).length - 1) 0 = 10
  | 0, _, h => absurd rfl h
  | j + 1, hj, _ => by
    rw [← putTo_go (show j < x.length by omega), ← List.append_assoc]
    simp [List.getD]
theorem getD_take8 {l : List UInt8} {n j : Nat} (h : j < n) : (l.take n).getD j 0 = l.getD j 0 := by
  simp only [List.getD, List.getElem?_take, if_pos h]
theorem getD_app8 {a b : List UInt8} {j : Nat} (h : j < a.length) : (a ++ b).getD j 0 = a.getD j 0 := by
  simp only [List.getD]; rw [List.getElem?_append_left h]
theorem getD_app9 {a b : List UInt8} {j : Nat} (h : a.length ≤ j) : (a ++ b).getD j 0 = b.getD (j - a.length) 0 := by
  simp only [List.getD]; rw [List.getElem?_append_right h]
theorem cuts_fact {x : List Rep} (hx : mayL x = true) {n : Nat} (hn : n ≤ (putL x).length) :
    ((getL ((putL x).take n)).2.2 = 0 ∧ (n = 0 ∨ (putL x).getD (n - 1) 0 = 10) ∧ (getL ((putL x).take n)).1 = x.take (getL ((putL x).take n)).1.length) ∨
    ((getL ((putL x).take n)).2.2 = 8 ∧ ¬ (n = 0 ∨ (putL x).getD (n - 1) 0 = 10) ∧ (getL ((putL x).take n)).1 = [] ∧ (getL ((putL x).take n)).2.1 < n ∧ ((getL ((putL x).take n)).2.1 = 0 ∨ (putL x).getD ((getL ((putL x).take n)).2.1 - 1) 0 = 10)) := by
  obtain ⟨j, t, hj, hc, ht⟩ := cut_off hx x.length n (Nat.le_refl _) hn
  have hlen : n = (putTo x j).length + t.length := by
    have := congrArg List.length hc
    rw [List.length_take, List.length_append] at this; omega
  have hr := read_put (may_take hx j) t ht
  rw [← putTo_take, ← hc] at hr
  by_cases h : t = []
  · subst h
    rw [if_pos rfl] at hr
    simp only [List.length_nil, Nat.add_zero] at hlen
    refine .inl ⟨by rw [hr], ?_, by rw [hr]; simp⟩
    by_cases h0 : n = 0
    · exact .inl h0
    · right
      have hl := putTo_last hj (by omega)
      rw [← hlen] at hl
      rw [← getD_take8 (l := putL x) (n := n) (by omega), hc, List.append_nil]; exact hl
  · rw [if_neg h] at hr
    have hl : 0 < t.length := by cases t with | nil => exact absurd rfl h | cons _ _ => simp
    refine .inr ⟨by rw [hr], ?_, by rw [hr], by rw [hr]; show (putTo x j).length < n; omega, ?_⟩
    · rintro (h0 | h0)
      · omega
      · rw [← getD_take8 (l := putL x) (n := n) (by omega), hc, getD_app9 (by omega)] at h0
        have hm : t.getD (n - 1 - (putTo x j).length) 0 ∈ t := by
          rw [List.getD, List.getElem?_eq_getElem (by omega)]; exact List.getElem_mem _
        exact ht _ hm h0
    · rw [hr]
      show (putTo x j).length = 0 ∨ (putL x).getD ((putTo x j).length - 1) 0 = 10
      by_cases h0 : (putTo x j).length = 0
      · exact .inl h0
      · right
        rw [← getD_take8 (l := putL x) (n := n) (by omega), hc, getD_app8 (by omega)]
        exact putTo_last hj h0

end Go.Proofs.YtemfcbgmgfcjeaaDoor.Fl
