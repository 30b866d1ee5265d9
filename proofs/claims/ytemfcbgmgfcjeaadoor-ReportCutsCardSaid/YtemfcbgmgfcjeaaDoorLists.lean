/- Plain lists: the first place of something, sameness, and the like. Plain lemmas; conditions: in each. -/
import Derived.Test.YtemfcbgmgfcjeaaDoorNum2
set_option linter.unusedVariables false
set_option linter.unusedSimpArgs false
namespace Go.Proofs.YtemfcbgmgfcjeaaDoor.Fl
theorem inc_nat {c : Nat} (h : (c : Int) < 9223372036854775807) : iAdd .i64 ((c : Nat) : Int) 1 = ((c + 1 : Nat) : Int) := by
  rw [add_i64 ⟨by omega, by omega⟩]; omega
theorem dec_nat {c : Nat} (h : 0 < c) (h2 : (c : Int) < 9223372036854775807) : iSub .i64 ((c : Nat) : Int) 1 = ((c - 1 : Nat) : Int) := by
  rw [sub_i64 ⟨by omega, by omega⟩]; omega
/-- The first place at which something holds; -1: nowhere. -/
def firstIdx {α : Type} (p : α → Bool) : List α → Int
  | [] => -1
  | x :: xs => if p x = true then 0 else if firstIdx p xs < 0 then -1 else firstIdx p xs + 1
theorem firstIdx_range {α : Type} (p : α → Bool) (xs : List α) : -1 ≤ firstIdx p xs ∧ firstIdx p xs < xs.length := by
  induction xs with
  | nil => simp [firstIdx]
  | cons x xs ih =>
    simp only [firstIdx, List.length_cons]
    split
    · omega
    · split <;> omega
theorem firstIdx_none {α : Type} {p : α → Bool} {xs : List α} (h : ∀ (k : Nat) x, xs[k]? = some x → p x = false) : firstIdx p xs = -1 := by
  induction xs with
  | nil => rfl
  | cons x xs ih =>
    have h0 := h 0 x rfl
    have := ih fun k y hy => h (k + 1) y (by simpa using hy)
    simp [firstIdx, h0, this]
theorem firstIdx_at {α : Type} {p : α → Bool} {xs : List α} {i : Nat} {x : α} (hx : xs[i]? = some x) (hp : p x = true) (h : ∀ (k : Nat), k < i → ∀ y, xs[k]? = some y → p y = false) : firstIdx p xs = i := by
  induction xs generalizing i with
  | nil => simp at hx
  | cons y ys ih =>
    cases i with
    | zero =>
      simp at hx
      subst hx
      simp [firstIdx, hp]
    | succ i =>
      have h0 := h 0 (by omega) y rfl
      have := ih (i := i) (by simpa using hx) fun k hk z hz => h (k + 1) (by omega) z (by simpa using hz)
      simp only [firstIdx, h0, this]
      rw [if_neg (by simp), if_neg (by omega)]
      omega
theorem firstIdx_any {α : Type} (p : α → Bool) (xs : List α) : decide (firstIdx p xs ≥ 0) = xs.any p := by
  induction xs with
  | nil => rfl
  | cons x xs ih =>
    simp only [firstIdx, List.any_cons, ← ih]
    by_cases hp : p x = true
    · simp [hp]
    · by_cases h : firstIdx p xs < 0
      · simp [h, hp]
      · have h1 : firstIdx p xs ≥ 0 := by omega
        have h2 : firstIdx p xs + 1 ≥ 0 := by omega
        simp [h, h1, h2, hp]
/-- Rounds that found nothing so far. -/
def NoneTo {α : Type} (p : α → Bool) (xs : List α) (n : Nat) : Prop := n ≤ xs.length ∧ ∀ (k : Nat), k < n → ∀ x, xs[k]? = some x → p x = false
theorem NoneTo.zero {α : Type} {p : α → Bool} {xs : List α} : NoneTo p xs 0 := ⟨Nat.zero_le _, fun k hk => absurd hk (Nat.not_lt_zero k)⟩
theorem NoneTo.succ {α : Type} {p : α → Bool} {xs : List α} {n : Nat} {d : α} (h : NoneTo p xs n) (hn : n < xs.length) (hp : p (xs.getD n d) = false) : NoneTo p xs (n + 1) := by
  refine ⟨hn, fun k hk x hx => ?_⟩
  by_cases e : k = n
  · subst e
    have : xs.getD k d = x := by simp [List.getD, hx]
    rw [← this]; exact hp
  · exact h.2 k (by omega) x hx
theorem NoneTo.none {α : Type} {p : α → Bool} {xs : List α} {n : Nat} (h : NoneTo p xs n) (hn : ¬ (n : Int) < (xs.length : Int)) : firstIdx p xs = -1 :=
  firstIdx_none fun k x hx => h.2 k (by have := (List.getElem?_eq_some_iff.1 hx).1; omega) x hx
theorem NoneTo.found {α : Type} {p : α → Bool} {xs : List α} {n : Nat} {d : α} (h : NoneTo p xs n) (hn : n < xs.length) (hp : p (xs.getD n d) = true) : firstIdx p xs = n :=
  firstIdx_at (x := xs.getD n d) (by simp [hn]) hp h.2
theorem NoneTo.any {α : Type} {p : α → Bool} {xs : List α} {n : Nat} (h : NoneTo p xs n) (hn : ¬ (n : Int) < (xs.length : Int)) : xs.any p = false := by
  rw [← firstIdx_any, h.none hn]; rfl
theorem NoneTo.anyT {α : Type} {p : α → Bool} {xs : List α} {n : Nat} {d : α} (hp : p (xs.getD n d) = true) (hn : n < xs.length) : xs.any p = true :=
  List.any_eq_true.2 ⟨xs.getD n d, by simp [List.getD, hn], hp⟩
/-- Two rows, the same so far. -/
def SameTo {α : Type} (xs ys : List α) (n : Nat) : Prop := n ≤ xs.length ∧ xs.take n = ys.take n
theorem SameTo.zero {α : Type} {xs ys : List α} : SameTo xs ys 0 := ⟨Nat.zero_le _, by simp⟩
theorem SameTo.succ {α : Type} {xs ys : List α} {n : Nat} {d : α} (h : SameTo xs ys n) (hn : n < xs.length) (hm : n < ys.length) (e : xs.getD n d = ys.getD n d) : SameTo xs ys (n + 1) := by
  refine ⟨hn, ?_⟩
  rw [List.take_succ_eq_append_getElem hn, List.take_succ_eq_append_getElem hm, h.2]
  simp [List.getD, hn, hm] at e
  rw [e]
theorem SameTo.eq {α : Type} {xs ys : List α} {n : Nat} (h : SameTo xs ys n) (hn : ¬ (n : Int) < (xs.length : Int)) (hl : xs.length = ys.length) : xs = ys := by
  have h1 := h.2
  rwa [List.take_of_length_le (by omega), List.take_of_length_le (by omega)] at h1
theorem ne_at {α : Type} {xs ys : List α} {n : Nat} {d : α} (h : xs.getD n d ≠ ys.getD n d) : xs ≠ ys := fun e => h (by rw [e])
end Go.Proofs.YtemfcbgmgfcjeaaDoor.Fl
