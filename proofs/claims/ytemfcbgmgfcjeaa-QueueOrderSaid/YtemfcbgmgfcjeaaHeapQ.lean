/- Rows of numbers as heaps: sinking, rising, what is least; rising rows. Plain lemmas; conditions: in each. -/
import Derived.Test.YtemfcbgmgfcjeaaLists
set_option linter.unusedVariables false
set_option linter.unusedSimpArgs false
namespace Go.Proofs.Ytemfcbgmgfcjeaa.Fl
/-! ### Rows of numbers: swapping, sinking, rising -/
def swapL (x : List Int) (i j : Nat) : List Int := (x.set i (x.getD j 0)).set j (x.getD i 0)
theorem swap_len (x : List Int) (i j : Nat) : (swapL x i j).length = x.length := by unfold swapL; simp
theorem swap_get {x : List Int} {i j k : Nat} (hi : i < x.length) (hj : j < x.length) : (swapL x i j).getD k 0 = if k = j then x.getD i 0 else if k = i then x.getD j 0 else x.getD k 0 := by
  unfold swapL
  by_cases h1 : j = k
  · subst h1; rw [if_pos rfl]; simp [List.getD, hj]
  · by_cases h2 : i = k
    · subst h2; rw [if_neg (fun e => h1 e.symm), if_pos rfl]; simp [List.getD, List.getElem?_set, h1, hi]
    · rw [if_neg (fun e => h1 e.symm), if_neg (fun e => h2 e.symm)]; simp [List.getD, List.getElem?_set, h1, h2]
theorem getD_eq {x : List Int} {i : Nat} (h : i < x.length) : x.getD i 0 = x[i] := by simp [List.getD, h]
theorem swap_perm {x : List Int} {i j : Nat} (hi : i < x.length) (hj : j < x.length) : (swapL x i j).Perm x := by
  rw [List.perm_iff_count]
  intro a
  unfold swapL
  by_cases e : i = j
  · subst e
    rw [List.set_set, getD_eq hi, List.set_getElem_self]
  · rw [getD_eq hi, getD_eq hj, List.count_set (by simpa using hj), List.count_set hi, List.getElem_set_ne e]
    have h1 : x[i] == a → 0 < List.count a x := fun h => by rw [List.count_pos_iff]; rw [eq_of_beq h |>.symm]; exact List.getElem_mem hi
    have h2 : x[j] == a → 0 < List.count a x := fun h => by rw [List.count_pos_iff]; rw [eq_of_beq h |>.symm]; exact List.getElem_mem hj
    by_cases e1 : x[i] == a <;> by_cases e2 : x[j] == a <;> simp only [e1, e2, if_true, if_false] <;> simp <;> (try have := h1 e1) <;> (try have := h2 e2) <;> omega
/-- The parent of a place. -/
abbrev paN (c : Nat) : Nat := (c - 1) / 2
/-- From lo on no number ahead of n is less than its parent. -/
def HeapFr (x : List Int) (lo n : Nat) : Prop := ∀ c, c < n → 0 < c → lo ≤ paN c → x.getD (paN c) 0 ≤ x.getD c 0
def HeapDn (x : List Int) (lo n i : Nat) : Prop := (∀ c, c < n → 0 < c → lo ≤ paN c → paN c ≠ i → x.getD (paN c) 0 ≤ x.getD c 0) ∧ ∀ c, c < n → 0 < c → paN c = i → 0 < i → lo ≤ paN i → x.getD (paN i) 0 ≤ x.getD c 0
/-- The lesser child. -/
def kid (x : List Int) (n i : Nat) : Nat := if 2 * i + 2 < n ∧ x.getD (2 * i + 2) 0 < x.getD (2 * i + 1) 0 then 2 * i + 2 else 2 * i + 1
def downL (n : Nat) : Nat → Nat → List Int → List Int
  | 0, _, x => x
  | f + 1, i, x => if 2 * i + 1 < n then (if x.getD (kid x n i) 0 < x.getD i 0 then downL n f (kid x n i) (swapL x i (kid x n i)) else x) else x
theorem kid_of {x : List Int} {n i : Nat} (h : 2 * i + 1 < n) : kid x n i < n ∧ i < kid x n i ∧ paN (kid x n i) = i ∧ 0 < kid x n i ∧ ∀ c, c < n → 0 < c → paN c = i → x.getD (kid x n i) 0 ≤ x.getD c 0 := by
  unfold kid paN
  split
  · rename_i h1
    refine ⟨by omega, by omega, by omega, by omega, fun c h2 h3 h4 => ?_⟩
    rcases (show c = 2 * i + 1 ∨ c = 2 * i + 2 by omega) with rfl | rfl <;> omega
  · rename_i h1
    refine ⟨by omega, by omega, by omega, by omega, fun c h2 h3 h4 => ?_⟩
    rcases (show c = 2 * i + 1 ∨ c = 2 * i + 2 by omega) with rfl | rfl <;> omega
theorem HeapDn.done {x : List Int} {lo n i : Nat} (h : HeapDn x lo n i) (hk : ∀ c, c < n → 0 < c → paN c = i → x.getD i 0 ≤ x.getD c 0) : HeapFr x lo n := fun c h1 h2 h3 => by
  by_cases e : paN c = i
  · have := hk c h1 h2 e; rw [e]; exact this
  · exact h.1 c h1 h2 h3 e
theorem HeapDn.step {x : List Int} {lo n i : Nat} (h : HeapDn x lo n i) (hn : n ≤ x.length) (hi : 2 * i + 1 < n) (hlo : lo ≤ i) (hs : x.getD (kid x n i) 0 < x.getD i 0) : HeapDn (swapL x i (kid x n i)) lo n (kid x n i) := by
  obtain ⟨k1, k2, k3, k4, k5⟩ := kid_of (x := x) hi
  generalize kid x n i = j at *
  have hil : i < x.length := by omega
  have hjl : j < x.length := by omega
  refine ⟨fun c h1 h2 h3 h4 => ?_, fun c h1 h2 h3 h4 h5 => ?_⟩
  · rw [swap_get hil hjl, swap_get hil hjl]
    by_cases e1 : paN c = i
    · rw [if_neg h4, if_pos e1]
      by_cases e2 : c = j
      · rw [if_pos e2]; omega
      · rw [if_neg e2, if_neg (by unfold paN at e1; omega)]; exact k5 c h1 h2 e1
    · rw [if_neg h4, if_neg e1]
      have e2 : c ≠ j := fun e => e1 (by rw [e]; exact k3)
      rw [if_neg e2]
      by_cases e3 : c = i
      · rw [if_pos e3, e3]
        exact h.2 j k1 k4 k3 (by omega) (by rw [e3] at h3; exact h3)
      · rw [if_neg e3]; exact h.1 c h1 h2 h3 e1
  · rw [swap_get hil hjl, swap_get hil hjl, k3]
    rw [if_neg (show ¬ i = j by omega), if_pos rfl, if_neg (by unfold paN at h3; omega), if_neg (by unfold paN at h3; omega)]
    have := h.1 c h1 h2 (by rw [h3]; omega) (by rw [h3]; omega)
    rw [h3] at this; exact this
theorem down_len (n : Nat) : ∀ (f i : Nat) (x : List Int), (downL n f i x).length = x.length
  | 0, _, _ => rfl
  | f + 1, i, x => by
    unfold downL
    split
    · split
      · rw [down_len, swap_len]
      · rfl
    · rfl
theorem down_perm {n : Nat} : ∀ (f i : Nat) (x : List Int), n ≤ x.length → (downL n f i x).Perm x
  | 0, _, _, _ => List.Perm.refl _
  | f + 1, i, x, hn => by
    unfold downL
    split
    · rename_i h
      obtain ⟨k1, k2, _⟩ := kid_of (x := x) h
      split
      · exact (down_perm f _ _ (by rw [swap_len]; exact hn)).trans (swap_perm (by omega) (by omega))
      · exact List.Perm.refl _
    · exact List.Perm.refl _
theorem down_rest {n : Nat} : ∀ (f i : Nat) (x : List Int), n ≤ x.length → ∀ k, n ≤ k → (downL n f i x).getD k 0 = x.getD k 0
  | 0, _, _, _, _, _ => rfl
  | f + 1, i, x, hn, k, hk => by
    unfold downL
    split
    · rename_i h
      obtain ⟨k1, k2, _⟩ := kid_of (x := x) h
      split
      · rw [down_rest f _ _ (by rw [swap_len]; exact hn) k hk, swap_get (by omega) (by omega), if_neg (by omega), if_neg (by omega)]
      · rfl
    · rfl
theorem down_heap {n lo : Nat} : ∀ (f i : Nat) (x : List Int), n ≤ x.length → n ≤ i + f → lo ≤ i → HeapDn x lo n i → HeapFr (downL n f i x) lo n
  | 0, i, x, hn, hf, hlo, h => h.done fun c h1 h2 h3 => by unfold paN at h3; omega
  | f + 1, i, x, hn, hf, hlo, h => by
    unfold downL
    split
    · rename_i hi
      obtain ⟨k1, k2, k3, k4, k5⟩ := kid_of (x := x) hi
      split
      · rename_i hs
        exact down_heap f _ _ (by rw [swap_len]; exact hn) (by omega) (by omega) (h.step hn hi hlo hs)
      · rename_i hs
        exact h.done fun c h1 h2 h3 => by have := k5 c h1 h2 h3; omega
    · rename_i hi
      exact h.done fun c h1 h2 h3 => by unfold paN at h3; omega
def upL : Nat → Nat → List Int → List Int
  | 0, _, x => x
  | f + 1, j, x => if 0 < j ∧ x.getD j 0 < x.getD (paN j) 0 then upL f (paN j) (swapL x (paN j) j) else x
def HeapUp (x : List Int) (n j : Nat) : Prop := (∀ c, c < n → 0 < c → c ≠ j → x.getD (paN c) 0 ≤ x.getD c 0) ∧ ∀ c, c < n → 0 < c → paN c = j → 0 < j → x.getD (paN j) 0 ≤ x.getD c 0
theorem up_len : ∀ (f j : Nat) (x : List Int), (upL f j x).length = x.length
  | 0, _, _ => rfl
  | f + 1, j, x => by
    unfold upL
    split
    · rw [up_len, swap_len]
    · rfl
theorem up_perm : ∀ (f j : Nat) (x : List Int), j < x.length → (upL f j x).Perm x
  | 0, _, _, _ => List.Perm.refl _
  | f + 1, j, x, hj => by
    unfold upL
    split
    · have hp : paN j < x.length := by unfold paN; omega
      exact (up_perm f _ _ (by rw [swap_len]; exact hp)).trans (swap_perm hp hj)
    · exact List.Perm.refl _
theorem HeapUp.step {x : List Int} {n j : Nat} (h : HeapUp x n j) (hn : n ≤ x.length) (hj : j < n) (h0 : 0 < j) (hs : x.getD j 0 < x.getD (paN j) 0) : HeapUp (swapL x (paN j) j) n (paN j) := by
  have hp : paN j < j := by unfold paN; omega
  generalize hpe : paN j = p at *
  have hpl : p < x.length := by omega
  have hjl : j < x.length := by omega
  refine ⟨fun c h1 h2 h3 => ?_, fun c h1 h2 h3 h4 => ?_⟩
  · rw [swap_get hpl hjl, swap_get hpl hjl]
    by_cases e1 : c = j
    · rw [if_pos e1, if_neg (by rw [e1, hpe]; omega), if_pos (by rw [e1, hpe])]; omega
    · rw [if_neg e1, if_neg h3]
      by_cases e2 : paN c = j
      · rw [if_pos e2, ← hpe]; exact h.2 c h1 h2 e2 h0
      · rw [if_neg e2]
        by_cases e3 : paN c = p
        · rw [if_pos e3]; have := h.1 c h1 h2 e1; rw [e3] at this; omega
        · rw [if_neg e3]; exact h.1 c h1 h2 e1
  · rw [swap_get hpl hjl, swap_get hpl hjl]
    have hpp : paN p < p := by unfold paN; omega
    rw [if_neg (show ¬ paN p = j by omega), if_neg (show ¬ paN p = p by omega)]
    have hq := h.1 p (by omega) h4 (by omega)
    by_cases e1 : c = j
    · rw [if_pos e1]; exact hq
    · rw [if_neg e1, if_neg (show ¬ c = p by unfold paN at h3; omega)]
      have := h.1 c h1 h2 e1
      rw [h3] at this; omega
theorem up_heap {n : Nat} : ∀ (f j : Nat) (x : List Int), n ≤ x.length → j < n → j < f → HeapUp x n j → HeapFr (upL f j x) 0 n
  | 0, _, _, _, _, h, _ => by omega
  | f + 1, j, x, hn, hj, hf, h => by
    unfold upL
    split
    · rename_i hs
      have hp : paN j < j := by unfold paN; omega
      exact up_heap f _ _ (by rw [swap_len]; exact hn) (by omega) (by omega) (h.step hn hj hs.1 hs.2)
    · rename_i hs
      intro c h1 h2 _
      by_cases e : c = j
      · subst e; omega
      · exact h.1 c h1 h2 e
/-- So many parents are sunk, the last one first. -/
def initL (n : Nat) : Nat → List Int → List Int
  | 0, x => x
  | k + 1, x => initL n k (downL n n k x)
def makeL (x : List Int) : List Int := initL x.length (x.length / 2) x
theorem init_len (n : Nat) : ∀ (k : Nat) (x : List Int), (initL n k x).length = x.length
  | 0, _ => rfl
  | k + 1, x => by unfold initL; rw [init_len, down_len]
theorem init_perm {n : Nat} : ∀ (k : Nat) (x : List Int), n ≤ x.length → (initL n k x).Perm x
  | 0, _, _ => List.Perm.refl _
  | k + 1, x, h => by unfold initL; exact (init_perm k _ (by rw [down_len]; exact h)).trans (down_perm n k x h)
theorem init_heap {n : Nat} : ∀ (k : Nat) (x : List Int), n ≤ x.length → HeapFr x k n → HeapFr (initL n k x) 0 n
  | 0, _, _, h => h
  | k + 1, x, hn, h => by
    unfold initL
    refine init_heap k _ (by rw [down_len]; exact hn) (down_heap n k x hn (by omega) (Nat.le_refl _) ⟨fun c h1 h2 h3 h4 => h c h1 h2 (by omega), fun c h1 h2 h3 h4 h5 => ?_⟩)
    unfold paN at h5; omega
def HeapL (x : List Int) : Prop := HeapFr x 0 x.length
theorem make_len (x : List Int) : (makeL x).length = x.length := init_len _ _ _
theorem make_perm (x : List Int) : (makeL x).Perm x := init_perm _ _ (Nat.le_refl _)
theorem make_heap (x : List Int) : HeapL (makeL x) := by
  unfold HeapL; rw [make_len]
  exact init_heap _ x (Nat.le_refl _) fun c h1 h2 h3 => by unfold paN at h3; omega
def pushL (x : List Int) (a : Int) : List Int := upL (x.length + 1) x.length (x ++ [a])
theorem push_len (x : List Int) (a : Int) : (pushL x a).length = x.length + 1 := by unfold pushL; rw [up_len]; simp
theorem push_perm (x : List Int) (a : Int) : (pushL x a).Perm (a :: x) := by
  unfold pushL
  exact (up_perm _ _ _ (by simp)).trans (List.perm_append_singleton a x)
theorem push_heap {x : List Int} (h : HeapL x) (a : Int) : HeapL (pushL x a) := by
  unfold HeapL; rw [push_len]
  refine up_heap _ _ _ (by simp) (by omega) (by omega) ⟨fun c h1 h2 h3 => ?_, fun c h1 h2 h3 h4 => by unfold paN at h3; omega⟩
  have hc : c < x.length := by omega
  have hp : paN c < x.length := by unfold paN; omega
  have := h c hc h2 (Nat.zero_le _)
  simpa [List.getD, List.getElem?_append, hc, hp] using this
/-- The least number goes to the end. -/
def lastL (x : List Int) : List Int := downL (x.length - 1) (x.length - 1) 0 (swapL x 0 (x.length - 1))
def popL (x : List Int) : List Int := (lastL x).take (x.length - 1)
theorem last_len (x : List Int) : (lastL x).length = x.length := by unfold lastL; rw [down_len, swap_len]
theorem pop_len (x : List Int) : (popL x).length = x.length - 1 := by unfold popL; rw [List.length_take, last_len]; omega
theorem last_at {x : List Int} (h : 0 < x.length) : (lastL x).getD (x.length - 1) 0 = x.getD 0 0 := by
  unfold lastL
  rw [down_rest _ _ _ (by rw [swap_len]; omega) _ (Nat.le_refl _), swap_get h (by omega), if_pos rfl]
theorem last_perm {x : List Int} (h : 0 < x.length) : (lastL x).Perm x := (down_perm _ _ _ (by rw [swap_len]; omega)).trans (swap_perm h (by omega))
theorem pop_perm {x : List Int} (h : 0 < x.length) : (x.getD 0 0 :: popL x).Perm x := by
  refine List.Perm.trans ?_ (last_perm h)
  have e : lastL x = popL x ++ [x.getD 0 0] := by
    rw [← last_at h]
    unfold popL
    have hl := last_len x
    rw [show (lastL x).getD (x.length - 1) 0 = (lastL x)[x.length - 1]'(by omega) by rw [getD_eq (by omega)], ← List.take_succ_eq_append_getElem (by omega), List.take_of_length_le (by omega)]
  rw [e]
  exact (List.perm_append_singleton _ _).symm
theorem pop_heap {x : List Int} (h : HeapL x) (h0 : 0 < x.length) : HeapL (popL x) := by
  unfold HeapL; rw [pop_len]
  have hl := last_len x
  have hd : HeapFr (lastL x) 0 (x.length - 1) := by
    refine down_heap _ _ _ (by rw [swap_len]; omega) (by omega) (Nat.le_refl _) ⟨fun c h1 h2 h3 h4 => ?_, fun c h1 h2 h3 h4 => by omega⟩
    have hp : paN c < c := by unfold paN; omega
    rw [swap_get h0 (by omega), swap_get h0 (by omega), if_neg (by omega), if_neg h4, if_neg (by omega), if_neg (by omega)]
    exact h c (by omega) h2 (Nat.zero_le _)
  intro c h1 h2 h3
  have hp : paN c < c := by unfold paN; omega
  have := hd c h1 h2 h3
  unfold popL
  have e : ∀ k, k < x.length - 1 → ((lastL x).take (x.length - 1)).getD k 0 = (lastL x).getD k 0 := fun k hk => by simp [List.getD, List.getElem?_take, hk]
  rw [e _ (by omega), e _ h1]; exact this
theorem heap_least {x : List Int} (h : HeapL x) : ∀ c, c < x.length → x.getD 0 0 ≤ x.getD c 0 := by
  intro c
  induction c using Nat.strongRecOn with
  | ind c ih =>
    intro hc
    by_cases e : c = 0
    · subst e; exact Int.le_refl _
    · have hp : paN c < c := by unfold paN; omega
      have := ih _ hp (by omega)
      have := h c hc (by omega) (Nat.zero_le _)
      omega
theorem heap_min {x : List Int} (h : HeapL x) : ∀ a ∈ x, x.getD 0 0 ≤ a := by
  intro a ha
  obtain ⟨k, hk, rfl⟩ := List.getElem_of_mem ha
  have := heap_least h k hk
  rwa [getD_eq hk] at this
/-! ### Rising rows -/
def insL : List Int → Int → List Int
  | [], n => [n]
  | a :: r, n => if a > n then n :: a :: r else a :: insL r n
def srt (l : List Int) : List Int := l.foldl insL []
def Rises (l : List Int) : Prop := l.Pairwise (· ≤ ·)
theorem ins_perm : ∀ (l : List Int) (n : Int), (insL l n).Perm (n :: l)
  | [], n => List.Perm.refl _
  | a :: r, n => by
    unfold insL; split
    · exact List.Perm.refl _
    · exact ((ins_perm r n).cons a).trans (List.Perm.swap n a r)
theorem ins_rises : ∀ {l : List Int} (n : Int), Rises l → Rises (insL l n)
  | [], n, _ => List.pairwise_singleton _ _
  | a :: r, n, h => by
    obtain ⟨h1, h2⟩ := List.pairwise_cons.1 h
    unfold insL; split
    · rename_i hc
      exact List.pairwise_cons.2 ⟨fun b hb => by rcases List.mem_cons.1 hb with rfl | hb; omega; have := h1 b hb; omega, h⟩
    · rename_i hc
      refine List.pairwise_cons.2 ⟨fun b hb => ?_, ins_rises n h2⟩
      rcases List.mem_cons.1 ((ins_perm r n).mem_iff.1 hb) with rfl | hb
      · omega
      · exact h1 b hb
theorem foldl_ins_perm : ∀ (l m : List Int), (l.foldl insL m).Perm (l ++ m)
  | [], m => List.Perm.refl _
  | a :: r, m => by
    show (r.foldl insL (insL m a)).Perm _
    refine (foldl_ins_perm r _).trans ((List.Perm.append_left r (ins_perm m a)).trans ?_)
    exact List.perm_middle
theorem foldl_ins_rises : ∀ (l : List Int) {m : List Int}, Rises m → Rises (l.foldl insL m)
  | [], m, h => h
  | a :: r, m, h => foldl_ins_rises r (ins_rises a h)
theorem srt_perm (l : List Int) : (srt l).Perm l := by have := foldl_ins_perm l []; rwa [List.append_nil] at this
theorem srt_rises (l : List Int) : Rises (srt l) := foldl_ins_rises l List.Pairwise.nil
theorem rises_eq : ∀ {a b : List Int}, Rises a → Rises b → a.Perm b → a = b
  | [], b, _, _, h => (List.nil_perm.1 h).symm
  | x :: a, [], _, _, h => absurd h.length_eq (by simp)
  | x :: a, y :: b, ha, hb, h => by
    obtain ⟨a1, a2⟩ := List.pairwise_cons.1 ha
    obtain ⟨b1, b2⟩ := List.pairwise_cons.1 hb
    have hx : x ∈ y :: b := h.mem_iff.1 List.mem_cons_self
    have hy : y ∈ x :: a := h.mem_iff.2 List.mem_cons_self
    have e : x = y := by
      have h1 : y ≤ x := by rcases List.mem_cons.1 hx with rfl | hx; exact Int.le_refl _; exact b1 x hx
      have h2 : x ≤ y := by rcases List.mem_cons.1 hy with rfl | hy; exact Int.le_refl _; exact a1 y hy
      omega
    subst e
    rw [rises_eq a2 b2 ((List.perm_cons x).1 h)]
theorem srt_eq {a b : List Int} (h : a.Perm b) : srt a = srt b := rises_eq (srt_rises a) (srt_rises b) ((srt_perm a).trans (h.trans (srt_perm b).symm))
theorem srt_self {a : List Int} (h : Rises a) : srt a = a := rises_eq (srt_rises a) h (srt_perm a)
theorem srt_srt (a : List Int) : srt (srt a) = srt a := srt_self (srt_rises a)
theorem srt_len (a : List Int) : (srt a).length = a.length := (srt_perm a).length_eq
/-- A heap's least number ahead of what is left of it. -/
theorem srt_pop {x : List Int} (h : HeapL x) (h0 : 0 < x.length) : srt x = x.getD 0 0 :: srt (popL x) := by
  refine rises_eq (srt_rises x) (List.pairwise_cons.2 ⟨fun a ha => ?_, srt_rises _⟩) ((srt_perm x).trans ((pop_perm h0).symm.trans ((srt_perm _).symm.cons _)))
  have h1 : a ∈ popL x := (srt_perm _).mem_iff.1 ha
  exact heap_min h a ((pop_perm h0).mem_iff.1 (List.mem_cons_of_mem _ h1))
theorem srt_ins (x : List Int) (a : Int) : insL (srt x) a = srt (pushL x a) := rises_eq (ins_rises a (srt_rises x)) (srt_rises _) ((ins_perm _ _).trans (((srt_perm x).cons a).trans ((push_perm x a).symm.trans (srt_perm _).symm)))
theorem srt_make (x : List Int) : srt (makeL x) = srt x := srt_eq (make_perm x)
theorem srt_snoc (x : List Int) (a : Int) : srt (x ++ [a]) = insL (srt x) a := by unfold srt; rw [List.foldl_append]; rfl
end Go.Proofs.Ytemfcbgmgfcjeaa.Fl
