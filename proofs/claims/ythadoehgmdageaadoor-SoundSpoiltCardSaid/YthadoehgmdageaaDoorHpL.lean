/- What is so of masks, and of spans. Plain lemmas; conditions: in each. -/
import Derived.Test.YthadoehgmdageaaDoorHpS
set_option linter.unusedVariables false
set_option linter.unusedSimpArgs false
namespace Go.Proofs.YthadoehgmdageaaDoor.Fl
open Go.RowKit

/-- The number that a u8 tells. -/
def k8 (x : Int) : Int := iCv .i64 (Int.tmod x 32)
theorem k8_eq {x : Int} (h : inU8 x) : k8 x = x % 32 ∧ Int.tmod x 32 = x % 32 := by
  have h0 := h.1
  have e : Int.tmod x 32 = x % 32 := tmod_pos h0
  unfold k8
  rw [e, cv_i64 (by unfold in64; omega)]; exact ⟨rfl, rfl⟩
theorem k8_lt {x : Int} (h : inU8 x) : 0 ≤ k8 x ∧ k8 x < 32 := by rw [(k8_eq h).1]; omega
theorem k8_beq {x n : Int} (hx : inU8 x) (hn : inU8 n) : (Int.tmod x 32 == Int.tmod n 32) = decide ((k8 x).toNat = (k8 n).toNat) := by
  rw [(k8_eq hx).1, (k8_eq hn).1, (k8_eq hx).2, (k8_eq hn).2]
  by_cases h : x % 32 = n % 32
  · rw [h]; simp
  · rw [beq_eq_false_iff_ne.2 h, decide_eq_false (by omega)]
def inM (xs : List Int) (i : Nat) : Int := (xs.take i).foldl (fun m x => withI m (iCv .i64 (Int.tmod x 32))) 0
def outM (xs : List Int) (m : Int) (i : Nat) : Int := (xs.take i).foldl (fun m x => withoutI m (iCv .i64 (Int.tmod x 32))) m
def inW (xs : List Int) (n : Int) (i : Nat) : Bool := (xs.take i).any fun x => Int.tmod x 32 == Int.tmod n 32
def outW (xs : List Int) (n : Int) (w : Bool) (i : Nat) : Bool := w && (xs.take i).all fun x => !(Int.tmod x 32 == Int.tmod n 32)
theorem take_one {xs : List Int} {i : Nat} (h : i < xs.length) : xs.take (i + 1) = xs.take i ++ [xs.getD i 0] := by
  rw [List.take_succ_eq_append_getElem h, show xs.getD i 0 = xs[i] by simp [List.getD, h]]
theorem inM_succ {xs : List Int} {i : Nat} (h : i < xs.length) : withI (inM xs i) (iCv .i64 (Int.tmod (xs.getD i 0) 32)) = inM xs (i + 1) := by
  unfold inM; rw [take_one h, List.foldl_append]; rfl
theorem outM_succ {xs : List Int} {m : Int} {i : Nat} (h : i < xs.length) : withoutI (outM xs m i) (iCv .i64 (Int.tmod (xs.getD i 0) 32)) = outM xs m (i + 1) := by
  unfold outM; rw [take_one h, List.foldl_append]; rfl
theorem inW_succ {xs : List Int} {n : Int} {i : Nat} (h : i < xs.length) : (inW xs n i || (Int.tmod (xs.getD i 0) 32 == Int.tmod n 32)) = inW xs n (i + 1) := by
  unfold inW; rw [take_one h, List.any_append]; simp
theorem inW_t {xs : List Int} {n : Int} {i : Nat} (h : i < xs.length) (e : inW xs n i = true) : true = inW xs n (i + 1) := by rw [← inW_succ h, e]; rfl
theorem inW_f {xs : List Int} {n : Int} {i : Nat} (h : i < xs.length) (e : inW xs n i = false) : (Int.tmod (xs.getD i 0) 32 == Int.tmod n 32) = inW xs n (i + 1) := by rw [← inW_succ h, e]; rfl
theorem outW_succ {xs : List Int} {n : Int} {w : Bool} {i : Nat} (h : i < xs.length) : (outW xs n w i && !(Int.tmod (xs.getD i 0) 32 == Int.tmod n 32)) = outW xs n w (i + 1) := by
  unfold outW; rw [take_one h, List.all_append, Bool.and_assoc]; simp
theorem outW_t {xs : List Int} {n : Int} {w : Bool} {i : Nat} (h : i < xs.length) (e : outW xs n w i = true) : (!(Int.tmod (xs.getD i 0) 32 == Int.tmod n 32)) = outW xs n w (i + 1) := by rw [← outW_succ h, e]; rfl
theorem outW_f {xs : List Int} {n : Int} {w : Bool} {i : Nat} (h : i < xs.length) (e : outW xs n w i = false) : false = outW xs n w (i + 1) := by rw [← outW_succ h, e]; rfl
theorem fold_in {n : Int} (hn : inU8 n) : ∀ (l : List Int) (m : Int), (∀ x ∈ l, inU8 x) → inU32 m → inU32 (l.foldl (fun m x => withI m (iCv .i64 (Int.tmod x 32))) m) ∧
    (l.foldl (fun m x => withI m (iCv .i64 (Int.tmod x 32))) m).toNat.testBit (k8 n).toNat = (m.toNat.testBit (k8 n).toNat || l.any fun x => Int.tmod x 32 == Int.tmod n 32)
  | [], m, _, hm => ⟨hm, by simp⟩
  | x :: r, m, h, hm => by
    obtain ⟨h1, h2⟩ := fold_in hn r (withI m (k8 x)) (fun y hy => h y (List.mem_cons_of_mem _ hy)) (with_u32 m (k8 x) hm)
    have hx := h x List.mem_cons_self
    refine ⟨h1, ?_⟩
    show (r.foldl _ (withI m (k8 x))).toNat.testBit _ = _
    rw [h2, with_bit, decide_eq_true (show 0 ≤ k8 x ∧ k8 x < 32 from k8_lt hx), Bool.true_and, List.any_cons, k8_beq hx hn, Bool.or_assoc]
theorem fold_out {n : Int} (hn : inU8 n) : ∀ (l : List Int) (m : Int), (∀ x ∈ l, inU8 x) → inU32 m → inU32 (l.foldl (fun m x => withoutI m (iCv .i64 (Int.tmod x 32))) m) ∧
    (l.foldl (fun m x => withoutI m (iCv .i64 (Int.tmod x 32))) m).toNat.testBit (k8 n).toNat = (m.toNat.testBit (k8 n).toNat && l.all fun x => !(Int.tmod x 32 == Int.tmod n 32))
  | [], m, _, hm => ⟨hm, by simp⟩
  | x :: r, m, h, hm => by
    obtain ⟨h1, h2⟩ := fold_out hn r (withoutI m (k8 x)) (fun y hy => h y (List.mem_cons_of_mem _ hy)) (without_u32 m (k8 x) hm)
    have hx := h x List.mem_cons_self
    refine ⟨h1, ?_⟩
    show (r.foldl _ (withoutI m (k8 x))).toNat.testBit _ = _
    rw [h2, without_bit m (k8 x) hm, decide_eq_true (show 0 ≤ k8 x ∧ k8 x < 32 from k8_lt hx), Bool.true_and, List.all_cons, k8_beq hx hn, Bool.and_assoc]
theorem take_u8 {l : List Int} (h : ∀ x ∈ l, inU8 x) (i : Nat) : ∀ x ∈ l.take i, inU8 x := fun x hx => h x (List.mem_of_mem_take hx)
theorem zero_u32 : inU32 0 := ⟨by decide, by decide⟩
theorem one_u8 : inU8 0 := ⟨by decide, by decide⟩
theorem inM_u32 {xs : List Int} (h : ∀ x ∈ xs, inU8 x) (i : Nat) : inU32 (inM xs i) := (fold_in one_u8 _ 0 (take_u8 h i) zero_u32).1
theorem outM_u32 {xs : List Int} (h : ∀ x ∈ xs, inU8 x) {m : Int} (hm : inU32 m) (i : Nat) : inU32 (outM xs m i) := (fold_out one_u8 _ m (take_u8 h i) hm).1
theorem sets_has {xi xo : List Int} (hi : ∀ x ∈ xi, inU8 x) (ho : ∀ x ∈ xo, inU8 x) {n : Int} (hn : inU8 n) (s t : Nat) : hasB (outM xo (inM xi s) t) (iCv .i64 (Int.tmod n 32)) = outW xo n (inW xi n s) t := by
  have a := (fold_in hn _ 0 (take_u8 hi s) zero_u32).2
  have c := (fold_out hn _ (inM xi s) (take_u8 ho t) (inM_u32 hi s)).2
  show hasB (outM xo (inM xi s) t) (k8 n) = _
  unfold hasB
  rw [decide_eq_true (show 0 ≤ k8 n ∧ k8 n < 32 from k8_lt hn), Bool.true_and]
  refine c.trans ?_
  unfold outW inW
  rw [show (inM xi s).toNat.testBit (k8 n).toNat = _ from a]
  show ((Nat.testBit 0 _ || _) && _) = _
  rw [Nat.zero_testBit, Bool.false_or]
theorem not_less {m : Int} (hm : inU32 m) {s : Nat} (hs : s < 32) (hb : hasB m ((s : Nat) : Int) = true) : decide (((s : Nat) : Int) < lstI m) = false := by
  rw [hasB_nat m hs] at hb
  have h0 : m.toNat ≠ 0 := fun e => by rw [e, Nat.zero_testBit] at hb; cases hb
  obtain ⟨l1, l2, l3⟩ := leastN_spec (u32_nat hm).2 h0
  refine decide_eq_false fun h => ?_
  unfold lstI at h
  split at h
  · omega
  · rw [l3 s (by omega)] at hb; cases hb
theorem least_has {m : Int} (hm : inU32 m) (h : (m == 0) = false) : hasB m (lstI m) = true := by
  have hn := ne_of_beq_false h
  have h0 : m.toNat ≠ 0 := fun e => hn (by rw [(u32_nat hm).1, e]; rfl)
  obtain ⟨l1, l2, l3⟩ := leastN_spec (u32_nat hm).2 h0
  unfold lstI
  rw [if_neg hn, hasB_nat m l1]; exact l2
theorem some_in {m : Int} (hm : inU32 m) : (!(m == 0)) = decide (((popN m.toNat : Nat) : Int) > 0) := by
  have e := pop_zero (u32_nat hm).2
  by_cases h : m = 0
  · subst h; decide
  · rw [beq_eq_false_iff_ne.2 h, decide_eq_true]; · rfl
    have : popN m.toNat ≠ 0 := fun h2 => h (by rw [(u32_nat hm).1, e.1 h2]; rfl)
    omega
theorem pop_cast {m : Int} {i : Nat} (h1 : i ≤ 32) (h2 : ¬ ((i : Nat) : Int) < 32) : ((popN m.toNat : Nat) : Int) = ((countTo m.toNat i : Nat) : Int) := (count_end h1 h2).symm
theorem some_in' {m : Int} (hm : inU32 m) {i : Nat} (h1 : i ≤ 32) (h2 : ¬ ((i : Nat) : Int) < 32) : (!(m == 0)) = decide (((countTo m.toNat i : Nat) : Int) > 0) := by rw [count_end h1 h2]; exact some_in hm
/-- The numbers of a mask from t on; those below. -/
def hiM (m : Int) (t : Nat) : Int := ((m.toNat / 2 ^ t * 2 ^ t : Nat) : Int)
def loM (m : Int) (t : Nat) : Int := ((m.toNat % 2 ^ t : Nat) : Int)
theorem hi_bit (m : Int) (t i : Nat) : (hiM m t).toNat.testBit i = (decide (t ≤ i) && m.toNat.testBit i) := by
  unfold hiM
  rw [Int.toNat_natCast, Nat.testBit_mul_two_pow]
  by_cases h : t ≤ i
  · rw [decide_eq_true h, ← Nat.shiftRight_eq_div_pow, Nat.testBit_shiftRight, show t + (i - t) = i by omega]
  · rw [decide_eq_false h]; simp
theorem lo_bit (m : Int) (t i : Nat) : (loM m t).toNat.testBit i = (decide (i < t) && m.toNat.testBit i) := by
  unfold loM; rw [Int.toNat_natCast, Nat.testBit_mod_two_pow]
theorem hi_u32 {m : Int} (hm : inU32 m) (t : Nat) : inU32 (hiM m t) := in_u32n (Nat.lt_of_le_of_lt (Nat.div_mul_le_self _ _) (u32_nat hm).2)
theorem lo_u32 {m : Int} (hm : inU32 m) (t : Nat) : inU32 (loM m t) := in_u32n (Nat.lt_of_le_of_lt (Nat.mod_le _ _) (u32_nat hm).2)
theorem u32_ext {x y : Int} (hx : inU32 x) (hy : inU32 y) (h : ∀ i, i < 32 → x.toNat.testBit i = y.toNat.testBit i) : x = y := by
  rw [(u32_nat hx).1, (u32_nat hy).1]
  exact congrArg (fun x : Nat => ((x : Nat) : Int)) (mask_ext (u32_nat hx).2 (u32_nat hy).2 h)
theorem hi_zero {m : Int} (hm : inU32 m) : m = hiM m 0 := u32_ext hm (hi_u32 hm 0) fun i hi => by rw [hi_bit]; simp
theorem lo_zero (m : Int) : (0 : Int) = loM m 0 := by unfold loM; rw [Nat.pow_zero, Nat.mod_one]; rfl
theorem rise_next {m : Int} (hm : inU32 m) {t : Nat} (h : (hiM m t == 0) = false) : t ≤ leastN (hiM m t).toNat ∧ leastN (hiM m t).toNat < 32 ∧ m.toNat.testBit (leastN (hiM m t).toNat) = true ∧ lstI (hiM m t) = ((leastN (hiM m t).toNat : Nat) : Int) ∧ ∀ i, t ≤ i → i < leastN (hiM m t).toNat → m.toNat.testBit i = false := by
  have hn := ne_of_beq_false h
  have hu := hi_u32 hm t
  have h0 : (hiM m t).toNat ≠ 0 := fun e => hn (by rw [(u32_nat hu).1, e]; rfl)
  obtain ⟨l1, l2, l3⟩ := leastN_spec (u32_nat hu).2 h0
  rw [hi_bit, Bool.and_eq_true, decide_eq_true_eq] at l2
  refine ⟨l2.1, l1, l2.2, by unfold lstI; rw [if_neg hn], fun i hi hl => ?_⟩
  have := l3 i hl
  rwa [hi_bit, decide_eq_true hi, Bool.true_and] at this
theorem rise_rest {m : Int} (hm : inU32 m) {t : Nat} (h : (hiM m t == 0) = false) : withoutI (hiM m t) (lstI (hiM m t)) = hiM m (leastN (hiM m t).toNat + 1) := by
  obtain ⟨r1, r2, r3, r4, r5⟩ := rise_next hm h
  have hu := hi_u32 hm t
  refine u32_ext (without_u32 _ _ hu) (hi_u32 hm _) fun i hi => ?_
  generalize leastN (hiM m t).toNat = k at *
  rw [without_bit _ _ hu, hi_bit, hi_bit, r4, decide_eq_true (show 0 ≤ ((k : Nat) : Int) ∧ ((k : Nat) : Int) < 32 by omega), Bool.true_and, Int.toNat_natCast]
  by_cases h1 : k = i
  · subst h1; rw [decide_eq_true (rfl : k = k), decide_eq_false (show ¬ k + 1 ≤ k by omega)]; simp
  · rw [decide_eq_false h1]
    by_cases h2 : k + 1 ≤ i
    · rw [decide_eq_true (show t ≤ i by omega), decide_eq_true h2]; simp
    · rw [decide_eq_false h2]
      by_cases h3 : t ≤ i
      · rw [r5 i h3 (by omega)]; simp
      · rw [decide_eq_false h3]; simp
theorem rise_back {m : Int} (hm : inU32 m) {t : Nat} (h : (hiM m t == 0) = false) : withI (loM m t) (lstI (hiM m t)) = loM m (leastN (hiM m t).toNat + 1) := by
  obtain ⟨r1, r2, r3, r4, r5⟩ := rise_next hm h
  refine u32_ext (with_u32 _ _ (lo_u32 hm t)) (lo_u32 hm _) fun i hi => ?_
  generalize leastN (hiM m t).toNat = k at *
  rw [with_bit, lo_bit, lo_bit, r4, decide_eq_true (show 0 ≤ ((k : Nat) : Int) ∧ ((k : Nat) : Int) < 32 by omega), Bool.true_and, Int.toNat_natCast]
  by_cases h1 : k = i
  · subst h1; rw [decide_eq_true (rfl : k = k), decide_eq_true (show k < k + 1 by omega), r3]; simp
  · rw [decide_eq_false h1, Bool.or_false]
    by_cases h2 : i < t
    · rw [decide_eq_true h2, decide_eq_true (by omega)]
    · rw [decide_eq_false h2]
      by_cases h3 : i < k + 1
      · rw [r5 i (by omega) (by omega)]; simp
      · rw [decide_eq_false h3]
theorem count_gap {m : Nat} {t : Nat} : ∀ {k : Nat}, t ≤ k → (∀ i, t ≤ i → i < k → m.testBit i = false) → countTo m k = countTo m t
  | 0, h, _ => by rw [show t = 0 by omega]
  | k + 1, h, hb => by
    by_cases e : t = k + 1
    · rw [e]
    · show countTo m k + (if m.testBit k = true then 1 else 0) = _
      rw [hb k (by omega) (by omega), count_gap (k := k) (by omega) fun i h1 h2 => hb i h1 (by omega)]; simp
theorem rise_count {m : Int} (hm : inU32 m) {t : Nat} (ht : t ≤ 32) (h : (hiM m t == 0) = false) : iAdd .i64 ((countTo m.toNat t : Nat) : Int) 1 = ((countTo m.toNat (leastN (hiM m t).toNat + 1) : Nat) : Int) := by
  obtain ⟨r1, r2, r3, r4, r5⟩ := rise_next hm h
  have := countTo_le m.toNat t
  rw [inc_nat (by omega)]
  show _ = ((countTo m.toNat (leastN (hiM m t).toNat) + (if m.toNat.testBit (leastN (hiM m t).toNat) = true then 1 else 0) : Nat) : Int)
  rw [count_gap r1 r5, r3]; rfl
theorem rise_last {m : Int} (hm : inU32 m) {t : Nat} (h : (hiM m t == 0) = false) : lstI (hiM m t) = ((leastN (hiM m t).toNat + 1 : Nat) : Int) - 1 := by
  rw [(rise_next hm h).2.2.2.1]; omega
theorem hi_gone {m : Int} (hm : inU32 m) {t : Nat} (h : (hiM m t == 0) = true) : ∀ i, t ≤ i → m.toNat.testBit i = false := fun i hi => by
  have := hi_bit m t i
  rwa [eq_of_beq h, decide_eq_true hi, Bool.true_and, show (0 : Int).toNat = 0 from rfl, Nat.zero_testBit, eq_comm] at this
theorem rise_all {m : Int} (hm : inU32 m) {t : Nat} (h : (hiM m t == 0) = true) : loM m t = m := by
  refine u32_ext (lo_u32 hm t) hm fun i hi => ?_
  rw [lo_bit]
  by_cases e : i < t
  · rw [decide_eq_true e, Bool.true_and]
  · rw [decide_eq_false e, hi_gone hm h i (by omega)]; rfl
theorem rise_pop {m : Int} (hm : inU32 m) {t : Nat} (ht : t ≤ 32) (h : (hiM m t == 0) = true) : ((countTo m.toNat t : Nat) : Int) = ((popN m.toNat : Nat) : Int) := by
  show _ = ((countTo m.toNat 32 : Nat) : Int)
  rw [count_gap (k := 32) ht fun i h1 _ => hi_gone hm h i h1]
theorem rise_le {m : Int} {t : Nat} (ht : t ≤ 32) : decide (((countTo m.toNat t : Nat) : Int) ≤ 32) = true := decide_eq_true (by have := countTo_le m.toNat t; omega)
theorem rise_gt {m : Int} (hm : inU32 m) {t : Nat} (h : (hiM m t == 0) = false) : decide (lstI (hiM m t) ≤ ((t : Nat) : Int) - 1) = false ∧ decide (lstI (hiM m t) > 31) = false ∧ hasB m (lstI (hiM m t)) = true := by
  obtain ⟨r1, r2, r3, r4, r5⟩ := rise_next hm h
  rw [r4]
  exact ⟨decide_eq_false (by omega), decide_eq_false (by omega), by rw [hasB_nat m r2]; exact r3⟩



theorem tkF_u32 {s f : Int} (hf : inU32 f) : inU32 (tkF s f) := by unfold tkF; split; exact without_u32 _ _ hf; exact hf
theorem gvF_u32 {s c f i : Int} (hf : inU32 f) : inU32 (gvF s c f i) := by unfold gvF; split; exact with_u32 _ _ hf; exact hf
theorem new_out {c : Int} (h : isC c = false) : nwS c = 0 ∧ nwC c = 0 ∧ nwF c = 0 := by unfold nwS nwC nwF; rw [h]; exact ⟨rfl, rfl, rfl⟩
theorem new_in {c : Int} (h : isC c = true) : nwS c = 1 ∧ nwC c = c ∧ nwF c = whl c := by unfold nwS nwC nwF; rw [h]; exact ⟨rfl, rfl, rfl⟩
theorem isC_lt {c : Int} (h : isC c = true) : ¬ c < 0 ∧ ¬ c > 3 := by simp [isC] at h; omega
theorem isC_gt {c : Int} (h : isC c = false) (h0 : ¬ c < 0) : c > 3 := by
  by_cases e : c > 3
  · exact e
  · rw [isC_of2 h0 e] at h; cases h
theorem pop_beq {f : Int} (hf : inU32 f) : (((popN f.toNat : Nat) : Int) == 0) = (f == 0) := by
  have e := pop_zero (u32_nat hf).2
  by_cases h : f = 0
  · subst h; decide
  · rw [beq_eq_false_iff_ne.2 h, beq_eq_false_iff_ne.2]
    intro h2
    exact h (by rw [(u32_nat hf).1, e.1 (by omega)]; rfl)
theorem countTo_full {m : Nat} : ∀ {n : Nat}, countTo m n = n ↔ ∀ i, i < n → m.testBit i = true
  | 0 => ⟨fun _ i h => by omega, fun _ => rfl⟩
  | n + 1 => by
    have hl := countTo_le m n
    have hu : countTo m (n + 1) = countTo m n + (if m.testBit n = true then 1 else 0) := rfl
    rw [hu]
    constructor
    · intro h
      have h1 : m.testBit n = true := by
        cases e : m.testBit n with
        | true => rfl
        | false => rw [e] at h; simp at h; omega
      rw [h1] at h
      have h2 := (countTo_full (n := n)).1 (by simpa using h)
      intro i hi
      by_cases e : i = n
      · subst e; exact h1
      · exact h2 i (by omega)
    · intro h
      rw [(countTo_full (n := n)).2 fun i hi => h i (by omega), h n (by omega)]; rfl
theorem pop_whole {c f : Int} (hf : inU32 f) (hn : NoHi f (cBlocks c)) : (((popN f.toNat : Nat) : Int) == cBlocks c) = (f == whl c) := by
  have hb := blocks_range c
  have e : popN f.toNat = countTo f.toNat (cBlocks c).toNat := by
    have := count_gap (m := f.toNat) (t := (cBlocks c).toNat) (k := 32) (by omega) fun i h1 _ => hn i (by omega)
    exact this
  by_cases h : f = whl c
  · rw [beq_iff_eq.2 h, beq_iff_eq, e, countTo_full.2 fun i hi => by rw [h, whl_bit, decide_eq_true (by omega)]]; omega
  · rw [beq_eq_false_iff_ne.2 h, beq_eq_false_iff_ne, e]
    intro h2
    have h3 := (countTo_full (m := f.toNat) (n := (cBlocks c).toNat)).1 (by omega)
    refine h (u32_ext hf (whl_u32 c) fun i hi => ?_)
    rw [whl_bit]
    by_cases e2 : ((i : Nat) : Int) < cBlocks c
    · rw [decide_eq_true e2]; exact h3 i (by omega)
    · rw [decide_eq_false e2]; exact hn i (by omega)
theorem full_in {s f : Int} (hf : inU32 f) (h : inU s = true) : fuB s f = (((popN f.toNat : Nat) : Int) == 0) := by rw [pop_beq hf]; unfold fuB; rw [h]; rfl
theorem full_out {s f : Int} (h : inU s = false) : fuB s f = false := by unfold fuB; rw [h]; rfl
theorem empty_in {s c f : Int} (hf : inU32 f) (hr : spR s c f = true) (h : inU s = true) : emB s c f = (((popN f.toNat : Nat) : Int) == cBlocks c) := by rw [pop_whole hf (spR_noHi hf hr).1]; unfold emB; rw [h]; rfl
theorem empty_out {s c f : Int} (h : inU s = false) : emB s c f = false := by unfold emB; rw [h]; rfl
theorem used_in {s c f : Int} (h : inU s = true) : usI s c f = iSub .i64 (cBlocks c) ((popN f.toNat : Nat) : Int) := by unfold usI; rw [h, used_eq]; rfl
theorem used_out {s c f : Int} (h : inU s = false) : usI s c f = 0 := by unfold usI; rw [h]; rfl
/-! ### Taken, and given back -/
theorem tk_parts {s f : Int} (hf : inU32 f) (h : tkOk s f = true) : s = 1 ∧ (f == 0) = false ∧ tkF s f = withoutI f (lstI f) ∧ tkI s f = lstI f ∧ hasB f (lstI f) = true := by
  have h2 := h
  unfold tkOk at h2
  simp only [Bool.and_eq_true, beq_iff_eq, Bool.not_eq_true'] at h2
  refine ⟨h2.1, h2.2, by unfold tkF; rw [if_pos h], by unfold tkI; rw [if_pos h], least_has hf h2.2⟩
theorem least_lt {s c f : Int} (hf : inU32 f) (hr : spR s c f = true) (hu : inU s = true) (h : (f == 0) = false) : 0 ≤ lstI f ∧ lstI f < cBlocks c := by
  have hl := least_has hf h
  have hb := blocks_range c
  have hn := (spR_noHi hf hr).1
  unfold hasB at hl
  simp only [Bool.and_eq_true, decide_eq_true_eq] at hl
  refine ⟨hl.1.1, ?_⟩
  by_cases e : lstI f < cBlocks c
  · exact e
  · rw [hn (lstI f).toNat (by omega)] at hl; cases hl.2
theorem has_without {f i : Int} (hf : inU32 f) : hasB (withoutI f i) i = false := by
  unfold hasB
  by_cases h : 0 ≤ i ∧ i < 32
  · rw [without_bit f i hf, decide_eq_true h, decide_eq_true (rfl : i.toNat = i.toNat)]; simp
  · rw [decide_eq_false h]; rfl
theorem with_without {f i : Int} (hf : inU32 f) (hi : hasB f i = true) : withI (withoutI f i) i = f := by
  unfold hasB at hi
  simp only [Bool.and_eq_true, decide_eq_true_eq] at hi
  refine u32_ext (with_u32 _ _ (without_u32 _ _ hf)) hf fun j _ => ?_
  rw [with_bit, without_bit f i hf, decide_eq_true hi.1]
  by_cases e : i.toNat = j
  · subst e; rw [hi.2]; simp
  · rw [decide_eq_false e]; simp
theorem back_ok {s c f : Int} (hf : inU32 f) (hr : spR s c f = true) (h : tkOk s f = true) : gvOk s c (tkF s f) (tkI s f) = true ∧ gvF s c (tkF s f) (tkI s f) = f := by
  obtain ⟨h1, h2, h3, h4, h5⟩ := tk_parts hf h
  have hu : inU s = true := by rw [h1]; rfl
  have e : gvOk s c (tkF s f) (tkI s f) = true := by rw [h3, h4]; exact gv_t hu (least_lt hf hr hu h2) (has_without hf)
  refine ⟨e, ?_⟩
  unfold gvF; rw [if_pos e, h3, h4]; exact with_without hf h5
theorem countTo_del {m : Nat} {k : Nat} (l : Nat) (hk : m.testBit k = true) (h : ∀ i, l.testBit i = (m.testBit i && !(decide (k = i)))) : ∀ n, countTo l n + (if k < n then 1 else 0) = countTo m n
  | 0 => rfl
  | n + 1 => by
    have ih := countTo_del l hk h n
    have e1 : countTo l (n + 1) = countTo l n + (if l.testBit n = true then 1 else 0) := rfl
    have e2 : countTo m (n + 1) = countTo m n + (if m.testBit n = true then 1 else 0) := rfl
    rw [e1, e2, h n]
    by_cases e : k = n
    · subst e; rw [hk, decide_eq_true rfl]; simp at ih ⊢; omega
    · rw [decide_eq_false e, Bool.not_false, Bool.and_true]
      by_cases e3 : k < n
      · rw [if_pos e3] at ih; rw [if_pos (show k < n + 1 by omega)]; omega
      · rw [if_neg e3] at ih; rw [if_neg (show ¬ k < n + 1 by omega)]; omega
theorem pop_without {f i : Int} (hf : inU32 f) (hi : hasB f i = true) : popN (withoutI f i).toNat + 1 = popN f.toNat := by
  unfold hasB at hi
  simp only [Bool.and_eq_true, decide_eq_true_eq] at hi
  have := countTo_del (m := f.toNat) (k := i.toNat) (withoutI f i).toNat hi.2 (fun j => by rw [without_bit f i hf, decide_eq_true hi.1, Bool.true_and]) 32
  rw [if_pos (by omega)] at this
  exact this
theorem used_more {s c f : Int} (hf : inU32 f) (h : tkOk s f = true) : usI s c (tkF s f) = iAdd .i64 (usI s c f) 1 := by
  obtain ⟨h1, h2, h3, h4, h5⟩ := tk_parts hf h
  have hu : inU s = true := by rw [h1]; rfl
  have hp := pop_without hf h5
  have hb := blocks_range c
  have hp2 := pop_range (m := f)
  unfold usI
  rw [if_pos hu, if_pos hu, h3, add_i64 (by unfold in64; omega)]; omega
theorem has_with_ne {f i j : Int} (hij : i ≠ j) : hasB (withI f j) i = hasB f i := by
  unfold hasB
  by_cases h : 0 ≤ i ∧ i < 32
  · rw [with_bit, decide_eq_true h]
    by_cases e : 0 ≤ j ∧ j < 32
    · rw [decide_eq_false (show ¬ j.toNat = i.toNat by omega)]; simp
    · rw [decide_eq_false e]; simp
  · rw [decide_eq_false h]; rfl
theorem gvOk_other {s c f i j : Int} (hij : i ≠ j) : gvOk s c (gvF s c f j) i = gvOk s c f i := by
  unfold gvF; split
  · unfold gvOk; rw [has_with_ne hij]
  · rfl
theorem with_comm (f i j : Int) : withI (withI f i) j = withI (withI f j) i := by
  unfold withI; rw [Int.toNat_natCast, Int.toNat_natCast, Nat.or_assoc, Nat.or_assoc, Nat.or_comm (oneI i).toNat]
theorem gvF_other {s c f i j : Int} (hij : i ≠ j) : gvF s c (gvF s c f i) j = gvF s c (gvF s c f j) i := by
  have h1 := gvOk_other (s := s) (c := c) (f := f) hij
  have h2 := gvOk_other (s := s) (c := c) (f := f) (fun e => hij e.symm)
  unfold gvF at h1 h2 ⊢
  by_cases e1 : gvOk s c f i = true <;> by_cases e2 : gvOk s c f j = true
  · rw [if_pos e1] at h2; rw [if_pos e2] at h1
    rw [if_pos e1, if_pos e2, if_pos (h2.trans e2), if_pos (h1.trans e1), with_comm]
  · rw [if_pos e1] at h2; rw [if_neg e2] at h1
    rw [if_pos e1, if_neg e2, if_neg (by rw [h2]; exact e2), if_pos e1]
  · rw [if_neg e1] at h2; rw [if_pos e2] at h1
    rw [if_neg e1, if_pos e2, if_neg (by rw [h1]; exact e1)]
  · rw [if_neg e1, if_neg e2, if_neg e1]
/-! ### Blocks taken from 0 on -/
theorem cl_4 {c : Int} (h : inU8 c) : Int.tmod c 4 = c % 4 ∧ iCv .i64 (Int.tmod c 4) = c % 4 ∧ isC (c % 4) = true := by
  have h0 := h.1
  have e : Int.tmod c 4 = c % 4 := tmod_pos h0
  refine ⟨e, by rw [e, cv_i64 (by unfold in64; omega)], ?_⟩
  simp [isC]; omega
theorem cl_C {c : Int} (h : inU8 c) : isC (iCv .i64 (Int.tmod c 4)) = true := by rw [(cl_4 h).2.1]; exact (cl_4 h).2.2
theorem four_ix {c : Int} (h : inU8 c) : Int.tmod c 4 = ((Int.toNat (Int.tmod c 4) : Nat) : Int) ∧ Int.toNat (Int.tmod c 4) < 4 := by rw [(cl_4 h).1]; omega
theorem four_eq {c : Int} (h : inU8 c) : ([16, 8, 4, 2] : List Int).getD (Int.toNat (Int.tmod c 4)) 0 = cBlocks (iCv .i64 (Int.tmod c 4)) := by
  obtain ⟨e1, e2, e3⟩ := cl_4 h
  rw [e2, e1]
  rcases isC_cases e3 with e | e | e | e <;> rw [e] <;> decide
theorem blocks_pos {c : Int} (h : isC c = true) : 0 < cBlocks c := by rcases isC_cases h with rfl | rfl | rfl | rfl <;> decide
theorem take_hi {m : Int} (hm : inU32 m) {i : Nat} (hi : i < 32) (hb : m.toNat.testBit i = true) : tkOk 1 (hiM m i) = true ∧ tkI 1 (hiM m i) = ((i : Nat) : Int) ∧ tkF 1 (hiM m i) = hiM m (i + 1) := by
  have hu := hi_u32 hm i
  obtain ⟨h1, h2⟩ := least_is hu (s := i) ⟨by omega, fun j hj => by rw [hi_bit, decide_eq_false (by omega)]; rfl⟩ hi (by rw [hasB_nat _ hi, hi_bit, decide_eq_true (Nat.le_refl i), hb]; rfl)
  have e : tkOk 1 (hiM m i) = true := by unfold tkOk; rw [h2]; rfl
  refine ⟨e, by unfold tkI; rw [if_pos e, h1], ?_⟩
  unfold tkF; rw [if_pos e, h1]
  refine u32_ext (without_u32 _ _ hu) (hi_u32 hm _) fun j hj => ?_
  rw [without_bit _ _ hu, hi_bit, hi_bit, decide_eq_true (show 0 ≤ ((i : Nat) : Int) ∧ ((i : Nat) : Int) < 32 by omega), Bool.true_and, Int.toNat_natCast]
  by_cases e1 : i = j
  · subst e1; rw [decide_eq_true (rfl : i = i), decide_eq_false (show ¬ i + 1 ≤ i by omega)]; simp
  · rw [decide_eq_false e1]
    by_cases e2 : i ≤ j
    · rw [decide_eq_true e2, decide_eq_true (show i + 1 ≤ j by omega)]; simp
    · rw [decide_eq_false e2, decide_eq_false (show ¬ i + 1 ≤ j by omega)]; simp
theorem hi_noHi {m n : Int} (h : NoHi m n) (i : Nat) : NoHi (hiM m i) n := fun j hj => by rw [hi_bit, h j hj, Bool.and_false]
theorem spR_one {c f : Int} (hf : inU32 f) (hc : isC c = true) (hn : NoHi f (cBlocks c)) : spR 1 c f = true := by
  unfold spR; rw [if_neg (by decide), hc, (noHi_iff hf).2 hn]; rfl
theorem whl_noHi (c : Int) : NoHi (whl c) (cBlocks c) := fun j hj => by rw [whl_bit, decide_eq_false (by omega)]
theorem used_hi {c : Int} (hc : isC c = true) {i : Nat} (hi : ((i : Nat) : Int) ≤ cBlocks c) : usI 1 c (hiM (whl c) i) = ((i : Nat) : Int) := by
  have h0 : ∀ k : Fin 17, usI 1 0 (hiM (whl 0) k.val) = ((k.val : Nat) : Int) := by decide
  have h1 : ∀ k : Fin 9, usI 1 1 (hiM (whl 1) k.val) = ((k.val : Nat) : Int) := by decide
  have h2 : ∀ k : Fin 5, usI 1 2 (hiM (whl 2) k.val) = ((k.val : Nat) : Int) := by decide
  have h3 : ∀ k : Fin 3, usI 1 3 (hiM (whl 3) k.val) = ((k.val : Nat) : Int) := by decide
  rcases isC_cases hc with rfl | rfl | rfl | rfl <;> simp only [cBlocks] at hi <;> simp at hi
  · exact h0 ⟨i, by omega⟩
  · exact h1 ⟨i, by omega⟩
  · exact h2 ⟨i, by omega⟩
  · exact h3 ⟨i, by omega⟩
theorem hi_none {m n : Int} (hm : inU32 m) (h : NoHi m n) {i : Nat} (hi : n ≤ ((i : Nat) : Int)) : hiM m i = 0 := (u32_zero (hi_u32 hm i)).2 fun j => by
  rw [hi_bit]
  by_cases e : i ≤ j
  · rw [h j (by omega), Bool.and_false]
  · rw [decide_eq_false e]; rfl
theorem take_none {m : Int} (h : m = 0) : tkOk 1 m = false ∧ fuB 1 m = true := by rw [h]; exact ⟨rfl, rfl⟩
theorem hi_skip {m : Int} (hm : inU32 m) {i : Nat} (hb : m.toNat.testBit i = false) : hiM m i = hiM m (i + 1) := u32_ext (hi_u32 hm _) (hi_u32 hm _) fun j hj => by
  rw [hi_bit, hi_bit]
  by_cases e : i = j
  · subst e; rw [hb]; simp
  · by_cases e2 : i ≤ j
    · rw [decide_eq_true e2, decide_eq_true (show i + 1 ≤ j by omega)]
    · rw [decide_eq_false e2, decide_eq_false (show ¬ i + 1 ≤ j by omega)]
/-- Which of the blocks are free again. -/
def FR (m : Int) : List Bool := (List.range 16).map fun j => m.toNat.testBit j
theorem FR_len (m : Int) : (FR m).length = 16 := by simp [FR]
theorem FR_get (m : Int) {k : Nat} (h : k < 16) : (FR m).getD k false = m.toNat.testBit k := by simp [FR, List.getD, h]
theorem FR_set (m : Int) {k : Nat} (h : k < 16) : (FR m).set k true = FR (withI m ((k : Nat) : Int)) := by
  apply List.ext_getElem (by rw [List.length_set, FR_len, FR_len])
  intro j h1 h2
  rw [List.length_set, FR_len] at h1
  rw [List.getElem_set]
  simp only [FR, List.getElem_map, List.getElem_range, with_bit]
  rw [decide_eq_true (show 0 ≤ ((k : Nat) : Int) ∧ ((k : Nat) : Int) < 32 by omega), Bool.true_and, Int.toNat_natCast]
  by_cases e : k = j
  · rw [if_pos e, decide_eq_true e, Bool.or_true]
  · rw [if_neg e, decide_eq_false e, Bool.or_false]
def kx (g c : Int) : Nat := (g % cBlocks c).toNat
theorem kx_eq {g c : Int} (hg : inU8 g) (hc : isC c = true) : Int.tmod (iCv .i64 g) (cBlocks c) = ((kx g c : Nat) : Int) := by
  have h0 := hg.1; have h1 := hg.2; have hb := blocks_pos hc
  rw [cv_i64 (by unfold in64; omega), tmod_pos h0]
  unfold kx; rw [Int.toNat_of_nonneg (Int.emod_nonneg _ (by omega))]
theorem kx_lt (g : Int) {c : Int} (hc : isC c = true) : ((kx g c : Nat) : Int) < cBlocks c := by
  have hb := blocks_pos hc
  unfold kx; rw [Int.toNat_of_nonneg (Int.emod_nonneg _ (by omega))]; exact Int.emod_lt_of_pos _ hb
theorem kx_16 (g : Int) {c : Int} (hc : isC c = true) : kx g c < 16 := by have := kx_lt g hc; have := blocks_range c; omega
theorem getD_u8 {xs : List Int} (h : ∀ x ∈ xs, inU8 x) (i : Nat) : inU8 (xs.getD i 0) := by
  by_cases e : i < xs.length
  · rw [show xs.getD i 0 = xs[i] by simp [List.getD, e]]; exact h _ (List.getElem_mem e)
  · rw [show xs.getD i 0 = 0 by simp [List.getD, e]]; exact ⟨by decide, by decide⟩
structure IM where
  i : Nat
  m : Int
theorem give_ok (m g : Int) {c : Int} (hc : isC c = true) : gvOk 1 c m ((kx g c : Nat) : Int) = !((FR m).getD (kx g c) false) := by
  have h16 := kx_16 g hc
  unfold gvOk
  rw [FR_get m h16, hasB_nat m (by omega), decide_eq_true (show 0 ≤ ((kx g c : Nat) : Int) ∧ ((kx g c : Nat) : Int) < cBlocks c from ⟨by omega, kx_lt g hc⟩)]; rfl
theorem give_ne (m g : Int) {c : Int} (hc : isC c = true) : (gvOk 1 c m ((kx g c : Nat) : Int) == (FR m).getD (kx g c) false) = false := by
  rw [give_ok m g hc]; cases (FR m).getD (kx g c) false <;> rfl
theorem give_F {m : Int} (hm : inU32 m) (g : Int) {c : Int} (hc : isC c = true) : gvF 1 c m ((kx g c : Nat) : Int) = withI m ((kx g c : Nat) : Int) := by
  have h16 := kx_16 g hc
  unfold gvF; split
  · rfl
  · rename_i h
    rw [give_ok m g hc, FR_get m h16] at h
    refine u32_ext hm (with_u32 _ _ hm) fun j hj => ?_
    rw [with_bit, Int.toNat_natCast]
    by_cases e : kx g c = j
    · subst e; rw [show m.toNat.testBit (kx g c) = true by simpa using h]; rfl
    · rw [decide_eq_false e]; simp
theorem with_noHi {m n : Int} (h : NoHi m n) {k : Nat} (hk : ((k : Nat) : Int) < n) : NoHi (withI m ((k : Nat) : Int)) n := fun j hj => by
  rw [with_bit, h j hj, Int.toNat_natCast, decide_eq_false (show ¬ k = j by omega)]; simp
theorem give_right {m : Int} (hm : inU32 m) (g : Int) {c : Int} (hc : isC c = true) (hn : NoHi m (cBlocks c)) : spR 1 c (gvF 1 c m ((kx g c : Nat) : Int)) = true := by
  rw [give_F hm g hc]; exact spR_one (with_u32 _ _ hm) hc (with_noHi hn (kx_lt g hc))
theorem zero_noHi (n : Int) : NoHi 0 n := fun j _ => Nat.zero_testBit j
theorem full_end {s : IM} {l k : Nat} {n : Int} (h : s.i ≤ l ∧ inU32 s.m ∧ NoHi s.m n) (hk : ¬ ((k : Nat) : Int) < n) : fuB 1 (hiM s.m k) = true := (take_none (hi_none h.2.1 h.2.2 (by omega))).2
theorem FR_16 (m : Int) {c : Int} {i : Nat} (h : ((i : Nat) : Int) < cBlocks c) : (FR m).getD i false = m.toNat.testBit i := FR_get m (by have := blocks_range c; omega)

end Go.Proofs.YthadoehgmdageaaDoor.Fl
