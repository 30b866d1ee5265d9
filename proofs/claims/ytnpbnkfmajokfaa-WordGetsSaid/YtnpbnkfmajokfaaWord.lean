/- Contracts of package word and its reference. Conditions: each in its premises. -/
import Derived.Test.YtnpbnkfmajokfaaBase
import Derived.Test.YtnpbnkfmajokfaaNum
set_option linter.unusedVariables false
set_option linter.unusedSimpArgs false
namespace Go.Proofs.Ytnpbnkfmajokfaa.Fl
open Go.RowKit

/-! ### The specifications: numbers alone -/
def wMay (k n : Int) : Bool := if k = 0 then n == 0 else if k = 1 then decide (0 ≤ n) else if k = 2 then decide (0 ≤ n) && decide (n < 9223372036854775807) else false
def wPut (k n : Int) : Int := if wMay k n = true then (if k = 1 then 2 * n + 1 else if k = 2 then 2 * (n + 1) else 0) else 0
def wGetK (w : Int) : Int := if w = 0 then 0 else if w % 2 = 1 then 1 else 2
def wGetN (w : Int) : Int := if w = 0 then 0 else if w % 2 = 1 then w / 2 else w / 2 - 1
theorem may1 {n : Int} (h : wMay 1 n = true) : 0 ≤ n := by simpa [wMay] using h
theorem may2 {n : Int} (h : wMay 2 n = true) : 0 ≤ n ∧ n < 9223372036854775807 := by simpa [wMay] using h
theorem put1 {n : Int} (hn : in64 n) (h : wMay 1 n = true) : bOr .u64 (iShl .u64 (iCv .u64 n) 1) 1 = 2 * n + 1 := by
  have := may1 h
  unfold in64 at hn
  rw [cv_u64 ⟨by omega, by omega⟩, shl_u64 (by unfold inU64; omega), show n * 2 ^ 1 = 2 * n by omega, bOr_u64_even (by unfold inU64; omega)]
theorem put2 {n : Int} (hn : in64 n) (h : wMay 2 n = true) : iShl .u64 (iCv .u64 (iAdd .i64 n 1)) 1 = 2 * (n + 1) := by
  have := may2 h
  unfold in64 at hn
  rw [add_i64 ⟨by omega, by omega⟩, cv_u64 ⟨by omega, by omega⟩, shl_u64 (by unfold inU64; omega)]
  omega
theorem rput1 {n : Int} (hn : in64 n) (h : wMay 1 n = true) : iAdd .u64 (iMul .u64 2 (iCv .u64 n)) 1 = 2 * n + 1 := by
  have := may1 h
  unfold in64 at hn
  rw [cv_u64 ⟨by omega, by omega⟩, mul_u64 ⟨by omega, by omega⟩, add_u64 ⟨by omega, by omega⟩]
theorem rput2 {n : Int} (hn : in64 n) (h : wMay 2 n = true) : iMul .u64 2 (iAdd .u64 (iCv .u64 n) 1) = 2 * (n + 1) := by
  have := may2 h
  unfold in64 at hn
  rw [cv_u64 ⟨by omega, by omega⟩, add_u64 ⟨by omega, by omega⟩, mul_u64 ⟨by omega, by omega⟩]
theorem may_kind {k n : Int} (h : wMay k n = true) (h0 : k ≠ 0) (h1 : k ≠ 1) : k = 2 := by
  unfold wMay at h
  rw [if_neg h0, if_neg h1] at h
  split at h
  · assumption
  · cases h
theorem get1 {w : Int} (hw : inU64 w) : iCv .i64 (iShr w 1) = w / 2 := by
  unfold inU64 at hw
  rw [shr_1, cv_i64 ⟨by omega, by omega⟩]
theorem get2 {w : Int} (hw : inU64 w) : iSub .i64 (w / 2) 1 = w / 2 - 1 := by
  unfold inU64 at hw
  exact sub_i64 ⟨by omega, by omega⟩
theorem rget0 {w : Int} (hw : inU64 w) : Int.tmod w 2 = w % 2 := tmod_pos hw.1
theorem rget1 {w : Int} (hw : inU64 w) : iCv .i64 (iQuo .u64 w 2) = w / 2 := by
  unfold inU64 at hw
  rw [quo_u64 (by omega) (by omega) ⟨by omega, by omega⟩, cv_i64 ⟨by omega, by omega⟩]
theorem rget2 {w : Int} (hw : inU64 w) (h0 : w ≠ 0) (h1 : ¬ w % 2 = 1) : iCv .i64 (iSub .u64 (iQuo .u64 w 2) 1) = w / 2 - 1 := by
  unfold inU64 at hw
  rw [quo_u64 (by omega) (by omega) ⟨by omega, by omega⟩, sub_u64 ⟨by omega, by omega⟩, cv_i64 ⟨by omega, by omega⟩]
theorem put_u64 {k n : Int} (hn : in64 n) : inU64 (wPut k n) := by
  unfold in64 at hn
  unfold wPut inU64
  split
  · rename_i h
    split
    · rename_i h1; subst h1; have := may1 h; omega
    · split
      · rename_i h2; subst h2; have := may2 h; omega
      · omega
  · omega
theorem getN_64 {w : Int} (hw : inU64 w) : in64 (wGetN w) := by
  unfold inU64 at hw
  unfold wGetN in64
  split
  · omega
  · split <;> omega
theorem may_get {w : Int} (hw : inU64 w) : wMay (wGetK w) (wGetN w) = true := by
  unfold inU64 at hw
  unfold wGetK wGetN
  by_cases h0 : w = 0
  · rw [if_pos h0, if_pos h0]; rfl
  · rw [if_neg h0, if_neg h0]
    by_cases h1 : w % 2 = 1
    · rw [if_pos h1, if_pos h1]; simp [wMay]; omega
    · rw [if_neg h1, if_neg h1]; simp [wMay]; omega
theorem put_get {w : Int} (hw : inU64 w) : wPut (wGetK w) (wGetN w) = w := by
  have hm := may_get hw
  unfold inU64 at hw
  unfold wPut
  rw [if_pos hm]
  unfold wGetK wGetN
  by_cases h0 : w = 0
  · rw [if_pos h0]; simp [h0]
  · rw [if_neg h0, if_neg h0]
    by_cases h1 : w % 2 = 1
    · rw [if_pos h1, if_pos h1]; simp; omega
    · rw [if_neg h1, if_neg h1]; simp; omega
theorem may0 {n : Int} (h : wMay 0 n = true) : n = 0 := by simpa [wMay] using h
/-- The three kinds that may be. -/
theorem may_cases {k n : Int} (h : wMay k n = true) : (k = 0 ∧ n = 0 ∧ wPut k n = 0) ∨ (k = 1 ∧ 0 ≤ n ∧ wPut k n = 2 * n + 1) ∨ (k = 2 ∧ 0 ≤ n ∧ n < 9223372036854775807 ∧ wPut k n = 2 * (n + 1)) := by
  by_cases h0 : k = 0
  · subst h0; exact .inl ⟨rfl, may0 h, by simp [wPut]⟩
  · by_cases h1 : k = 1
    · subst h1; exact .inr (.inl ⟨rfl, may1 h, by simp [wPut, h]⟩)
    · obtain rfl := may_kind h h0 h1
      have := may2 h
      exact .inr (.inr ⟨rfl, this.1, this.2, by simp [wPut, h]⟩)
theorem get_odd {n : Int} (h1 : 0 ≤ n) : wGetK (2 * n + 1) = 1 ∧ wGetN (2 * n + 1) = n := by
  have h : ¬ (2 * n + 1 = 0) := by omega
  have h2 : (2 * n + 1) % 2 = 1 := by omega
  unfold wGetK wGetN
  rw [if_neg h, if_neg h, if_pos h2, if_pos h2]
  exact ⟨rfl, by omega⟩
theorem get_even {n : Int} (h1 : 0 ≤ n) : wGetK (2 * (n + 1)) = 2 ∧ wGetN (2 * (n + 1)) = n := by
  have h : ¬ (2 * (n + 1) = 0) := by omega
  have h2 : ¬ (2 * (n + 1)) % 2 = 1 := by omega
  unfold wGetK wGetN
  rw [if_neg h, if_neg h, if_neg h2, if_neg h2]
  exact ⟨rfl, by omega⟩
theorem get_put {k n : Int} (h : wMay k n = true) : wGetK (wPut k n) = k ∧ wGetN (wPut k n) = n := by
  rcases may_cases h with ⟨rfl, rfl, e⟩ | ⟨rfl, h1, e⟩ | ⟨rfl, h1, h2, e⟩
  · rw [e]; exact ⟨rfl, rfl⟩
  · rw [e]; exact get_odd h1
  · rw [e]; exact get_even h1
theorem get_put_b {k n : Int} (h : wMay k n = true) : ((wGetK (wPut k n) == k) && ((wGetN (wPut k n) == n) && true)) = true := by
  obtain ⟨e1, e2⟩ := get_put h
  rw [e1, e2]; simp
theorem put_inj_b {k n k' n' : Int} (h : wMay k n = true) (h' : wMay k' n' = true) : ((wPut k n == wPut k' n') == ((k == k') && ((n == n') && true))) = true := by
  have key : wPut k n = wPut k' n' ↔ (k = k' ∧ n = n') := by
    constructor
    · intro e
      obtain ⟨e1, e2⟩ := get_put h
      obtain ⟨e3, e4⟩ := get_put h'
      rw [e] at e1 e2
      exact ⟨e1.symm.trans e3, e2.symm.trans e4⟩
    · rintro ⟨rfl, rfl⟩; rfl
  by_cases hk : wPut k n = wPut k' n'
  · obtain ⟨rfl, rfl⟩ := key.1 hk
    simp
  · have : ¬ (k = k' ∧ n = n') := fun e => hk (key.2 e)
    simp only [beq_eq_false_iff_ne.2 hk, Bool.and_true]
    by_cases e1 : k = k'
    · subst e1
      have : n ≠ n' := fun e => this ⟨rfl, e⟩
      simp [beq_eq_false_iff_ne.2 this]
    · simp [beq_eq_false_iff_ne.2 e1]
theorem kind0_b {k n : Int} (h : wMay k n = true) : ((wPut k n == 0) == (k == 0)) = true := by
  rcases may_cases h with ⟨rfl, rfl, e⟩ | ⟨rfl, h1, e⟩ | ⟨rfl, h1, h2, e⟩ <;> rw [e]
  · rfl
  · rw [show (2 * n + 1 == 0) = false from beq_eq_false_iff_ne.2 (by omega)]; rfl
  · rw [show (2 * (n + 1) == 0) = false from beq_eq_false_iff_ne.2 (by omega)]; rfl
theorem kind1_b {k n : Int} (hn : in64 n) (h : wMay k n = true) : ((Int.tmod (wPut k n) 2 == 1) == (k == 1)) = true := by
  rw [rget0 (put_u64 hn)]
  rcases may_cases h with ⟨rfl, rfl, e⟩ | ⟨rfl, h1, e⟩ | ⟨rfl, h1, h2, e⟩ <;> rw [e]
  · rfl
  · rw [show ((2 * n + 1) % 2 == 1) = true from beq_iff_eq.2 (by omega)]; rfl
  · rw [show (2 * (n + 1) % 2 == 1) = false from beq_eq_false_iff_ne.2 (by omega)]; rfl
theorem next_add {n : Int} (hn : in64 n) (h : ¬ n > 1152921504606846976) : iAdd .i64 n 1 = n + 1 := by
  unfold in64 at hn
  exact add_i64 ⟨by omega, by omega⟩
theorem next_may {k n : Int} (h : wMay k n = true) (h0 : k ≠ 0) (hb : ¬ n > 1152921504606846976) : wMay k (n + 1) = true := by
  rcases may_cases h with ⟨rfl, _⟩ | ⟨rfl, h1, _⟩ | ⟨rfl, h1, h2, _⟩
  · exact absurd rfl h0
  · simp [wMay]; omega
  · simp [wMay]; omega
theorem next_put {k n : Int} (hn : in64 n) (h : wMay k n = true) (h0 : k ≠ 0) (hb : ¬ n > 1152921504606846976) : (wPut k (n + 1) == iAdd .u64 (wPut k n) 2) = true := by
  have hm := next_may h h0 hb
  have hu := put_u64 (k := k) hn
  unfold inU64 at hu
  rcases may_cases h with ⟨rfl, _⟩ | ⟨rfl, h1, e⟩ | ⟨rfl, h1, h2, e⟩
  · exact absurd rfl h0
  · rcases may_cases hm with ⟨h3, _⟩ | ⟨_, _, e'⟩ | ⟨h3, _⟩
    · omega
    · rw [e', e, add_u64 ⟨by omega, by omega⟩]; simp; omega
    · omega
  · rcases may_cases hm with ⟨h3, _⟩ | ⟨h3, _⟩ | ⟨_, _, _, e'⟩
    · omega
    · omega
    · rw [e', e, add_u64 ⟨by omega, by omega⟩]; simp; omega


theorem word_May (k : Int) (n : Int) : Pure noRo P0 21 #[.agg #[.int .i64 k, .int .i64 n]] (.bool (wMay k n)) := by
  intro w0 hG
  have H0 := Own.begin hG
  refine enter (fn := F21) (c := B21) (n := 25) [(0, .agg #[.int .i64 k, .int .i64 n])] (by kernel_rfl) (by kernel_rfl) (by kernel_rfl) (by kernel_rfl) (by kernel_rfl) ?_
  refine CW.seq (x := (cAt B21 [0])) (y := (cAt B21 [1])) (by kernel_rfl) ?_
  refine CW.region (id := 0) (d := false) H0 (by kernel_rfl) mixed 1 [(0, .key 1)] [] [1, 2] [0, 1] (by kernel_rfl)
    (fun β1 _ => [(1, .pointer (some ⟨(β1 0), 0, none⟩)), (2, .bool false)]) (fun β1 _ => [some (.ro noRo), some (.blk (β1 0) [.int .i64 k, .int .i64 n] 35)]) (fun β1 _ => []) (fun _ _ => [])
    (fun _ _ => by kernel_rfl) (fun _ _ => trivial) ?_
  intro β1 _ w1 H1 _
  refine NQ.then ?_
  refine CW.seq (x := (cAt B21 [1, 0])) (y := (cAt B21 [1, 1])) (by kernel_rfl) ?_
  refine CW.seq (x := (cAt B21 [1, 0, 0])) (y := (cAt B21 [1, 0, 1])) (by kernel_rfl) ?_
  refine CW.region (id := 1) (d := false) H1 (by kernel_rfl) mixed 0 [(1, .key 1)] [] [1, 2, 4] [0, 1] (by kernel_rfl)
    (fun β2 _ => [(1, .pointer (some ⟨(β1 0), 0, none⟩)), (2, .bool false), (4, .int .i64 k)]) (fun β2 _ => [some (.ro noRo), some (.blk (β1 0) [.int .i64 k, .int .i64 n] 35)]) (fun β2 _ => [(β1 0) = (β1 0)]) (fun _ _ => [])
    (fun _ _ => by kernel_rfl) (fun _ _ => ⟨rfl, trivial⟩) ?_
  intro β2 _ w2 H2 _
  refine NQ.then ?_
  refine CW.block (x := (cAt B21 [1, 0, 1, 0])) (id := 0) (by kernel_rfl) ?_
  refine CW.seq (x := (cAt B21 [1, 0, 1, 0, 0])) (y := (cAt B21 [1, 0, 1, 0, 1])) (by kernel_rfl) ?_
  refine CW.region (id := 2) (d := false) H2 (by kernel_rfl) mixed 0 [] [] [1, 2, 4, 5] [0, 1] (by kernel_rfl)
    (fun β3 _ => [(1, .pointer (some ⟨(β1 0), 0, none⟩)), (2, .bool false), (4, .int .i64 k), (5, .bool (k == 0))]) (fun β3 _ => [some (.ro noRo), some (.blk (β1 0) [.int .i64 k, .int .i64 n] 35)]) (fun β3 _ => []) (fun _ _ => [])
    (fun _ _ => by kernel_rfl) (fun _ _ => trivial) ?_
  intro β3 _ w3 H3 _
  refine NQ.then ?_
  rcases Bool.eq_false_or_eq_true (k == 0) with h4 | h4
  · have p4 := eq_of_beq h4
    refine CW.cond_t (o := .tmp 5) (b := (k == 0)) (x := (cAt B21 [1, 0, 1, 0, 1, 0])) (y := (cAt B21 [1, 0, 1, 0, 1, 1])) (by kernel_rfl) (by kernel_rfl) h4 ?_
    refine CW.seq (x := (cAt B21 [1, 0, 1, 0, 1, 0, 0])) (y := (cAt B21 [1, 0, 1, 0, 1, 0, 1])) (by kernel_rfl) ?_
    refine CW.region (id := 3) (d := false) H3 (by kernel_rfl) mixed 0 [(1, .key 1)] [] [1, 2, 4] [0, 1] (by kernel_rfl)
      (fun β5 _ => [(1, .pointer (some ⟨(β1 0), 0, none⟩)), (2, .bool (n == 0)), (4, .int .i64 k)]) (fun β5 _ => [some (.ro noRo), some (.blk (β1 0) [.int .i64 k, .int .i64 n] 35)]) (fun β5 _ => [(β1 0) = (β1 0)]) (fun _ _ => [])
      (fun _ _ => by kernel_rfl) (fun _ _ => ⟨rfl, trivial⟩) ?_
    intro β5 _ w5 H5 _
    refine NQ.then ?_
    refine CW.ret (by kernel_rfl) ?_
    refine NQ.block_ret (NQ.then_ret ?_)
    refine NQ.ret H5 [.tmp 2] (by kernel_rfl) [] [.bool (n == 0)] [] (by kernel_rfl) trivial ?_
    exact ⟨congrArg Ending.returned (by clear H0 H1 H2 H3 H5; first | (simp_all [tupV, wMay]; done) | (simp_all [tupV, wMay] <;> omega)), H5.below⟩
  · have p4 := ne_of_beq_false h4
    refine CW.cond_f (o := .tmp 5) (b := (k == 0)) (x := (cAt B21 [1, 0, 1, 0, 1, 0])) (y := (cAt B21 [1, 0, 1, 0, 1, 1])) (by kernel_rfl) (by kernel_rfl) h4 ?_
    refine CW.seq (x := (cAt B21 [1, 0, 1, 0, 1, 1, 0])) (y := (cAt B21 [1, 0, 1, 0, 1, 1, 1])) (by kernel_rfl) ?_
    refine CW.region (id := 4) (d := false) H3 (by kernel_rfl) mixed 0 [] [] [1, 2, 4, 10] [0, 1] (by kernel_rfl)
      (fun β6 _ => [(1, .pointer (some ⟨(β1 0), 0, none⟩)), (2, .bool false), (4, .int .i64 k), (10, .bool (k == 1))]) (fun β6 _ => [some (.ro noRo), some (.blk (β1 0) [.int .i64 k, .int .i64 n] 35)]) (fun β6 _ => []) (fun _ _ => [])
      (fun _ _ => by kernel_rfl) (fun _ _ => trivial) ?_
    intro β6 _ w6 H6 _
    refine NQ.then ?_
    rcases Bool.eq_false_or_eq_true (k == 1) with h7 | h7
    · have p7 := eq_of_beq h7
      refine CW.cond_t (o := .tmp 10) (b := (k == 1)) (x := (cAt B21 [1, 0, 1, 0, 1, 1, 1, 0])) (y := (cAt B21 [1, 0, 1, 0, 1, 1, 1, 1])) (by kernel_rfl) (by kernel_rfl) h7 ?_
      refine CW.seq (x := (cAt B21 [1, 0, 1, 0, 1, 1, 1, 0, 0])) (y := (cAt B21 [1, 0, 1, 0, 1, 1, 1, 0, 1])) (by kernel_rfl) ?_
      refine CW.region (id := 5) (d := false) H6 (by kernel_rfl) mixed 0 [(1, .key 1)] [] [1, 2, 4] [0, 1] (by kernel_rfl)
        (fun β8 _ => [(1, .pointer (some ⟨(β1 0), 0, none⟩)), (2, .bool (decide (n ≥ 0))), (4, .int .i64 k)]) (fun β8 _ => [some (.ro noRo), some (.blk (β1 0) [.int .i64 k, .int .i64 n] 35)]) (fun β8 _ => [(β1 0) = (β1 0)]) (fun _ _ => [])
        (fun _ _ => by kernel_rfl) (fun _ _ => ⟨rfl, trivial⟩) ?_
      intro β8 _ w8 H8 _
      refine NQ.then ?_
      refine CW.ret (by kernel_rfl) ?_
      refine NQ.block_ret (NQ.then_ret ?_)
      refine NQ.ret H8 [.tmp 2] (by kernel_rfl) [] [.bool (decide (n ≥ 0))] [] (by kernel_rfl) trivial ?_
      exact ⟨congrArg Ending.returned (by clear H0 H1 H2 H3 H6 H8; first | (simp_all [tupV, wMay]; done) | (simp_all [tupV, wMay] <;> omega)), H8.below⟩
    · have p7 := ne_of_beq_false h7
      refine CW.cond_f (o := .tmp 10) (b := (k == 1)) (x := (cAt B21 [1, 0, 1, 0, 1, 1, 1, 0])) (y := (cAt B21 [1, 0, 1, 0, 1, 1, 1, 1])) (by kernel_rfl) (by kernel_rfl) h7 ?_
      refine CW.seq (x := (cAt B21 [1, 0, 1, 0, 1, 1, 1, 1, 0])) (y := (cAt B21 [1, 0, 1, 0, 1, 1, 1, 1, 1])) (by kernel_rfl) ?_
      refine CW.region (id := 6) (d := false) H6 (by kernel_rfl) mixed 0 [] [] [1, 2, 4, 15] [0, 1] (by kernel_rfl)
        (fun β9 _ => [(1, .pointer (some ⟨(β1 0), 0, none⟩)), (2, .bool false), (4, .int .i64 k), (15, .bool (k == 2))]) (fun β9 _ => [some (.ro noRo), some (.blk (β1 0) [.int .i64 k, .int .i64 n] 35)]) (fun β9 _ => []) (fun _ _ => [])
        (fun _ _ => by kernel_rfl) (fun _ _ => trivial) ?_
      intro β9 _ w9 H9 _
      refine NQ.then ?_
      rcases Bool.eq_false_or_eq_true (k == 2) with h10 | h10
      · have p10 := eq_of_beq h10
        refine CW.cond_t (o := .tmp 15) (b := (k == 2)) (x := (cAt B21 [1, 0, 1, 0, 1, 1, 1, 1, 1, 0])) (y := (cAt B21 [1, 0, 1, 0, 1, 1, 1, 1, 1, 1])) (by kernel_rfl) (by kernel_rfl) h10 ?_
        refine CW.seq (x := (cAt B21 [1, 0, 1, 0, 1, 1, 1, 1, 1, 0, 0])) (y := (cAt B21 [1, 0, 1, 0, 1, 1, 1, 1, 1, 0, 1])) (by kernel_rfl) ?_
        rcases Bool.eq_false_or_eq_true (decide (n ≥ 0)) with h11 | h11
        · have p11 := of_decide_eq_true h11
          refine CW.region (id := 7) (d := false) H9 (by kernel_rfl) mixed 0 [(1, .key 1), (5, .key 1), (7, .dec true)] [(4, true), (5, true), (6, true)] [1, 2, 4] [0, 1] (by kernel_rfl)
            (fun β12 _ => [(1, .pointer (some ⟨(β1 0), 0, none⟩)), (2, .bool (decide (n < 9223372036854775807))), (4, .int .i64 k)]) (fun β12 _ => [some (.ro noRo), some (.blk (β1 0) [.int .i64 k, .int .i64 n] 35)]) (fun β12 _ => [(β1 0) = (β1 0), ((decide (n ≥ 0)) == true) = true, ((decide (n ≥ 0)) == true) = true, (β1 0) = (β1 0), ((decide (n ≥ 0)) == true) = true, (decide (n ≥ 0)) = true]) (fun _ _ => [])
            (fun _ _ => by kernel_rfl) (fun _ _ => ⟨rfl, (by rw [show (decide (n ≥ 0)) = true from h11]; rfl), (by rw [show (decide (n ≥ 0)) = true from h11]; rfl), rfl, (by rw [show (decide (n ≥ 0)) = true from h11]; rfl), h11, trivial⟩) ?_
          intro β12 _ w12 H12 _
          refine NQ.then ?_
          refine CW.ret (by kernel_rfl) ?_
          refine NQ.block_ret (NQ.then_ret ?_)
          refine NQ.ret H12 [.tmp 2] (by kernel_rfl) [] [.bool (decide (n < 9223372036854775807))] [] (by kernel_rfl) trivial ?_
          exact ⟨congrArg Ending.returned (by clear H0 H1 H2 H3 H6 H9 H12; first | (simp_all [tupV, wMay]; done) | (simp_all [tupV, wMay] <;> omega)), H12.below⟩
        · have p11 := of_decide_eq_false h11
          refine CW.region (id := 7) (d := false) H9 (by kernel_rfl) mixed 0 [(1, .key 1), (7, .dec false)] [(4, false), (5, false), (6, false)] [1, 2, 4] [0, 1] (by kernel_rfl)
            (fun β13 _ => [(1, .pointer (some ⟨(β1 0), 0, none⟩)), (2, .bool false), (4, .int .i64 k)]) (fun β13 _ => [some (.ro noRo), some (.blk (β1 0) [.int .i64 k, .int .i64 n] 35)]) (fun β13 _ => [(β1 0) = (β1 0), ((decide (n ≥ 0)) == true) = false, ((decide (n ≥ 0)) == true) = false, ((decide (n ≥ 0)) == true) = false, (decide (n ≥ 0)) = false]) (fun _ _ => [])
            (fun _ _ => by kernel_rfl) (fun _ _ => ⟨rfl, (by rw [show (decide (n ≥ 0)) = false from h11]; rfl), (by rw [show (decide (n ≥ 0)) = false from h11]; rfl), (by rw [show (decide (n ≥ 0)) = false from h11]; rfl), h11, trivial⟩) ?_
          intro β13 _ w13 H13 _
          refine NQ.then ?_
          refine CW.ret (by kernel_rfl) ?_
          refine NQ.block_ret (NQ.then_ret ?_)
          refine NQ.ret H13 [.tmp 2] (by kernel_rfl) [] [.bool false] [] (by kernel_rfl) trivial ?_
          exact ⟨congrArg Ending.returned (by clear H0 H1 H2 H3 H6 H9 H13; first | (simp_all [tupV, wMay]; done) | (simp_all [tupV, wMay] <;> omega)), H13.below⟩
      · have p10 := ne_of_beq_false h10
        refine CW.cond_f (o := .tmp 15) (b := (k == 2)) (x := (cAt B21 [1, 0, 1, 0, 1, 1, 1, 1, 1, 0])) (y := (cAt B21 [1, 0, 1, 0, 1, 1, 1, 1, 1, 1])) (by kernel_rfl) (by kernel_rfl) h10 ?_
        refine CW.skip (by kernel_rfl) ?_
        refine NQ.block_normal (NQ.then ?_)
        refine CW.seq (x := (cAt B21 [1, 1, 0])) (y := (cAt B21 [1, 1, 1])) (by kernel_rfl) ?_
        refine CW.region (id := 8) (d := false) H9 (by kernel_rfl) mixed 0 [] [] [1, 2, 4] [0, 1] (by kernel_rfl)
          (fun β14 _ => [(1, .pointer (some ⟨(β1 0), 0, none⟩)), (2, .bool false), (4, .int .i64 k)]) (fun β14 _ => [some (.ro noRo), some (.blk (β1 0) [.int .i64 k, .int .i64 n] 35)]) (fun β14 _ => []) (fun _ _ => [])
          (fun _ _ => by kernel_rfl) (fun _ _ => trivial) ?_
        intro β14 _ w14 H14 _
        refine NQ.then ?_
        refine CW.ret (by kernel_rfl) ?_
        refine NQ.ret H14 [.tmp 2] (by kernel_rfl) [] [.bool false] [] (by kernel_rfl) trivial ?_
        exact ⟨congrArg Ending.returned (by clear H0 H1 H2 H3 H6 H9 H14; first | (simp_all [tupV, wMay]; done) | (simp_all [tupV, wMay] <;> omega)), H14.below⟩

theorem word_Put (k : Int) (n : Int) (hn : in64 n) : Pure noRo P0 19 #[.agg #[.int .i64 k, .int .i64 n]] (.tuple #[.int .u64 (wPut k n), .bool (wMay k n)]) := by
  intro w0 hG
  have H0 := Own.begin hG
  refine enter (fn := F19) (c := B19) (n := 26) [(0, .agg #[.int .i64 k, .int .i64 n])] (by kernel_rfl) (by kernel_rfl) (by kernel_rfl) (by kernel_rfl) (by kernel_rfl) ?_
  refine CW.seq (x := (cAt B19 [0])) (y := (cAt B19 [1])) (by kernel_rfl) ?_
  refine CW.region (id := 0) (d := false) H0 (by kernel_rfl) mixed 1 [(0, .key 1)] [] [1, 2, 3] [0, 1] (by kernel_rfl)
    (fun β1 _ => [(1, .pointer (some ⟨(β1 0), 0, none⟩)), (2, .int .u64 0), (3, .bool false)]) (fun β1 _ => [some (.ro noRo), some (.blk (β1 0) [.int .i64 k, .int .i64 n] 35)]) (fun β1 _ => []) (fun _ _ => [])
    (fun _ _ => by kernel_rfl) (fun _ _ => trivial) ?_
  intro β1 _ w1 H1 _
  refine NQ.then ?_
  refine CW.seq (x := (cAt B19 [1, 0])) (y := (cAt B19 [1, 1])) (by kernel_rfl) ?_
  refine CW.block (x := (cAt B19 [1, 0, 0])) (id := 0) (by kernel_rfl) ?_
  refine CW.seq (x := (cAt B19 [1, 0, 0, 0])) (y := (cAt B19 [1, 0, 0, 1])) (by kernel_rfl) ?_
  refine CW.region (id := 1) (d := false) H1 (by kernel_rfl) mixed 0 [(0, .key 1), (1, .call 0 (pureRec (.bool (wMay k n))))] [] [1, 2, 3, 4] [0, 1] (by kernel_rfl)
    (fun β2 _ => [(1, .pointer (some ⟨(β1 0), 0, none⟩)), (2, .int .u64 0), (3, .bool false), (4, .bool (!(wMay k n)))]) (fun β2 _ => [some (.ro noRo), some (.blk (β1 0) [.int .i64 k, .int .i64 n] 35)]) (fun β2 _ => [(β1 0) = (β1 0), CallOb P0 21 #[.agg #[.int .i64 k, .int .i64 n]] [some (.ro noRo)] (pureRec (.bool (wMay k n)))]) (fun _ _ => [True])
    (fun _ _ => by kernel_rfl) (fun _ _ => ⟨rfl, (Pure.ob (word_May k n )), trivial⟩) ?_
  intro β2 _ w2 H2 _
  refine NQ.then ?_
  rcases Bool.eq_false_or_eq_true (wMay k n) with h3 | h3
  · refine CW.cond_f (o := .tmp 4) (b := (!(wMay k n))) (x := (cAt B19 [1, 0, 0, 1, 0])) (y := (cAt B19 [1, 0, 0, 1, 1])) (by kernel_rfl) (by kernel_rfl) (by rw [show (wMay k n) = true from h3]; rfl) ?_
    refine CW.seq (x := (cAt B19 [1, 0, 0, 1, 1, 0])) (y := (cAt B19 [1, 0, 0, 1, 1, 1])) (by kernel_rfl) ?_
    refine CW.region (id := 3) (d := false) H2 (by kernel_rfl) mixed 0 [(1, .key 1)] [] [1, 2, 3, 8] [0, 1] (by kernel_rfl)
      (fun β4 _ => [(1, .pointer (some ⟨(β1 0), 0, none⟩)), (2, .int .u64 0), (3, .bool false), (8, .bool (k == 1))]) (fun β4 _ => [some (.ro noRo), some (.blk (β1 0) [.int .i64 k, .int .i64 n] 35)]) (fun β4 _ => [(β1 0) = (β1 0)]) (fun _ _ => [])
      (fun _ _ => by kernel_rfl) (fun _ _ => ⟨rfl, trivial⟩) ?_
    intro β4 _ w4 H4 _
    refine NQ.then ?_
    rcases Bool.eq_false_or_eq_true (k == 1) with h5 | h5
    · have p5 := eq_of_beq h5
      refine CW.cond_t (o := .tmp 8) (b := (k == 1)) (x := (cAt B19 [1, 0, 0, 1, 1, 1, 0])) (y := (cAt B19 [1, 0, 0, 1, 1, 1, 1])) (by kernel_rfl) (by kernel_rfl) h5 ?_
      refine CW.seq (x := (cAt B19 [1, 0, 0, 1, 1, 1, 0, 0])) (y := (cAt B19 [1, 0, 0, 1, 1, 1, 0, 1])) (by kernel_rfl) ?_
      refine CW.region (id := 4) (d := false) H4 (by kernel_rfl) mixed 0 [(1, .key 1)] [] [1, 2, 3] [0, 1] (by kernel_rfl)
        (fun β6 _ => [(1, .pointer (some ⟨(β1 0), 0, none⟩)), (2, .int .u64 (bOr .u64 (iShl .u64 (iCv .u64 n) 1) 1)), (3, .bool true)]) (fun β6 _ => [some (.ro noRo), some (.blk (β1 0) [.int .i64 k, .int .i64 n] 35)]) (fun β6 _ => [(β1 0) = (β1 0)]) (fun _ _ => [])
        (fun _ _ => by kernel_rfl) (fun _ _ => ⟨rfl, trivial⟩) ?_
      intro β6 _ w6 H6 _
      refine NQ.then ?_
      refine CW.ret (by kernel_rfl) ?_
      refine NQ.block_ret (NQ.then_ret ?_)
      refine NQ.ret H6 [.tmp 2, .tmp 3] (by kernel_rfl) [] [.int .u64 (bOr .u64 (iShl .u64 (iCv .u64 n) 1) 1), .bool true] [] (by kernel_rfl) trivial ?_
      exact ⟨congrArg Ending.returned (by clear H0 H1 H2 H4 H6; first | (simp_all [tupV, wPut, put1 hn, put2 hn]; done) | (simp_all [tupV, wPut, put1 hn, put2 hn] <;> omega)), H6.below⟩
    · have p5 := ne_of_beq_false h5
      refine CW.cond_f (o := .tmp 8) (b := (k == 1)) (x := (cAt B19 [1, 0, 0, 1, 1, 1, 0])) (y := (cAt B19 [1, 0, 0, 1, 1, 1, 1])) (by kernel_rfl) (by kernel_rfl) h5 ?_
      refine CW.seq (x := (cAt B19 [1, 0, 0, 1, 1, 1, 1, 0])) (y := (cAt B19 [1, 0, 0, 1, 1, 1, 1, 1])) (by kernel_rfl) ?_
      refine CW.region (id := 5) (d := false) H4 (by kernel_rfl) mixed 0 [(1, .key 1)] [] [1, 2, 3, 17] [0, 1] (by kernel_rfl)
        (fun β7 _ => [(1, .pointer (some ⟨(β1 0), 0, none⟩)), (2, .int .u64 0), (3, .bool false), (17, .bool (k == 2))]) (fun β7 _ => [some (.ro noRo), some (.blk (β1 0) [.int .i64 k, .int .i64 n] 35)]) (fun β7 _ => [(β1 0) = (β1 0)]) (fun _ _ => [])
        (fun _ _ => by kernel_rfl) (fun _ _ => ⟨rfl, trivial⟩) ?_
      intro β7 _ w7 H7 _
      refine NQ.then ?_
      rcases Bool.eq_false_or_eq_true (k == 2) with h8 | h8
      · have p8 := eq_of_beq h8
        refine CW.cond_t (o := .tmp 17) (b := (k == 2)) (x := (cAt B19 [1, 0, 0, 1, 1, 1, 1, 1, 0])) (y := (cAt B19 [1, 0, 0, 1, 1, 1, 1, 1, 1])) (by kernel_rfl) (by kernel_rfl) h8 ?_
        refine CW.seq (x := (cAt B19 [1, 0, 0, 1, 1, 1, 1, 1, 0, 0])) (y := (cAt B19 [1, 0, 0, 1, 1, 1, 1, 1, 0, 1])) (by kernel_rfl) ?_
        refine CW.region (id := 6) (d := false) H7 (by kernel_rfl) mixed 0 [(1, .key 1)] [] [1, 2, 3] [0, 1] (by kernel_rfl)
          (fun β9 _ => [(1, .pointer (some ⟨(β1 0), 0, none⟩)), (2, .int .u64 (iShl .u64 (iCv .u64 (iAdd .i64 n 1)) 1)), (3, .bool true)]) (fun β9 _ => [some (.ro noRo), some (.blk (β1 0) [.int .i64 k, .int .i64 n] 35)]) (fun β9 _ => [(β1 0) = (β1 0)]) (fun _ _ => [])
          (fun _ _ => by kernel_rfl) (fun _ _ => ⟨rfl, trivial⟩) ?_
        intro β9 _ w9 H9 _
        refine NQ.then ?_
        refine CW.ret (by kernel_rfl) ?_
        refine NQ.block_ret (NQ.then_ret ?_)
        refine NQ.ret H9 [.tmp 2, .tmp 3] (by kernel_rfl) [] [.int .u64 (iShl .u64 (iCv .u64 (iAdd .i64 n 1)) 1), .bool true] [] (by kernel_rfl) trivial ?_
        exact ⟨congrArg Ending.returned (by clear H0 H1 H2 H4 H7 H9; first | (simp_all [tupV, wPut, put1 hn, put2 hn]; done) | (simp_all [tupV, wPut, put1 hn, put2 hn] <;> omega)), H9.below⟩
      · have p8 := ne_of_beq_false h8
        refine CW.cond_f (o := .tmp 17) (b := (k == 2)) (x := (cAt B19 [1, 0, 0, 1, 1, 1, 1, 1, 0])) (y := (cAt B19 [1, 0, 0, 1, 1, 1, 1, 1, 1])) (by kernel_rfl) (by kernel_rfl) h8 ?_
        refine CW.skip (by kernel_rfl) ?_
        refine NQ.block_normal (NQ.then ?_)
        refine CW.seq (x := (cAt B19 [1, 1, 0])) (y := (cAt B19 [1, 1, 1])) (by kernel_rfl) ?_
        refine CW.region (id := 7) (d := false) H7 (by kernel_rfl) mixed 0 [] [] [1, 2, 3] [0, 1] (by kernel_rfl)
          (fun β10 _ => [(1, .pointer (some ⟨(β1 0), 0, none⟩)), (2, .int .u64 0), (3, .bool true)]) (fun β10 _ => [some (.ro noRo), some (.blk (β1 0) [.int .i64 k, .int .i64 n] 35)]) (fun β10 _ => []) (fun _ _ => [])
          (fun _ _ => by kernel_rfl) (fun _ _ => trivial) ?_
        intro β10 _ w10 H10 _
        refine NQ.then ?_
        refine CW.ret (by kernel_rfl) ?_
        refine NQ.ret H10 [.tmp 2, .tmp 3] (by kernel_rfl) [] [.int .u64 0, .bool true] [] (by kernel_rfl) trivial ?_
        exact ⟨congrArg Ending.returned (by clear H0 H1 H2 H4 H7 H10; first | (simp_all [tupV, wPut, put1 hn, put2 hn]; done) | (simp_all [tupV, wPut, put1 hn, put2 hn] <;> omega)), H10.below⟩
  · refine CW.cond_t (o := .tmp 4) (b := (!(wMay k n))) (x := (cAt B19 [1, 0, 0, 1, 0])) (y := (cAt B19 [1, 0, 0, 1, 1])) (by kernel_rfl) (by kernel_rfl) (by rw [show (wMay k n) = false from h3]; rfl) ?_
    refine CW.seq (x := (cAt B19 [1, 0, 0, 1, 0, 0])) (y := (cAt B19 [1, 0, 0, 1, 0, 1])) (by kernel_rfl) ?_
    refine CW.region (id := 2) (d := false) H2 (by kernel_rfl) mixed 0 [] [] [1, 2, 3] [0, 1] (by kernel_rfl)
      (fun β11 _ => [(1, .pointer (some ⟨(β1 0), 0, none⟩)), (2, .int .u64 0), (3, .bool false)]) (fun β11 _ => [some (.ro noRo), some (.blk (β1 0) [.int .i64 k, .int .i64 n] 35)]) (fun β11 _ => []) (fun _ _ => [])
      (fun _ _ => by kernel_rfl) (fun _ _ => trivial) ?_
    intro β11 _ w11 H11 _
    refine NQ.then ?_
    refine CW.ret (by kernel_rfl) ?_
    refine NQ.block_ret (NQ.then_ret ?_)
    refine NQ.ret H11 [.tmp 2, .tmp 3] (by kernel_rfl) [] [.int .u64 0, .bool false] [] (by kernel_rfl) trivial ?_
    exact ⟨congrArg Ending.returned (by clear H0 H1 H2 H11; first | (simp_all [tupV, wPut, put1 hn, put2 hn]; done) | (simp_all [tupV, wPut, put1 hn, put2 hn] <;> omega)), H11.below⟩

theorem word_Get (w : Int) (hw : inU64 w) : Pure noRo P0 23 #[.int .u64 w] (.agg #[.int .i64 (wGetK w), .int .i64 (wGetN w)]) := by
  intro w0 hG
  have H0 := Own.begin hG
  refine enter (fn := F23) (c := B23) (n := 20) [(0, .int .u64 w)] (by kernel_rfl) (by kernel_rfl) (by kernel_rfl) (by kernel_rfl) (by kernel_rfl) ?_
  refine CW.seq (x := (cAt B23 [0])) (y := (cAt B23 [1])) (by kernel_rfl) ?_
  refine CW.region (id := 0) (d := false) H0 (by kernel_rfl) mixed 1 [(0, .key 1)] [] [0, 2] [0, 1] (by kernel_rfl)
    (fun β1 _ => [(0, .int .u64 w), (2, .pointer (some ⟨(β1 0), 0, none⟩))]) (fun β1 _ => [some (.ro noRo), some (.blk (β1 0) [.int .i64 0, .int .i64 0] 35)]) (fun β1 _ => []) (fun _ _ => [])
    (fun _ _ => by kernel_rfl) (fun _ _ => trivial) ?_
  intro β1 _ w1 H1 _
  refine NQ.then ?_
  refine CW.seq (x := (cAt B23 [1, 0])) (y := (cAt B23 [1, 1])) (by kernel_rfl) ?_
  refine CW.block (x := (cAt B23 [1, 0, 0])) (id := 0) (by kernel_rfl) ?_
  refine CW.seq (x := (cAt B23 [1, 0, 0, 0])) (y := (cAt B23 [1, 0, 0, 1])) (by kernel_rfl) ?_
  refine CW.region (id := 1) (d := false) H1 (by kernel_rfl) mixed 0 [] [] [0, 2, 3] [0, 1] (by kernel_rfl)
    (fun β2 _ => [(0, .int .u64 w), (2, .pointer (some ⟨(β1 0), 0, none⟩)), (3, .bool (w == 0))]) (fun β2 _ => [some (.ro noRo), some (.blk (β1 0) [.int .i64 0, .int .i64 0] 35)]) (fun β2 _ => []) (fun _ _ => [])
    (fun _ _ => by kernel_rfl) (fun _ _ => trivial) ?_
  intro β2 _ w2 H2 _
  refine NQ.then ?_
  rcases Bool.eq_false_or_eq_true (w == 0) with h3 | h3
  · have p3 := eq_of_beq h3
    refine CW.cond_t (o := .tmp 3) (b := (w == 0)) (x := (cAt B23 [1, 0, 0, 1, 0])) (y := (cAt B23 [1, 0, 0, 1, 1])) (by kernel_rfl) (by kernel_rfl) h3 ?_
    refine CW.seq (x := (cAt B23 [1, 0, 0, 1, 0, 0])) (y := (cAt B23 [1, 0, 0, 1, 0, 1])) (by kernel_rfl) ?_
    refine CW.region (id := 2) (d := false) H2 (by kernel_rfl) mixed 0 [(1, .key 1)] [] [0, 2] [0, 1] (by kernel_rfl)
      (fun β4 _ => [(0, .int .u64 w), (2, .pointer (some ⟨(β1 0), 0, none⟩))]) (fun β4 _ => [some (.ro noRo), some (.blk (β1 0) [.int .i64 0, .int .i64 0] 35)]) (fun β4 _ => [(β1 0) = (β1 0)]) (fun _ _ => [])
      (fun _ _ => by kernel_rfl) (fun _ _ => ⟨rfl, trivial⟩) ?_
    intro β4 _ w4 H4 _
    refine NQ.then ?_
    refine CW.ret (by kernel_rfl) ?_
    refine NQ.block_ret (NQ.then_ret ?_)
    refine NQ.ret H4 [.cell 2 35] (by kernel_rfl) [1] [.agg #[.int .i64 0, .int .i64 0]] [(β1 0) = (β1 0)] (by kernel_rfl) ⟨rfl, trivial⟩ ?_
    exact ⟨congrArg Ending.returned (by clear H0 H1 H2 H4; first | (simp_all [tupV, wGetK, wGetN, get1 hw, get2 hw, bAnd_u64_1 hw]; done) | (simp_all [tupV, wGetK, wGetN, get1 hw, get2 hw, bAnd_u64_1 hw] <;> omega)), H4.below⟩
  · have p3 := ne_of_beq_false h3
    refine CW.cond_f (o := .tmp 3) (b := (w == 0)) (x := (cAt B23 [1, 0, 0, 1, 0])) (y := (cAt B23 [1, 0, 0, 1, 1])) (by kernel_rfl) (by kernel_rfl) h3 ?_
    refine CW.seq (x := (cAt B23 [1, 0, 0, 1, 1, 0])) (y := (cAt B23 [1, 0, 0, 1, 1, 1])) (by kernel_rfl) ?_
    refine CW.region (id := 3) (d := false) H2 (by kernel_rfl) mixed 0 [] [] [0, 2, 7] [0, 1] (by kernel_rfl)
      (fun β5 _ => [(0, .int .u64 w), (2, .pointer (some ⟨(β1 0), 0, none⟩)), (7, .bool ((bAnd .u64 w 1) == 1))]) (fun β5 _ => [some (.ro noRo), some (.blk (β1 0) [.int .i64 0, .int .i64 0] 35)]) (fun β5 _ => []) (fun _ _ => [])
      (fun _ _ => by kernel_rfl) (fun _ _ => trivial) ?_
    intro β5 _ w5 H5 _
    refine NQ.then ?_
    rcases Bool.eq_false_or_eq_true ((bAnd .u64 w 1) == 1) with h6 | h6
    · have p6 := eq_of_beq h6
      refine CW.cond_t (o := .tmp 7) (b := ((bAnd .u64 w 1) == 1)) (x := (cAt B23 [1, 0, 0, 1, 1, 1, 0])) (y := (cAt B23 [1, 0, 0, 1, 1, 1, 1])) (by kernel_rfl) (by kernel_rfl) h6 ?_
      refine CW.seq (x := (cAt B23 [1, 0, 0, 1, 1, 1, 0, 0])) (y := (cAt B23 [1, 0, 0, 1, 1, 1, 0, 1])) (by kernel_rfl) ?_
      refine CW.region (id := 4) (d := false) H5 (by kernel_rfl) mixed 0 [(4, .key 1)] [] [0, 2] [0, 1] (by kernel_rfl)
        (fun β7 _ => [(0, .int .u64 w), (2, .pointer (some ⟨(β1 0), 0, none⟩))]) (fun β7 _ => [some (.ro noRo), some (.blk (β1 0) [.int .i64 1, .int .i64 (iCv .i64 (iShr w 1))] 35)]) (fun β7 _ => [(β1 0) = (β1 0)]) (fun _ _ => [])
        (fun _ _ => by kernel_rfl) (fun _ _ => ⟨rfl, trivial⟩) ?_
      intro β7 _ w7 H7 _
      refine NQ.then ?_
      refine CW.ret (by kernel_rfl) ?_
      refine NQ.block_ret (NQ.then_ret ?_)
      refine NQ.ret H7 [.cell 2 35] (by kernel_rfl) [1] [.agg #[.int .i64 1, .int .i64 (iCv .i64 (iShr w 1))]] [(β1 0) = (β1 0)] (by kernel_rfl) ⟨rfl, trivial⟩ ?_
      exact ⟨congrArg Ending.returned (by clear H0 H1 H2 H5 H7; first | (simp_all [tupV, wGetK, wGetN, get1 hw, get2 hw, bAnd_u64_1 hw]; done) | (simp_all [tupV, wGetK, wGetN, get1 hw, get2 hw, bAnd_u64_1 hw] <;> omega)), H7.below⟩
    · have p6 := ne_of_beq_false h6
      refine CW.cond_f (o := .tmp 7) (b := ((bAnd .u64 w 1) == 1)) (x := (cAt B23 [1, 0, 0, 1, 1, 1, 0])) (y := (cAt B23 [1, 0, 0, 1, 1, 1, 1])) (by kernel_rfl) (by kernel_rfl) h6 ?_
      refine CW.skip (by kernel_rfl) ?_
      refine NQ.block_normal (NQ.then ?_)
      refine CW.seq (x := (cAt B23 [1, 1, 0])) (y := (cAt B23 [1, 1, 1])) (by kernel_rfl) ?_
      refine CW.region (id := 5) (d := false) H5 (by kernel_rfl) mixed 0 [(5, .key 1)] [] [0, 2] [0, 1] (by kernel_rfl)
        (fun β8 _ => [(0, .int .u64 w), (2, .pointer (some ⟨(β1 0), 0, none⟩))]) (fun β8 _ => [some (.ro noRo), some (.blk (β1 0) [.int .i64 2, .int .i64 (iSub .i64 (iCv .i64 (iShr w 1)) 1)] 35)]) (fun β8 _ => [(β1 0) = (β1 0)]) (fun _ _ => [])
        (fun _ _ => by kernel_rfl) (fun _ _ => ⟨rfl, trivial⟩) ?_
      intro β8 _ w8 H8 _
      refine NQ.then ?_
      refine CW.ret (by kernel_rfl) ?_
      refine NQ.ret H8 [.cell 2 35] (by kernel_rfl) [1] [.agg #[.int .i64 2, .int .i64 (iSub .i64 (iCv .i64 (iShr w 1)) 1)]] [(β1 0) = (β1 0)] (by kernel_rfl) ⟨rfl, trivial⟩ ?_
      exact ⟨congrArg Ending.returned (by clear H0 H1 H2 H5 H8; first | (simp_all [tupV, wGetK, wGetN, get1 hw, get2 hw, bAnd_u64_1 hw]; done) | (simp_all [tupV, wGetK, wGetN, get1 hw, get2 hw, bAnd_u64_1 hw] <;> omega)), H8.below⟩

theorem ref01_May (k : Int) (n : Int) : Pure noRo P0 20 #[.agg #[.int .i64 k, .int .i64 n]] (.bool (wMay k n)) := by
  intro w0 hG
  have H0 := Own.begin hG
  refine enter (fn := F20) (c := B20) (n := 28) [(0, .agg #[.int .i64 k, .int .i64 n])] (by kernel_rfl) (by kernel_rfl) (by kernel_rfl) (by kernel_rfl) (by kernel_rfl) ?_
  refine CW.seq (x := (cAt B20 [0])) (y := (cAt B20 [1])) (by kernel_rfl) ?_
  refine CW.region (id := 0) (d := false) H0 (by kernel_rfl) mixed 1 [(0, .key 1)] [] [1, 2] [0, 1] (by kernel_rfl)
    (fun β1 _ => [(1, .pointer (some ⟨(β1 0), 0, none⟩)), (2, .bool false)]) (fun β1 _ => [some (.ro noRo), some (.blk (β1 0) [.int .i64 k, .int .i64 n] 35)]) (fun β1 _ => []) (fun _ _ => [])
    (fun _ _ => by kernel_rfl) (fun _ _ => trivial) ?_
  intro β1 _ w1 H1 _
  refine NQ.then ?_
  refine CW.seq (x := (cAt B20 [1, 0])) (y := (cAt B20 [1, 1])) (by kernel_rfl) ?_
  refine CW.seq (x := (cAt B20 [1, 0, 0])) (y := (cAt B20 [1, 0, 1])) (by kernel_rfl) ?_
  refine CW.region (id := 1) (d := false) H1 (by kernel_rfl) mixed 0 [(1, .key 1)] [] [1, 2, 5] [0, 1] (by kernel_rfl)
    (fun β2 _ => [(1, .pointer (some ⟨(β1 0), 0, none⟩)), (2, .bool false), (5, .bool (k == 0))]) (fun β2 _ => [some (.ro noRo), some (.blk (β1 0) [.int .i64 k, .int .i64 n] 35)]) (fun β2 _ => [(β1 0) = (β1 0)]) (fun _ _ => [])
    (fun _ _ => by kernel_rfl) (fun _ _ => ⟨rfl, trivial⟩) ?_
  intro β2 _ w2 H2 _
  refine NQ.then ?_
  rcases Bool.eq_false_or_eq_true (k == 0) with h3 | h3
  · have p3 := eq_of_beq h3
    refine CW.cond_t (o := .tmp 5) (b := (k == 0)) (x := (cAt B20 [1, 0, 1, 0])) (y := (cAt B20 [1, 0, 1, 1])) (by kernel_rfl) (by kernel_rfl) h3 ?_
    refine CW.seq (x := (cAt B20 [1, 0, 1, 0, 0])) (y := (cAt B20 [1, 0, 1, 0, 1])) (by kernel_rfl) ?_
    refine CW.region (id := 2) (d := false) H2 (by kernel_rfl) mixed 0 [(1, .key 1)] [] [1, 2] [0, 1] (by kernel_rfl)
      (fun β4 _ => [(1, .pointer (some ⟨(β1 0), 0, none⟩)), (2, .bool (n == 0))]) (fun β4 _ => [some (.ro noRo), some (.blk (β1 0) [.int .i64 k, .int .i64 n] 35)]) (fun β4 _ => [(β1 0) = (β1 0)]) (fun _ _ => [])
      (fun _ _ => by kernel_rfl) (fun _ _ => ⟨rfl, trivial⟩) ?_
    intro β4 _ w4 H4 _
    refine NQ.then ?_
    refine CW.ret (by kernel_rfl) ?_
    refine NQ.then_ret ?_
    refine NQ.ret H4 [.tmp 2] (by kernel_rfl) [] [.bool (n == 0)] [] (by kernel_rfl) trivial ?_
    exact ⟨congrArg Ending.returned (by clear H0 H1 H2 H4; first | (simp_all [tupV, wMay]; done) | (simp_all [tupV, wMay] <;> omega)), H4.below⟩
  · have p3 := ne_of_beq_false h3
    refine CW.cond_f (o := .tmp 5) (b := (k == 0)) (x := (cAt B20 [1, 0, 1, 0])) (y := (cAt B20 [1, 0, 1, 1])) (by kernel_rfl) (by kernel_rfl) h3 ?_
    refine CW.skip (by kernel_rfl) ?_
    refine NQ.then ?_
    refine CW.seq (x := (cAt B20 [1, 1, 0])) (y := (cAt B20 [1, 1, 1])) (by kernel_rfl) ?_
    refine CW.seq (x := (cAt B20 [1, 1, 0, 0])) (y := (cAt B20 [1, 1, 0, 1])) (by kernel_rfl) ?_
    refine CW.region (id := 3) (d := false) H2 (by kernel_rfl) mixed 0 [(1, .key 1)] [] [1, 2, 11] [0, 1] (by kernel_rfl)
      (fun β5 _ => [(1, .pointer (some ⟨(β1 0), 0, none⟩)), (2, .bool false), (11, .bool (k == 1))]) (fun β5 _ => [some (.ro noRo), some (.blk (β1 0) [.int .i64 k, .int .i64 n] 35)]) (fun β5 _ => [(β1 0) = (β1 0)]) (fun _ _ => [])
      (fun _ _ => by kernel_rfl) (fun _ _ => ⟨rfl, trivial⟩) ?_
    intro β5 _ w5 H5 _
    refine NQ.then ?_
    rcases Bool.eq_false_or_eq_true (k == 1) with h6 | h6
    · have p6 := eq_of_beq h6
      refine CW.cond_t (o := .tmp 11) (b := (k == 1)) (x := (cAt B20 [1, 1, 0, 1, 0])) (y := (cAt B20 [1, 1, 0, 1, 1])) (by kernel_rfl) (by kernel_rfl) h6 ?_
      refine CW.seq (x := (cAt B20 [1, 1, 0, 1, 0, 0])) (y := (cAt B20 [1, 1, 0, 1, 0, 1])) (by kernel_rfl) ?_
      refine CW.region (id := 4) (d := false) H5 (by kernel_rfl) mixed 0 [(1, .key 1)] [] [1, 2] [0, 1] (by kernel_rfl)
        (fun β7 _ => [(1, .pointer (some ⟨(β1 0), 0, none⟩)), (2, .bool (decide (n ≥ 0)))]) (fun β7 _ => [some (.ro noRo), some (.blk (β1 0) [.int .i64 k, .int .i64 n] 35)]) (fun β7 _ => [(β1 0) = (β1 0)]) (fun _ _ => [])
        (fun _ _ => by kernel_rfl) (fun _ _ => ⟨rfl, trivial⟩) ?_
      intro β7 _ w7 H7 _
      refine NQ.then ?_
      refine CW.ret (by kernel_rfl) ?_
      refine NQ.then_ret ?_
      refine NQ.ret H7 [.tmp 2] (by kernel_rfl) [] [.bool (decide (n ≥ 0))] [] (by kernel_rfl) trivial ?_
      exact ⟨congrArg Ending.returned (by clear H0 H1 H2 H5 H7; first | (simp_all [tupV, wMay]; done) | (simp_all [tupV, wMay] <;> omega)), H7.below⟩
    · have p6 := ne_of_beq_false h6
      refine CW.cond_f (o := .tmp 11) (b := (k == 1)) (x := (cAt B20 [1, 1, 0, 1, 0])) (y := (cAt B20 [1, 1, 0, 1, 1])) (by kernel_rfl) (by kernel_rfl) h6 ?_
      refine CW.skip (by kernel_rfl) ?_
      refine NQ.then ?_
      refine CW.seq (x := (cAt B20 [1, 1, 1, 0])) (y := (cAt B20 [1, 1, 1, 1])) (by kernel_rfl) ?_
      rcases Bool.eq_false_or_eq_true (k == 2) with h8 | h8
      · have p8 := eq_of_beq h8
        rcases Bool.eq_false_or_eq_true (decide (n ≥ 0)) with h9 | h9
        · have p9 := of_decide_eq_true h9
          refine CW.region (id := 5) (d := false) H5 (by kernel_rfl) mixed 0 [(1, .key 1), (5, .key 1), (7, .dec true), (10, .key 1), (12, .dec true)] [(4, true), (5, true), (6, true), (9, true), (10, true), (11, true)] [1, 2] [0, 1] (by kernel_rfl)
            (fun β10 _ => [(1, .pointer (some ⟨(β1 0), 0, none⟩)), (2, .bool (decide (n < 9223372036854775807)))]) (fun β10 _ => [some (.ro noRo), some (.blk (β1 0) [.int .i64 k, .int .i64 n] 35)]) (fun β10 _ => [(β1 0) = (β1 0), ((k == 2) == true) = true, ((k == 2) == true) = true, (β1 0) = (β1 0), ((k == 2) == true) = true, (k == 2) = true, ((decide (n ≥ 0)) == true) = true, ((decide (n ≥ 0)) == true) = true, (β1 0) = (β1 0), ((decide (n ≥ 0)) == true) = true, (decide (n ≥ 0)) = true]) (fun _ _ => [])
            (fun _ _ => by kernel_rfl) (fun _ _ => ⟨rfl, (by rw [show (k == 2) = true from h8]; rfl), (by rw [show (k == 2) = true from h8]; rfl), rfl, (by rw [show (k == 2) = true from h8]; rfl), h8, (by rw [show (decide (n ≥ 0)) = true from h9]; rfl), (by rw [show (decide (n ≥ 0)) = true from h9]; rfl), rfl, (by rw [show (decide (n ≥ 0)) = true from h9]; rfl), h9, trivial⟩) ?_
          intro β10 _ w10 H10 _
          refine NQ.then ?_
          refine CW.ret (by kernel_rfl) ?_
          refine NQ.ret H10 [.tmp 2] (by kernel_rfl) [] [.bool (decide (n < 9223372036854775807))] [] (by kernel_rfl) trivial ?_
          exact ⟨congrArg Ending.returned (by clear H0 H1 H2 H5 H10; first | (simp_all [tupV, wMay]; done) | (simp_all [tupV, wMay] <;> omega)), H10.below⟩
        · have p9 := of_decide_eq_false h9
          refine CW.region (id := 5) (d := false) H5 (by kernel_rfl) mixed 0 [(1, .key 1), (5, .key 1), (7, .dec true), (12, .dec false)] [(4, true), (5, true), (6, true), (9, false), (10, false), (11, false)] [1, 2] [0, 1] (by kernel_rfl)
            (fun β11 _ => [(1, .pointer (some ⟨(β1 0), 0, none⟩)), (2, .bool false)]) (fun β11 _ => [some (.ro noRo), some (.blk (β1 0) [.int .i64 k, .int .i64 n] 35)]) (fun β11 _ => [(β1 0) = (β1 0), ((k == 2) == true) = true, ((k == 2) == true) = true, (β1 0) = (β1 0), ((k == 2) == true) = true, (k == 2) = true, ((decide (n ≥ 0)) == true) = false, ((decide (n ≥ 0)) == true) = false, ((decide (n ≥ 0)) == true) = false, (decide (n ≥ 0)) = false]) (fun _ _ => [])
            (fun _ _ => by kernel_rfl) (fun _ _ => ⟨rfl, (by rw [show (k == 2) = true from h8]; rfl), (by rw [show (k == 2) = true from h8]; rfl), rfl, (by rw [show (k == 2) = true from h8]; rfl), h8, (by rw [show (decide (n ≥ 0)) = false from h9]; rfl), (by rw [show (decide (n ≥ 0)) = false from h9]; rfl), (by rw [show (decide (n ≥ 0)) = false from h9]; rfl), h9, trivial⟩) ?_
          intro β11 _ w11 H11 _
          refine NQ.then ?_
          refine CW.ret (by kernel_rfl) ?_
          refine NQ.ret H11 [.tmp 2] (by kernel_rfl) [] [.bool false] [] (by kernel_rfl) trivial ?_
          exact ⟨congrArg Ending.returned (by clear H0 H1 H2 H5 H11; first | (simp_all [tupV, wMay]; done) | (simp_all [tupV, wMay] <;> omega)), H11.below⟩
      · have p8 := ne_of_beq_false h8
        refine CW.region (id := 5) (d := false) H5 (by kernel_rfl) mixed 0 [(1, .key 1), (7, .dec false)] [(4, false), (5, false), (6, false)] [1, 2] [0, 1] (by kernel_rfl)
          (fun β12 _ => [(1, .pointer (some ⟨(β1 0), 0, none⟩)), (2, .bool false)]) (fun β12 _ => [some (.ro noRo), some (.blk (β1 0) [.int .i64 k, .int .i64 n] 35)]) (fun β12 _ => [(β1 0) = (β1 0), ((k == 2) == true) = false, ((k == 2) == true) = false, ((k == 2) == true) = false, (k == 2) = false]) (fun _ _ => [])
          (fun _ _ => by kernel_rfl) (fun _ _ => ⟨rfl, (by rw [show (k == 2) = false from h8]; rfl), (by rw [show (k == 2) = false from h8]; rfl), (by rw [show (k == 2) = false from h8]; rfl), h8, trivial⟩) ?_
        intro β12 _ w12 H12 _
        refine NQ.then ?_
        refine CW.ret (by kernel_rfl) ?_
        refine NQ.ret H12 [.tmp 2] (by kernel_rfl) [] [.bool false] [] (by kernel_rfl) trivial ?_
        exact ⟨congrArg Ending.returned (by clear H0 H1 H2 H5 H12; first | (simp_all [tupV, wMay]; done) | (simp_all [tupV, wMay] <;> omega)), H12.below⟩

theorem ref01_Put (k : Int) (n : Int) (hn : in64 n) (hm : wMay k n = true) : Pure noRo P0 22 #[.agg #[.int .i64 k, .int .i64 n]] (.int .u64 (wPut k n)) := by
  intro w0 hG
  have H0 := Own.begin hG
  refine enter (fn := F22) (c := B22) (n := 19) [(0, .agg #[.int .i64 k, .int .i64 n])] (by kernel_rfl) (by kernel_rfl) (by kernel_rfl) (by kernel_rfl) (by kernel_rfl) ?_
  refine CW.seq (x := (cAt B22 [0])) (y := (cAt B22 [1])) (by kernel_rfl) ?_
  refine CW.region (id := 0) (d := false) H0 (by kernel_rfl) mixed 1 [(0, .key 1)] [] [1, 2] [0, 1] (by kernel_rfl)
    (fun β1 _ => [(1, .pointer (some ⟨(β1 0), 0, none⟩)), (2, .int .u64 0)]) (fun β1 _ => [some (.ro noRo), some (.blk (β1 0) [.int .i64 k, .int .i64 n] 35)]) (fun β1 _ => []) (fun _ _ => [])
    (fun _ _ => by kernel_rfl) (fun _ _ => trivial) ?_
  intro β1 _ w1 H1 _
  refine NQ.then ?_
  refine CW.seq (x := (cAt B22 [1, 0])) (y := (cAt B22 [1, 1])) (by kernel_rfl) ?_
  refine CW.seq (x := (cAt B22 [1, 0, 0])) (y := (cAt B22 [1, 0, 1])) (by kernel_rfl) ?_
  refine CW.region (id := 1) (d := false) H1 (by kernel_rfl) mixed 0 [(1, .key 1)] [] [1, 2, 5] [0, 1] (by kernel_rfl)
    (fun β2 _ => [(1, .pointer (some ⟨(β1 0), 0, none⟩)), (2, .int .u64 0), (5, .bool (k == 0))]) (fun β2 _ => [some (.ro noRo), some (.blk (β1 0) [.int .i64 k, .int .i64 n] 35)]) (fun β2 _ => [(β1 0) = (β1 0)]) (fun _ _ => [])
    (fun _ _ => by kernel_rfl) (fun _ _ => ⟨rfl, trivial⟩) ?_
  intro β2 _ w2 H2 _
  refine NQ.then ?_
  rcases Bool.eq_false_or_eq_true (k == 0) with h3 | h3
  · have p3 := eq_of_beq h3
    refine CW.cond_t (o := .tmp 5) (b := (k == 0)) (x := (cAt B22 [1, 0, 1, 0])) (y := (cAt B22 [1, 0, 1, 1])) (by kernel_rfl) (by kernel_rfl) h3 ?_
    refine CW.seq (x := (cAt B22 [1, 0, 1, 0, 0])) (y := (cAt B22 [1, 0, 1, 0, 1])) (by kernel_rfl) ?_
    refine CW.region (id := 2) (d := false) H2 (by kernel_rfl) mixed 0 [] [] [1, 2] [0, 1] (by kernel_rfl)
      (fun β4 _ => [(1, .pointer (some ⟨(β1 0), 0, none⟩)), (2, .int .u64 0)]) (fun β4 _ => [some (.ro noRo), some (.blk (β1 0) [.int .i64 k, .int .i64 n] 35)]) (fun β4 _ => []) (fun _ _ => [])
      (fun _ _ => by kernel_rfl) (fun _ _ => trivial) ?_
    intro β4 _ w4 H4 _
    refine NQ.then ?_
    refine CW.ret (by kernel_rfl) ?_
    refine NQ.then_ret ?_
    refine NQ.ret H4 [.tmp 2] (by kernel_rfl) [] [.int .u64 0] [] (by kernel_rfl) trivial ?_
    exact ⟨congrArg Ending.returned (by clear H0 H1 H2 H4; first | (simp_all [tupV, wPut, rput1 hn]; done) | (obtain rfl := may_kind hm (by assumption) (by assumption); simp [tupV, wPut, hm, rput2 hn hm])), H4.below⟩
  · have p3 := ne_of_beq_false h3
    refine CW.cond_f (o := .tmp 5) (b := (k == 0)) (x := (cAt B22 [1, 0, 1, 0])) (y := (cAt B22 [1, 0, 1, 1])) (by kernel_rfl) (by kernel_rfl) h3 ?_
    refine CW.skip (by kernel_rfl) ?_
    refine NQ.then ?_
    refine CW.seq (x := (cAt B22 [1, 1, 0])) (y := (cAt B22 [1, 1, 1])) (by kernel_rfl) ?_
    refine CW.seq (x := (cAt B22 [1, 1, 0, 0])) (y := (cAt B22 [1, 1, 0, 1])) (by kernel_rfl) ?_
    refine CW.region (id := 3) (d := false) H2 (by kernel_rfl) mixed 0 [(1, .key 1)] [] [1, 2, 8] [0, 1] (by kernel_rfl)
      (fun β5 _ => [(1, .pointer (some ⟨(β1 0), 0, none⟩)), (2, .int .u64 0), (8, .bool (k == 1))]) (fun β5 _ => [some (.ro noRo), some (.blk (β1 0) [.int .i64 k, .int .i64 n] 35)]) (fun β5 _ => [(β1 0) = (β1 0)]) (fun _ _ => [])
      (fun _ _ => by kernel_rfl) (fun _ _ => ⟨rfl, trivial⟩) ?_
    intro β5 _ w5 H5 _
    refine NQ.then ?_
    rcases Bool.eq_false_or_eq_true (k == 1) with h6 | h6
    · have p6 := eq_of_beq h6
      refine CW.cond_t (o := .tmp 8) (b := (k == 1)) (x := (cAt B22 [1, 1, 0, 1, 0])) (y := (cAt B22 [1, 1, 0, 1, 1])) (by kernel_rfl) (by kernel_rfl) h6 ?_
      refine CW.seq (x := (cAt B22 [1, 1, 0, 1, 0, 0])) (y := (cAt B22 [1, 1, 0, 1, 0, 1])) (by kernel_rfl) ?_
      refine CW.region (id := 4) (d := false) H5 (by kernel_rfl) mixed 0 [(1, .key 1)] [] [1, 2] [0, 1] (by kernel_rfl)
        (fun β7 _ => [(1, .pointer (some ⟨(β1 0), 0, none⟩)), (2, .int .u64 (iAdd .u64 (iMul .u64 2 (iCv .u64 n)) 1))]) (fun β7 _ => [some (.ro noRo), some (.blk (β1 0) [.int .i64 k, .int .i64 n] 35)]) (fun β7 _ => [(β1 0) = (β1 0)]) (fun _ _ => [])
        (fun _ _ => by kernel_rfl) (fun _ _ => ⟨rfl, trivial⟩) ?_
      intro β7 _ w7 H7 _
      refine NQ.then ?_
      refine CW.ret (by kernel_rfl) ?_
      refine NQ.then_ret ?_
      refine NQ.ret H7 [.tmp 2] (by kernel_rfl) [] [.int .u64 (iAdd .u64 (iMul .u64 2 (iCv .u64 n)) 1)] [] (by kernel_rfl) trivial ?_
      exact ⟨congrArg Ending.returned (by clear H0 H1 H2 H5 H7; first | (simp_all [tupV, wPut, rput1 hn]; done) | (obtain rfl := may_kind hm (by assumption) (by assumption); simp [tupV, wPut, hm, rput2 hn hm])), H7.below⟩
    · have p6 := ne_of_beq_false h6
      refine CW.cond_f (o := .tmp 8) (b := (k == 1)) (x := (cAt B22 [1, 1, 0, 1, 0])) (y := (cAt B22 [1, 1, 0, 1, 1])) (by kernel_rfl) (by kernel_rfl) h6 ?_
      refine CW.skip (by kernel_rfl) ?_
      refine NQ.then ?_
      refine CW.seq (x := (cAt B22 [1, 1, 1, 0])) (y := (cAt B22 [1, 1, 1, 1])) (by kernel_rfl) ?_
      refine CW.region (id := 5) (d := false) H5 (by kernel_rfl) mixed 0 [(1, .key 1)] [] [1, 2] [0, 1] (by kernel_rfl)
        (fun β8 _ => [(1, .pointer (some ⟨(β1 0), 0, none⟩)), (2, .int .u64 (iMul .u64 2 (iAdd .u64 (iCv .u64 n) 1)))]) (fun β8 _ => [some (.ro noRo), some (.blk (β1 0) [.int .i64 k, .int .i64 n] 35)]) (fun β8 _ => [(β1 0) = (β1 0)]) (fun _ _ => [])
        (fun _ _ => by kernel_rfl) (fun _ _ => ⟨rfl, trivial⟩) ?_
      intro β8 _ w8 H8 _
      refine NQ.then ?_
      refine CW.ret (by kernel_rfl) ?_
      refine NQ.ret H8 [.tmp 2] (by kernel_rfl) [] [.int .u64 (iMul .u64 2 (iAdd .u64 (iCv .u64 n) 1))] [] (by kernel_rfl) trivial ?_
      exact ⟨congrArg Ending.returned (by clear H0 H1 H2 H5 H8; first | (simp_all [tupV, wPut, rput1 hn]; done) | (obtain rfl := may_kind hm (by assumption) (by assumption); simp [tupV, wPut, hm, rput2 hn hm])), H8.below⟩

theorem ref01_Get (w : Int) (hw : inU64 w) : Pure noRo P0 24 #[.int .u64 w] (.agg #[.int .i64 (wGetK w), .int .i64 (wGetN w)]) := by
  intro w0 hG
  have H0 := Own.begin hG
  refine enter (fn := F24) (c := B24) (n := 18) [(0, .int .u64 w)] (by kernel_rfl) (by kernel_rfl) (by kernel_rfl) (by kernel_rfl) (by kernel_rfl) ?_
  refine CW.seq (x := (cAt B24 [0])) (y := (cAt B24 [1])) (by kernel_rfl) ?_
  refine CW.region (id := 0) (d := false) H0 (by kernel_rfl) mixed 1 [(0, .key 1)] [] [0, 2] [0, 1] (by kernel_rfl)
    (fun β1 _ => [(0, .int .u64 w), (2, .pointer (some ⟨(β1 0), 0, none⟩))]) (fun β1 _ => [some (.ro noRo), some (.blk (β1 0) [.int .i64 0, .int .i64 0] 35)]) (fun β1 _ => []) (fun _ _ => [])
    (fun _ _ => by kernel_rfl) (fun _ _ => trivial) ?_
  intro β1 _ w1 H1 _
  refine NQ.then ?_
  refine CW.seq (x := (cAt B24 [1, 0])) (y := (cAt B24 [1, 1])) (by kernel_rfl) ?_
  refine CW.seq (x := (cAt B24 [1, 0, 0])) (y := (cAt B24 [1, 0, 1])) (by kernel_rfl) ?_
  refine CW.region (id := 1) (d := false) H1 (by kernel_rfl) mixed 0 [] [] [0, 2, 4] [0, 1] (by kernel_rfl)
    (fun β2 _ => [(0, .int .u64 w), (2, .pointer (some ⟨(β1 0), 0, none⟩)), (4, .bool (w == 0))]) (fun β2 _ => [some (.ro noRo), some (.blk (β1 0) [.int .i64 0, .int .i64 0] 35)]) (fun β2 _ => []) (fun _ _ => [])
    (fun _ _ => by kernel_rfl) (fun _ _ => trivial) ?_
  intro β2 _ w2 H2 _
  refine NQ.then ?_
  rcases Bool.eq_false_or_eq_true (w == 0) with h3 | h3
  · have p3 := eq_of_beq h3
    refine CW.cond_t (o := .tmp 4) (b := (w == 0)) (x := (cAt B24 [1, 0, 1, 0])) (y := (cAt B24 [1, 0, 1, 1])) (by kernel_rfl) (by kernel_rfl) h3 ?_
    refine CW.seq (x := (cAt B24 [1, 0, 1, 0, 0])) (y := (cAt B24 [1, 0, 1, 0, 1])) (by kernel_rfl) ?_
    refine CW.region (id := 2) (d := false) H2 (by kernel_rfl) mixed 0 [(1, .key 1)] [] [0, 2] [0, 1] (by kernel_rfl)
      (fun β4 _ => [(0, .int .u64 w), (2, .pointer (some ⟨(β1 0), 0, none⟩))]) (fun β4 _ => [some (.ro noRo), some (.blk (β1 0) [.int .i64 0, .int .i64 0] 35)]) (fun β4 _ => [(β1 0) = (β1 0)]) (fun _ _ => [])
      (fun _ _ => by kernel_rfl) (fun _ _ => ⟨rfl, trivial⟩) ?_
    intro β4 _ w4 H4 _
    refine NQ.then ?_
    refine CW.ret (by kernel_rfl) ?_
    refine NQ.then_ret ?_
    refine NQ.ret H4 [.cell 2 35] (by kernel_rfl) [1] [.agg #[.int .i64 0, .int .i64 0]] [(β1 0) = (β1 0)] (by kernel_rfl) ⟨rfl, trivial⟩ ?_
    exact ⟨congrArg Ending.returned (by clear H0 H1 H2 H4; first | (simp_all [tupV, wGetK, wGetN, rget0 hw, rget1 hw, rget2 hw]; done) | (simp_all [tupV, wGetK, wGetN, rget0 hw, rget1 hw, rget2 hw] <;> omega)), H4.below⟩
  · have p3 := ne_of_beq_false h3
    refine CW.cond_f (o := .tmp 4) (b := (w == 0)) (x := (cAt B24 [1, 0, 1, 0])) (y := (cAt B24 [1, 0, 1, 1])) (by kernel_rfl) (by kernel_rfl) h3 ?_
    refine CW.skip (by kernel_rfl) ?_
    refine NQ.then ?_
    refine CW.seq (x := (cAt B24 [1, 1, 0])) (y := (cAt B24 [1, 1, 1])) (by kernel_rfl) ?_
    refine CW.seq (x := (cAt B24 [1, 1, 0, 0])) (y := (cAt B24 [1, 1, 0, 1])) (by kernel_rfl) ?_
    refine CW.region (id := 3) (d := false) H2 (by kernel_rfl) mixed 0 [] [] [0, 2, 8] [0, 1] (by kernel_rfl)
      (fun β5 _ => [(0, .int .u64 w), (2, .pointer (some ⟨(β1 0), 0, none⟩)), (8, .bool ((Int.tmod w 2) == 1))]) (fun β5 _ => [some (.ro noRo), some (.blk (β1 0) [.int .i64 0, .int .i64 0] 35)]) (fun β5 _ => []) (fun _ _ => [])
      (fun _ _ => by kernel_rfl) (fun _ _ => trivial) ?_
    intro β5 _ w5 H5 _
    refine NQ.then ?_
    rcases Bool.eq_false_or_eq_true ((Int.tmod w 2) == 1) with h6 | h6
    · have p6 := eq_of_beq h6
      refine CW.cond_t (o := .tmp 8) (b := ((Int.tmod w 2) == 1)) (x := (cAt B24 [1, 1, 0, 1, 0])) (y := (cAt B24 [1, 1, 0, 1, 1])) (by kernel_rfl) (by kernel_rfl) h6 ?_
      refine CW.seq (x := (cAt B24 [1, 1, 0, 1, 0, 0])) (y := (cAt B24 [1, 1, 0, 1, 0, 1])) (by kernel_rfl) ?_
      refine CW.region (id := 4) (d := false) H5 (by kernel_rfl) mixed 0 [(4, .key 1)] [] [0, 2] [0, 1] (by kernel_rfl)
        (fun β7 _ => [(0, .int .u64 w), (2, .pointer (some ⟨(β1 0), 0, none⟩))]) (fun β7 _ => [some (.ro noRo), some (.blk (β1 0) [.int .i64 1, .int .i64 (iCv .i64 (iQuo .u64 w 2))] 35)]) (fun β7 _ => [(β1 0) = (β1 0)]) (fun _ _ => [])
        (fun _ _ => by kernel_rfl) (fun _ _ => ⟨rfl, trivial⟩) ?_
      intro β7 _ w7 H7 _
      refine NQ.then ?_
      refine CW.ret (by kernel_rfl) ?_
      refine NQ.then_ret ?_
      refine NQ.ret H7 [.cell 2 35] (by kernel_rfl) [1] [.agg #[.int .i64 1, .int .i64 (iCv .i64 (iQuo .u64 w 2))]] [(β1 0) = (β1 0)] (by kernel_rfl) ⟨rfl, trivial⟩ ?_
      exact ⟨congrArg Ending.returned (by clear H0 H1 H2 H5 H7; first | (simp_all [tupV, wGetK, wGetN, rget0 hw, rget1 hw, rget2 hw]; done) | (simp_all [tupV, wGetK, wGetN, rget0 hw, rget1 hw, rget2 hw] <;> omega)), H7.below⟩
    · have p6 := ne_of_beq_false h6
      refine CW.cond_f (o := .tmp 8) (b := ((Int.tmod w 2) == 1)) (x := (cAt B24 [1, 1, 0, 1, 0])) (y := (cAt B24 [1, 1, 0, 1, 1])) (by kernel_rfl) (by kernel_rfl) h6 ?_
      refine CW.skip (by kernel_rfl) ?_
      refine NQ.then ?_
      refine CW.seq (x := (cAt B24 [1, 1, 1, 0])) (y := (cAt B24 [1, 1, 1, 1])) (by kernel_rfl) ?_
      refine CW.region (id := 5) (d := false) H5 (by kernel_rfl) mixed 0 [(5, .key 1)] [] [0, 2] [0, 1] (by kernel_rfl)
        (fun β8 _ => [(0, .int .u64 w), (2, .pointer (some ⟨(β1 0), 0, none⟩))]) (fun β8 _ => [some (.ro noRo), some (.blk (β1 0) [.int .i64 2, .int .i64 (iCv .i64 (iSub .u64 (iQuo .u64 w 2) 1))] 35)]) (fun β8 _ => [(β1 0) = (β1 0)]) (fun _ _ => [])
        (fun _ _ => by kernel_rfl) (fun _ _ => ⟨rfl, trivial⟩) ?_
      intro β8 _ w8 H8 _
      refine NQ.then ?_
      refine CW.ret (by kernel_rfl) ?_
      refine NQ.ret H8 [.cell 2 35] (by kernel_rfl) [1] [.agg #[.int .i64 2, .int .i64 (iCv .i64 (iSub .u64 (iQuo .u64 w 2) 1))]] [(β1 0) = (β1 0)] (by kernel_rfl) ⟨rfl, trivial⟩ ?_
      exact ⟨congrArg Ending.returned (by clear H0 H1 H2 H5 H8; first | (simp_all [tupV, wGetK, wGetN, rget0 hw, rget1 hw, rget2 hw]; done) | (simp_all [tupV, wGetK, wGetN, rget0 hw, rget1 hw, rget2 hw] <;> omega)), H8.below⟩
end Go.Proofs.Ytnpbnkfmajokfaa.Fl
