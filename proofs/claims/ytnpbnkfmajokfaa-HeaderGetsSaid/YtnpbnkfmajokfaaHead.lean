/- Contracts of package header. Conditions: each in its premises. -/
import Derived.Test.YtnpbnkfmajokfaaBase
import Derived.Test.YtnpbnkfmajokfaaNum
set_option linter.unusedVariables false
set_option linter.unusedSimpArgs false
namespace Go.Proofs.Ytnpbnkfmajokfaa.Fl
open Go.RowKit

/-! ### The specifications: numbers alone -/
def two (k : Int) : Int := if k = 0 then 2 else if k = 1 then 4 else if k = 2 then 8 else 16
def hMay (u c : Bool) (k n : Int) : Bool := if u = true then decide (0 ≤ k) && (decide (k < 4) && (decide (0 ≤ n) && decide (n < two k))) else !c && (k == 0 && n == 0)
def hPut (u c : Bool) (k n : Int) : Int := if hMay u c k n = true then (if u = true then 128 + 16 * k + n + (if c = true then 64 else 0) else 0) else 0
def gV (w : Int) : Bool := decide (128 ≤ w) && (decide (w < 256) && decide (w % 16 < two (w / 16 % 4)))
def gOk (w : Int) : Bool := w == 0 || gV w
def gC (w : Int) : Bool := gV w && (w / 64 % 2 == 1)
def gK (w : Int) : Int := if gV w = true then w / 16 % 4 else 0
def gN (w : Int) : Int := if gV w = true then w % 16 else 0
theorem hMay_t {c : Bool} {k n : Int} : hMay true c k n = true ↔ 0 ≤ k ∧ k < 4 ∧ 0 ≤ n ∧ n < two k := by
  simp [hMay]
theorem two_le {k : Int} : 2 ≤ two k ∧ two k ≤ 16 := by
  unfold two
  split
  · omega
  · split
    · omega
    · split <;> omega
theorem gV_iff {w : Int} : gV w = true ↔ 128 ≤ w ∧ w < 256 ∧ w % 16 < two (w / 16 % 4) := by simp [gV]
theorem shl_two {k : Int} (h0 : 0 ≤ k) (h4 : k < 4) : iShl .i64 2 (min (Int.toNat k) 64) = two k := by
  have : k = 0 ∨ k = 1 ∨ k = 2 ∨ k = 3 := by omega
  rcases this with rfl | rfl | rfl | rfl <;> rfl
theorem small16 {n : Int} (h0 : 0 ≤ n) (h : n < 16) : n = 0 ∨ n = 1 ∨ n = 2 ∨ n = 3 ∨ n = 4 ∨ n = 5 ∨ n = 6 ∨ n = 7 ∨ n = 8 ∨ n = 9 ∨ n = 10 ∨ n = 11 ∨ n = 12 ∨ n = 13 ∨ n = 14 ∨ n = 15 := by omega
theorem bits_put {c : Bool} {k n : Int} (h : hMay true c k n = true) : iCv .u64 (bOr .i64 (bOr .i64 128 (iShl .i64 k 4)) (iShl .i64 n 0)) = 128 + 16 * k + n := by
  obtain ⟨h0, h4, n0, n1⟩ := hMay_t.1 h
  have := two_le (k := k)
  have hk : k = 0 ∨ k = 1 ∨ k = 2 ∨ k = 3 := by omega
  rcases hk with rfl | rfl | rfl | rfl <;> rcases small16 n0 (by omega) with rfl | rfl | rfl | rfl | rfl | rfl | rfl | rfl | rfl | rfl | rfl | rfl | rfl | rfl | rfl | rfl <;> rfl
theorem bits_put64 {c : Bool} {k n : Int} (h : hMay true c k n = true) : bOr .u64 (128 + 16 * k + n) 64 = 128 + 16 * k + n + 64 := by
  obtain ⟨h0, h4, n0, n1⟩ := hMay_t.1 h
  have := two_le (k := k)
  have hk : k = 0 ∨ k = 1 ∨ k = 2 ∨ k = 3 := by omega
  rcases hk with rfl | rfl | rfl | rfl <;> rcases small16 n0 (by omega) with rfl | rfl | rfl | rfl | rfl | rfl | rfl | rfl | rfl | rfl | rfl | rfl | rfl | rfl | rfl | rfl <;> rfl
theorem ref_put {c : Bool} {k n : Int} (h : hMay true c k n = true) : iAdd .i64 (iAdd .i64 128 (iMul .i64 16 k)) n = 128 + 16 * k + n := by
  obtain ⟨h0, h4, n0, n1⟩ := hMay_t.1 h
  have := two_le (k := k)
  rw [mul_i64 ⟨by omega, by omega⟩, add_i64 (x := 128) (y := 16 * k) ⟨by omega, by omega⟩, add_i64 ⟨by omega, by omega⟩]
theorem ref_put64 {c : Bool} {k n : Int} (h : hMay true c k n = true) : iAdd .i64 (128 + 16 * k + n) 64 = 128 + 16 * k + n + 64 := by
  obtain ⟨h0, h4, n0, n1⟩ := hMay_t.1 h
  have := two_le (k := k)
  rw [add_i64 ⟨by omega, by omega⟩]
theorem cv_put {c : Bool} {k n : Int} (h : hMay true c k n = true) : iCv .u64 (128 + 16 * k + n) = 128 + 16 * k + n ∧ iCv .u64 (128 + 16 * k + n + 64) = 128 + 16 * k + n + 64 := by
  obtain ⟨h0, h4, n0, n1⟩ := hMay_t.1 h
  have := two_le (k := k)
  exact ⟨cv_u64 ⟨by omega, by omega⟩, cv_u64 ⟨by omega, by omega⟩⟩
theorem and_bit {w : Int} (hw : inU64 w) (i m : Nat) (hm : m = 2 ^ i) (hi : (m : Int) ≤ 18446744073709551615) : (bAnd .u64 w (m : Int) != 0) = (w / (m : Int) % 2 == 1) := by
  have h0 : 0 ≤ w := hw.1
  rw [bAnd_u64 hw ⟨by omega, hi⟩]
  have e : ((m : Int)).toNat = 2 ^ i := by rw [← hm]; omega
  have hc : (w / (m : Int) % 2) = ((w.toNat / 2 ^ i % 2 : Nat) : Int) := by
    rw [← hm, show w = (w.toNat : Int) by omega]
    simp
  have hb : w.toNat.testBit i = decide (w.toNat / 2 ^ i % 2 = 1) := Nat.testBit_eq_decide_div_mod_eq
  rw [e, hc]
  have hlt : w.toNat / 2 ^ i % 2 < 2 := Nat.mod_lt _ (by omega)
  have key : (w.toNat &&& 2 ^ i) = (w.toNat.testBit i).toNat * 2 ^ i := by
    apply Nat.eq_of_testBit_eq
    intro j
    rw [Nat.testBit_and, Nat.testBit_two_pow]
    by_cases hj : i = j
    · subst hj
      cases w.toNat.testBit i <;> simp
    · cases w.toNat.testBit i <;> simp [hj]
  have hp : 0 < 2 ^ i := Nat.two_pow_pos i
  rw [key, hb]
  by_cases h1 : w.toNat / 2 ^ i % 2 = 1
  · simp [h1]; exact fun h => by have hp2 : (0 : Int) < 2 ^ i := (by exact_mod_cast hp); omega
  · have : w.toNat / 2 ^ i % 2 = 0 := by omega
    simp [this]
theorem and_mask {w : Int} (hw : inU64 w) (i m : Nat) (hm : m + 1 = 2 ^ i) (hi : (m : Int) ≤ 18446744073709551615) : bAnd .u64 w (m : Int) = w % ((m : Int) + 1) := by
  have h0 : 0 ≤ w := hw.1
  rw [bAnd_u64 hw ⟨by omega, hi⟩]
  have e : ((m : Int)).toNat = 2 ^ i - 1 := by rw [← hm]; omega
  rw [e, Nat.and_two_pow_sub_one_eq_mod, ← hm]
  rw [show w = (w.toNat : Int) by omega]
  simp
theorem get_u {w : Int} (hw : inU64 w) : (bAnd .u64 w 128 != 0) = (w / 128 % 2 == 1) := and_bit hw 7 128 rfl (by decide)
theorem get_c {w : Int} (hw : inU64 w) : (bAnd .u64 w 64 != 0) = (w / 64 % 2 == 1) := and_bit hw 6 64 rfl (by decide)
theorem get_k {w : Int} (hw : inU64 w) : iCv .i64 (bAnd .u64 (iShr w 4) 3) = w / 16 % 4 := by
  have h0 := hw.1
  have h1 := hw.2
  have e := and_mask (w := w / 16) ⟨by omega, by omega⟩ 2 3 rfl (by decide)
  rw [shr_div, show (w / 2 ^ 4) = w / 16 from rfl, show bAnd .u64 (w / 16) 3 = w / 16 % 4 from e]
  exact cv_i64 ⟨by omega, by omega⟩
theorem get_n {w : Int} (hw : inU64 w) : iCv .i64 (bAnd .u64 (iShr w 0) 15) = w % 16 := by
  have h0 := hw.1
  have h1 := hw.2
  have e := and_mask (w := w) hw 4 15 rfl (by decide)
  rw [shr_div, show (w / 2 ^ 0) = w by simp, show bAnd .u64 w 15 = w % 16 from e]
  exact cv_i64 ⟨by omega, by omega⟩
/-- What a word's bits make up is that word's header, or none. -/
theorem get_back {w : Int} (hw : inU64 w) : (hMay (w / 128 % 2 == 1) (w / 64 % 2 == 1) (w / 16 % 4) (w % 16) = true ∧ hPut (w / 128 % 2 == 1) (w / 64 % 2 == 1) (w / 16 % 4) (w % 16) = w) ↔ gOk w = true := by
  have h0 := hw.1
  unfold gOk
  by_cases hu : w / 128 % 2 = 1
  · rw [show (w / 128 % 2 == 1) = true from beq_iff_eq.2 hu]
    have hne : ¬ w = 0 := by omega
    simp only [beq_eq_false_iff_ne.2 hne, Bool.false_or, gV_iff, hMay_t]
    constructor
    · rintro ⟨hm, hp⟩
      unfold hPut at hp
      rw [if_pos (hMay_t.2 hm), if_pos rfl] at hp
      refine ⟨?_, ?_, hm.2.2.2⟩
      · split at hp <;> omega
      · split at hp <;> omega
    · rintro ⟨h1, h2, h3⟩
      have hm : 0 ≤ w / 16 % 4 ∧ w / 16 % 4 < 4 ∧ 0 ≤ w % 16 ∧ w % 16 < two (w / 16 % 4) := ⟨by omega, by omega, by omega, h3⟩
      refine ⟨hm, ?_⟩
      unfold hPut
      rw [if_pos (hMay_t.2 hm), if_pos rfl]
      by_cases hc : w / 64 % 2 = 1
      · rw [show (w / 64 % 2 == 1) = true from beq_iff_eq.2 hc, if_pos rfl]; omega
      · rw [show (w / 64 % 2 == 1) = false from beq_eq_false_iff_ne.2 hc, if_neg (by simp)]; omega
  · rw [show (w / 128 % 2 == 1) = false from beq_eq_false_iff_ne.2 hu]
    constructor
    · rintro ⟨hm, hp⟩
      unfold hPut at hp
      rw [if_pos hm, if_neg (by simp)] at hp
      simp [← hp]
    · intro h
      have hnv : gV w = false := by
        cases e : gV w with
        | false => rfl
        | true => have := gV_iff.1 e; omega
      rw [hnv] at h
      have hz : w = 0 := by simpa using h
      subst hz
      exact ⟨rfl, rfl⟩
theorem cand {w : Int} {c n k : Nat} (hk : k < 2) (hc : c < 4) (hn : n < 16) (hm : hMay true ((k : Int) == 1) (c : Int) (n : Int) = true) (hp : hPut true ((k : Int) == 1) (c : Int) (n : Int) = w) :
    gV w = true ∧ (c : Int) = w / 16 % 4 ∧ (n : Int) = w % 16 ∧ ((k : Int) == 1) = (w / 64 % 2 == 1) := by
  obtain ⟨h0, h4, n0, n1⟩ := hMay_t.1 hm
  have h2 := two_le (k := (c : Int))
  unfold hPut at hp
  rw [if_pos hm, if_pos rfl] at hp
  have hkk : k = 0 ∨ k = 1 := by omega
  have e1 : (c : Int) = w / 16 % 4 ∧ (n : Int) = w % 16 ∧ 128 ≤ w ∧ w < 256 ∧ ((k : Int) == 1) = (w / 64 % 2 == 1) := by
    rcases hkk with rfl | rfl
    · rw [if_neg (by simp)] at hp
      refine ⟨by omega, by omega, by omega, by omega, ?_⟩
      rw [show (w / 64 % 2 == 1) = false from beq_eq_false_iff_ne.2 (by omega)]; rfl
    · rw [if_pos (by simp)] at hp
      refine ⟨by omega, by omega, by omega, by omega, ?_⟩
      rw [show (w / 64 % 2 == 1) = true from beq_iff_eq.2 (by omega)]; rfl
  exact ⟨gV_iff.2 ⟨e1.2.2.1, e1.2.2.2.1, by rw [← e1.1, ← e1.2.1]; exact n1⟩, e1.1, e1.2.1, e1.2.2.2.2⟩
/-- A word that is a header's is found at its own numbers. -/
theorem cand_back {w : Int} (hv : gV w = true) {c n k : Nat} (ec : (c : Int) = w / 16 % 4) (en : (n : Int) = w % 16) (ek : ((k : Int) == 1) = (w / 64 % 2 == 1)) :
    hMay true ((k : Int) == 1) (c : Int) (n : Int) = true ∧ hPut true ((k : Int) == 1) (c : Int) (n : Int) = w := by
  obtain ⟨h1, h2, h3⟩ := gV_iff.1 hv
  have hm : hMay true ((k : Int) == 1) (c : Int) (n : Int) = true := hMay_t.2 ⟨by omega, by omega, by omega, by rw [ec, en]; exact h3⟩
  refine ⟨hm, ?_⟩
  unfold hPut
  rw [if_pos hm, if_pos rfl, ek]
  by_cases hc : w / 64 % 2 = 1
  · rw [show (w / 64 % 2 == 1) = true from beq_iff_eq.2 hc, if_pos rfl]; omega
  · rw [show (w / 64 % 2 == 1) = false from beq_eq_false_iff_ne.2 hc, if_neg (by simp)]; omega
theorem inc_nat {c : Nat} (h : (c : Int) < 9223372036854775807) : iAdd .i64 ((c : Nat) : Int) 1 = ((c + 1 : Nat) : Int) := by
  rw [add_i64 ⟨by omega, by omega⟩]; omega


theorem head_May (u : Bool) (c : Bool) (k : Int) (n : Int) : Pure noRo P0 14 #[.agg #[.bool u, .bool c, .int .i64 k, .int .i64 n]] (.bool (hMay u c k n)) := by
  intro w0 hG
  have H0 := Own.begin hG
  refine enter (fn := F14) (c := B14) (n := 30) [(0, .agg #[.bool u, .bool c, .int .i64 k, .int .i64 n])] (by kernel_rfl) (by kernel_rfl) (by kernel_rfl) (by kernel_rfl) (by kernel_rfl) ?_
  refine CW.seq (x := (cAt B14 [0])) (y := (cAt B14 [1])) (by kernel_rfl) ?_
  refine CW.region (id := 0) (d := false) H0 (by kernel_rfl) mixed 1 [(0, .key 1)] [] [1, 2] [0, 1] (by kernel_rfl)
    (fun β1 _ => [(1, .pointer (some ⟨(β1 0), 0, none⟩)), (2, .bool false)]) (fun β1 _ => [some (.ro noRo), some (.blk (β1 0) [.bool u, .bool c, .int .i64 k, .int .i64 n] 23)]) (fun β1 _ => []) (fun _ _ => [])
    (fun _ _ => by kernel_rfl) (fun _ _ => trivial) ?_
  intro β1 _ w1 H1 _
  refine NQ.then ?_
  refine CW.seq (x := (cAt B14 [1, 0])) (y := (cAt B14 [1, 1])) (by kernel_rfl) ?_
  refine CW.seq (x := (cAt B14 [1, 0, 0])) (y := (cAt B14 [1, 0, 1])) (by kernel_rfl) ?_
  refine CW.region (id := 1) (d := false) H1 (by kernel_rfl) mixed 0 [(1, .key 1)] [] [1, 2, 5] [0, 1] (by kernel_rfl)
    (fun β2 _ => [(1, .pointer (some ⟨(β1 0), 0, none⟩)), (2, .bool false), (5, .bool (!u))]) (fun β2 _ => [some (.ro noRo), some (.blk (β1 0) [.bool u, .bool c, .int .i64 k, .int .i64 n] 23)]) (fun β2 _ => [(β1 0) = (β1 0)]) (fun _ _ => [])
    (fun _ _ => by kernel_rfl) (fun _ _ => ⟨rfl, trivial⟩) ?_
  intro β2 _ w2 H2 _
  refine NQ.then ?_
  rcases Bool.eq_false_or_eq_true u with h3 | h3
  · refine CW.cond_f (o := .tmp 5) (b := (!u)) (x := (cAt B14 [1, 0, 1, 0])) (y := (cAt B14 [1, 0, 1, 1])) (by kernel_rfl) (by kernel_rfl) (by rw [show u = true from h3]; rfl) ?_
    refine CW.skip (by kernel_rfl) ?_
    refine NQ.then ?_
    refine CW.seq (x := (cAt B14 [1, 1, 0])) (y := (cAt B14 [1, 1, 1])) (by kernel_rfl) ?_
    rcases Bool.eq_false_or_eq_true (decide (k ≥ 0)) with h4 | h4
    · have p4 := of_decide_eq_true h4
      rcases Bool.eq_false_or_eq_true (decide (k < 4)) with h5 | h5
      · have p5 := of_decide_eq_true h5
        rcases Bool.eq_false_or_eq_true (decide (n ≥ 0)) with h6 | h6
        · have p6 := of_decide_eq_true h6
          refine CW.region (id := 3) (d := true) H2 (by kernel_rfl) mixed 0 [(1, .key 1), (5, .key 1), (7, .dec true), (10, .key 1), (12, .dec true), (15, .key 1), (17, .key 1), (20, .dec true)] [(4, true), (5, true), (6, true), (9, true), (10, true), (11, true), (14, true), (15, true), (16, true), (17, true), (18, true), (19, true)] [1, 2] [0, 1] (by kernel_rfl)
            (fun β7 _ => [(1, .pointer (some ⟨(β1 0), 0, none⟩)), (2, .bool (decide (n < (iShl .i64 2 (min (Int.toNat k) 64)))))]) (fun β7 _ => [some (.ro noRo), some (.blk (β1 0) [.bool u, .bool c, .int .i64 k, .int .i64 n] 23)]) (fun β7 _ => [(β1 0) = (β1 0), ((decide (k ≥ 0)) == true) = true, ((decide (k ≥ 0)) == true) = true, (β1 0) = (β1 0), ((decide (k ≥ 0)) == true) = true, (decide (k ≥ 0)) = true, ((decide (k < 4)) == true) = true, ((decide (k < 4)) == true) = true, (β1 0) = (β1 0), ((decide (k < 4)) == true) = true, (decide (k < 4)) = true, ((decide (n ≥ 0)) == true) = true, ((decide (n ≥ 0)) == true) = true, (β1 0) = (β1 0), ((decide (n ≥ 0)) == true) = true, ((decide (n ≥ 0)) == true) = true, (β1 0) = (β1 0), ((decide (n ≥ 0)) == true) = true, (0 : Int) ≤ k, ((decide (n ≥ 0)) == true) = true, (decide (n ≥ 0)) = true]) (fun _ _ => [])
            (fun _ _ => by kernel_rfl) (fun _ _ => ⟨rfl, (by rw [show (decide (k ≥ 0)) = true from h4]; rfl), (by rw [show (decide (k ≥ 0)) = true from h4]; rfl), rfl, (by rw [show (decide (k ≥ 0)) = true from h4]; rfl), h4, (by rw [show (decide (k < 4)) = true from h5]; rfl), (by rw [show (decide (k < 4)) = true from h5]; rfl), rfl, (by rw [show (decide (k < 4)) = true from h5]; rfl), h5, (by rw [show (decide (n ≥ 0)) = true from h6]; rfl), (by rw [show (decide (n ≥ 0)) = true from h6]; rfl), rfl, (by rw [show (decide (n ≥ 0)) = true from h6]; rfl), (by rw [show (decide (n ≥ 0)) = true from h6]; rfl), rfl, (by rw [show (decide (n ≥ 0)) = true from h6]; rfl), (by omega), (by rw [show (decide (n ≥ 0)) = true from h6]; rfl), h6, trivial⟩) ?_
          intro β7 _ w7 H7 _
          rw [show (iShl .i64 2 (min (Int.toNat k) 64)) = (two k) from shl_two (by assumption) (by assumption)]
          refine NQ.then ?_
          refine CW.ret (by kernel_rfl) ?_
          refine NQ.ret H7 [.tmp 2] (by kernel_rfl) [] [.bool (decide (n < (two k)))] [] (by kernel_rfl) trivial ?_
          exact ⟨congrArg Ending.returned (by clear H0 H1 H2 H7; first | (simp_all [tupV, hMay]; done) | (simp_all [tupV, hMay] <;> omega)), H7.below⟩
        · have p6 := of_decide_eq_false h6
          refine CW.region (id := 3) (d := true) H2 (by kernel_rfl) mixed 0 [(1, .key 1), (5, .key 1), (7, .dec true), (10, .key 1), (12, .dec true), (20, .dec false)] [(4, true), (5, true), (6, true), (9, true), (10, true), (11, true), (14, false), (15, false), (16, false), (17, false), (18, false), (19, false)] [1, 2] [0, 1] (by kernel_rfl)
            (fun β8 _ => [(1, .pointer (some ⟨(β1 0), 0, none⟩)), (2, .bool false)]) (fun β8 _ => [some (.ro noRo), some (.blk (β1 0) [.bool u, .bool c, .int .i64 k, .int .i64 n] 23)]) (fun β8 _ => [(β1 0) = (β1 0), ((decide (k ≥ 0)) == true) = true, ((decide (k ≥ 0)) == true) = true, (β1 0) = (β1 0), ((decide (k ≥ 0)) == true) = true, (decide (k ≥ 0)) = true, ((decide (k < 4)) == true) = true, ((decide (k < 4)) == true) = true, (β1 0) = (β1 0), ((decide (k < 4)) == true) = true, (decide (k < 4)) = true, ((decide (n ≥ 0)) == true) = false, ((decide (n ≥ 0)) == true) = false, ((decide (n ≥ 0)) == true) = false, ((decide (n ≥ 0)) == true) = false, ((decide (n ≥ 0)) == true) = false, ((decide (n ≥ 0)) == true) = false, (decide (n ≥ 0)) = false]) (fun _ _ => [])
            (fun _ _ => by kernel_rfl) (fun _ _ => ⟨rfl, (by rw [show (decide (k ≥ 0)) = true from h4]; rfl), (by rw [show (decide (k ≥ 0)) = true from h4]; rfl), rfl, (by rw [show (decide (k ≥ 0)) = true from h4]; rfl), h4, (by rw [show (decide (k < 4)) = true from h5]; rfl), (by rw [show (decide (k < 4)) = true from h5]; rfl), rfl, (by rw [show (decide (k < 4)) = true from h5]; rfl), h5, (by rw [show (decide (n ≥ 0)) = false from h6]; rfl), (by rw [show (decide (n ≥ 0)) = false from h6]; rfl), (by rw [show (decide (n ≥ 0)) = false from h6]; rfl), (by rw [show (decide (n ≥ 0)) = false from h6]; rfl), (by rw [show (decide (n ≥ 0)) = false from h6]; rfl), (by rw [show (decide (n ≥ 0)) = false from h6]; rfl), h6, trivial⟩) ?_
          intro β8 _ w8 H8 _
          refine NQ.then ?_
          refine CW.ret (by kernel_rfl) ?_
          refine NQ.ret H8 [.tmp 2] (by kernel_rfl) [] [.bool false] [] (by kernel_rfl) trivial ?_
          exact ⟨congrArg Ending.returned (by clear H0 H1 H2 H8; first | (simp_all [tupV, hMay]; done) | (simp_all [tupV, hMay] <;> omega)), H8.below⟩
      · have p5 := of_decide_eq_false h5
        refine CW.region (id := 3) (d := true) H2 (by kernel_rfl) mixed 0 [(1, .key 1), (5, .key 1), (7, .dec true), (12, .dec false)] [(4, true), (5, true), (6, true), (9, false), (10, false), (11, false)] [1, 2] [0, 1] (by kernel_rfl)
          (fun β9 _ => [(1, .pointer (some ⟨(β1 0), 0, none⟩)), (2, .bool false)]) (fun β9 _ => [some (.ro noRo), some (.blk (β1 0) [.bool u, .bool c, .int .i64 k, .int .i64 n] 23)]) (fun β9 _ => [(β1 0) = (β1 0), ((decide (k ≥ 0)) == true) = true, ((decide (k ≥ 0)) == true) = true, (β1 0) = (β1 0), ((decide (k ≥ 0)) == true) = true, (decide (k ≥ 0)) = true, ((decide (k < 4)) == true) = false, ((decide (k < 4)) == true) = false, ((decide (k < 4)) == true) = false, (decide (k < 4)) = false]) (fun _ _ => [])
          (fun _ _ => by kernel_rfl) (fun _ _ => ⟨rfl, (by rw [show (decide (k ≥ 0)) = true from h4]; rfl), (by rw [show (decide (k ≥ 0)) = true from h4]; rfl), rfl, (by rw [show (decide (k ≥ 0)) = true from h4]; rfl), h4, (by rw [show (decide (k < 4)) = false from h5]; rfl), (by rw [show (decide (k < 4)) = false from h5]; rfl), (by rw [show (decide (k < 4)) = false from h5]; rfl), h5, trivial⟩) ?_
        intro β9 _ w9 H9 _
        refine NQ.then ?_
        refine CW.ret (by kernel_rfl) ?_
        refine NQ.ret H9 [.tmp 2] (by kernel_rfl) [] [.bool false] [] (by kernel_rfl) trivial ?_
        exact ⟨congrArg Ending.returned (by clear H0 H1 H2 H9; first | (simp_all [tupV, hMay]; done) | (simp_all [tupV, hMay] <;> omega)), H9.below⟩
    · have p4 := of_decide_eq_false h4
      refine CW.region (id := 3) (d := true) H2 (by kernel_rfl) mixed 0 [(1, .key 1), (7, .dec false)] [(4, false), (5, false), (6, false)] [1, 2] [0, 1] (by kernel_rfl)
        (fun β10 _ => [(1, .pointer (some ⟨(β1 0), 0, none⟩)), (2, .bool false)]) (fun β10 _ => [some (.ro noRo), some (.blk (β1 0) [.bool u, .bool c, .int .i64 k, .int .i64 n] 23)]) (fun β10 _ => [(β1 0) = (β1 0), ((decide (k ≥ 0)) == true) = false, ((decide (k ≥ 0)) == true) = false, ((decide (k ≥ 0)) == true) = false, (decide (k ≥ 0)) = false]) (fun _ _ => [])
        (fun _ _ => by kernel_rfl) (fun _ _ => ⟨rfl, (by rw [show (decide (k ≥ 0)) = false from h4]; rfl), (by rw [show (decide (k ≥ 0)) = false from h4]; rfl), (by rw [show (decide (k ≥ 0)) = false from h4]; rfl), h4, trivial⟩) ?_
      intro β10 _ w10 H10 _
      refine NQ.then ?_
      refine CW.ret (by kernel_rfl) ?_
      refine NQ.ret H10 [.tmp 2] (by kernel_rfl) [] [.bool false] [] (by kernel_rfl) trivial ?_
      exact ⟨congrArg Ending.returned (by clear H0 H1 H2 H10; first | (simp_all [tupV, hMay]; done) | (simp_all [tupV, hMay] <;> omega)), H10.below⟩
  · refine CW.cond_t (o := .tmp 5) (b := (!u)) (x := (cAt B14 [1, 0, 1, 0])) (y := (cAt B14 [1, 0, 1, 1])) (by kernel_rfl) (by kernel_rfl) (by rw [show u = false from h3]; rfl) ?_
    refine CW.seq (x := (cAt B14 [1, 0, 1, 0, 0])) (y := (cAt B14 [1, 0, 1, 0, 1])) (by kernel_rfl) ?_
    refine CW.region (id := 2) (d := false) H2 (by kernel_rfl) mixed 0 [(0, .key 1)] [] [1, 2] [0, 1] (by kernel_rfl)
      (fun β11 _ => [(1, .pointer (some ⟨(β1 0), 0, none⟩)), (2, .bool ((u == false) && ((c == false) && ((k == 0) && ((n == 0) && true)))))]) (fun β11 _ => [some (.ro noRo), some (.blk (β1 0) [.bool u, .bool c, .int .i64 k, .int .i64 n] 23)]) (fun β11 _ => [(β1 0) = (β1 0)]) (fun _ _ => [])
      (fun _ _ => by kernel_rfl) (fun _ _ => ⟨rfl, trivial⟩) ?_
    intro β11 _ w11 H11 _
    refine NQ.then ?_
    refine CW.ret (by kernel_rfl) ?_
    refine NQ.then_ret ?_
    refine NQ.ret H11 [.tmp 2] (by kernel_rfl) [] [.bool ((u == false) && ((c == false) && ((k == 0) && ((n == 0) && true))))] [] (by kernel_rfl) trivial ?_
    exact ⟨congrArg Ending.returned (by clear H0 H1 H2 H11; first | (simp_all [tupV, hMay]; done) | (simp_all [tupV, hMay] <;> omega)), H11.below⟩

theorem head_Put (u : Bool) (c : Bool) (k : Int) (n : Int) (hk : in64 k) (hn : in64 n) : Pure noRo P0 12 #[.agg #[.bool u, .bool c, .int .i64 k, .int .i64 n]] (.tuple #[.int .u64 (hPut u c k n), .bool (hMay u c k n)]) := by
  intro w0 hG
  have H0 := Own.begin hG
  refine enter (fn := F12) (c := B12) (n := 25) [(0, .agg #[.bool u, .bool c, .int .i64 k, .int .i64 n])] (by kernel_rfl) (by kernel_rfl) (by kernel_rfl) (by kernel_rfl) (by kernel_rfl) ?_
  refine CW.seq (x := (cAt B12 [0])) (y := (cAt B12 [1])) (by kernel_rfl) ?_
  refine CW.region (id := 0) (d := false) H0 (by kernel_rfl) mixed 1 [(0, .key 1)] [] [1, 2, 3] [0, 1] (by kernel_rfl)
    (fun β1 _ => [(1, .pointer (some ⟨(β1 0), 0, none⟩)), (2, .int .u64 0), (3, .bool false)]) (fun β1 _ => [some (.ro noRo), some (.blk (β1 0) [.bool u, .bool c, .int .i64 k, .int .i64 n] 23)]) (fun β1 _ => []) (fun _ _ => [])
    (fun _ _ => by kernel_rfl) (fun _ _ => trivial) ?_
  intro β1 _ w1 H1 _
  refine NQ.then ?_
  refine CW.seq (x := (cAt B12 [1, 0])) (y := (cAt B12 [1, 1])) (by kernel_rfl) ?_
  refine CW.seq (x := (cAt B12 [1, 0, 0])) (y := (cAt B12 [1, 0, 1])) (by kernel_rfl) ?_
  refine CW.region (id := 1) (d := false) H1 (by kernel_rfl) mixed 0 [(0, .key 1), (1, .call 0 (pureRec (.bool (hMay u c k n))))] [] [1, 2, 3, 7] [0, 1] (by kernel_rfl)
    (fun β2 _ => [(1, .pointer (some ⟨(β1 0), 0, none⟩)), (2, .int .u64 0), (3, .bool false), (7, .bool (!(hMay u c k n)))]) (fun β2 _ => [some (.ro noRo), some (.blk (β1 0) [.bool u, .bool c, .int .i64 k, .int .i64 n] 23)]) (fun β2 _ => [(β1 0) = (β1 0), CallOb P0 14 #[.agg #[.bool u, .bool c, .int .i64 k, .int .i64 n]] [some (.ro noRo)] (pureRec (.bool (hMay u c k n)))]) (fun _ _ => [True])
    (fun _ _ => by kernel_rfl) (fun _ _ => ⟨rfl, (Pure.ob (head_May u c k n )), trivial⟩) ?_
  intro β2 _ w2 H2 _
  refine NQ.then ?_
  rcases Bool.eq_false_or_eq_true (hMay u c k n) with h3 | h3
  · refine CW.cond_f (o := .tmp 7) (b := (!(hMay u c k n))) (x := (cAt B12 [1, 0, 1, 0])) (y := (cAt B12 [1, 0, 1, 1])) (by kernel_rfl) (by kernel_rfl) (by rw [show (hMay u c k n) = true from h3]; rfl) ?_
    refine CW.skip (by kernel_rfl) ?_
    refine NQ.then ?_
    refine CW.seq (x := (cAt B12 [1, 1, 0])) (y := (cAt B12 [1, 1, 1])) (by kernel_rfl) ?_
    refine CW.seq (x := (cAt B12 [1, 1, 0, 0])) (y := (cAt B12 [1, 1, 0, 1])) (by kernel_rfl) ?_
    refine CW.region (id := 3) (d := false) H2 (by kernel_rfl) mixed 0 [(1, .key 1)] [] [1, 2, 3, 10] [0, 1] (by kernel_rfl)
      (fun β4 _ => [(1, .pointer (some ⟨(β1 0), 0, none⟩)), (2, .int .u64 0), (3, .bool false), (10, .bool (!u))]) (fun β4 _ => [some (.ro noRo), some (.blk (β1 0) [.bool u, .bool c, .int .i64 k, .int .i64 n] 23)]) (fun β4 _ => [(β1 0) = (β1 0)]) (fun _ _ => [])
      (fun _ _ => by kernel_rfl) (fun _ _ => ⟨rfl, trivial⟩) ?_
    intro β4 _ w4 H4 _
    refine NQ.then ?_
    rcases Bool.eq_false_or_eq_true u with h5 | h5
    · refine CW.cond_f (o := .tmp 10) (b := (!u)) (x := (cAt B12 [1, 1, 0, 1, 0])) (y := (cAt B12 [1, 1, 0, 1, 1])) (by kernel_rfl) (by kernel_rfl) (by rw [show u = true from h5]; rfl) ?_
      refine CW.skip (by kernel_rfl) ?_
      refine NQ.then ?_
      refine CW.seq (x := (cAt B12 [1, 1, 1, 0])) (y := (cAt B12 [1, 1, 1, 1])) (by kernel_rfl) ?_
      refine CW.region (id := 5) (d := false) H4 (by kernel_rfl) mixed 0 [(1, .key 1), (5, .key 1)] [] [1, 2, 3, 4] [0, 1] (by kernel_rfl)
        (fun β6 _ => [(1, .pointer (some ⟨(β1 0), 0, none⟩)), (2, .int .u64 0), (3, .bool false), (4, .int .u64 (iCv .u64 (bOr .i64 (bOr .i64 128 (iShl .i64 k 4)) (iShl .i64 n 0))))]) (fun β6 _ => [some (.ro noRo), some (.blk (β1 0) [.bool u, .bool c, .int .i64 k, .int .i64 n] 23)]) (fun β6 _ => [(β1 0) = (β1 0), (β1 0) = (β1 0)]) (fun _ _ => [])
        (fun _ _ => by kernel_rfl) (fun _ _ => ⟨rfl, rfl, trivial⟩) ?_
      intro β6 _ w6 H6 _
      refine NQ.then ?_
      refine CW.seq (x := (cAt B12 [1, 1, 1, 1, 0])) (y := (cAt B12 [1, 1, 1, 1, 1])) (by kernel_rfl) ?_
      refine CW.seq (x := (cAt B12 [1, 1, 1, 1, 0, 0])) (y := (cAt B12 [1, 1, 1, 1, 0, 1])) (by kernel_rfl) ?_
      refine CW.region (id := 6) (d := false) H6 (by kernel_rfl) mixed 0 [(1, .key 1)] [] [1, 2, 3, 4, 21] [0, 1] (by kernel_rfl)
        (fun β7 _ => [(1, .pointer (some ⟨(β1 0), 0, none⟩)), (2, .int .u64 0), (3, .bool false), (4, .int .u64 (iCv .u64 (bOr .i64 (bOr .i64 128 (iShl .i64 k 4)) (iShl .i64 n 0)))), (21, .bool c)]) (fun β7 _ => [some (.ro noRo), some (.blk (β1 0) [.bool u, .bool c, .int .i64 k, .int .i64 n] 23)]) (fun β7 _ => [(β1 0) = (β1 0)]) (fun _ _ => [])
        (fun _ _ => by kernel_rfl) (fun _ _ => ⟨rfl, trivial⟩) ?_
      intro β7 _ w7 H7 _
      refine NQ.then ?_
      rcases Bool.eq_false_or_eq_true c with h8 | h8
      · refine CW.cond_t (o := .tmp 21) (b := c) (x := (cAt B12 [1, 1, 1, 1, 0, 1, 0])) (y := (cAt B12 [1, 1, 1, 1, 0, 1, 1])) (by kernel_rfl) (by kernel_rfl) h8 ?_
        refine CW.region (id := 7) (d := false) H7 (by kernel_rfl) mixed 0 [] [] [1, 2, 3, 4] [0, 1] (by kernel_rfl)
          (fun β9 _ => [(1, .pointer (some ⟨(β1 0), 0, none⟩)), (2, .int .u64 0), (3, .bool false), (4, .int .u64 (bOr .u64 (iCv .u64 (bOr .i64 (bOr .i64 128 (iShl .i64 k 4)) (iShl .i64 n 0))) 64))]) (fun β9 _ => [some (.ro noRo), some (.blk (β1 0) [.bool u, .bool c, .int .i64 k, .int .i64 n] 23)]) (fun β9 _ => []) (fun _ _ => [])
          (fun _ _ => by kernel_rfl) (fun _ _ => trivial) ?_
        intro β9 _ w9 H9 _
        refine NQ.then ?_
        refine CW.seq (x := (cAt B12 [1, 1, 1, 1, 1, 0])) (y := (cAt B12 [1, 1, 1, 1, 1, 1])) (by kernel_rfl) ?_
        refine CW.region (id := 8) (d := false) H9 (by kernel_rfl) mixed 0 [] [] [1, 2, 3, 4] [0, 1] (by kernel_rfl)
          (fun β10 _ => [(1, .pointer (some ⟨(β1 0), 0, none⟩)), (2, .int .u64 (bOr .u64 (iCv .u64 (bOr .i64 (bOr .i64 128 (iShl .i64 k 4)) (iShl .i64 n 0))) 64)), (3, .bool true), (4, .int .u64 (bOr .u64 (iCv .u64 (bOr .i64 (bOr .i64 128 (iShl .i64 k 4)) (iShl .i64 n 0))) 64))]) (fun β10 _ => [some (.ro noRo), some (.blk (β1 0) [.bool u, .bool c, .int .i64 k, .int .i64 n] 23)]) (fun β10 _ => []) (fun _ _ => [])
          (fun _ _ => by kernel_rfl) (fun _ _ => trivial) ?_
        intro β10 _ w10 H10 _
        refine NQ.then ?_
        refine CW.ret (by kernel_rfl) ?_
        refine NQ.ret H10 [.tmp 2, .tmp 3] (by kernel_rfl) [] [.int .u64 (bOr .u64 (iCv .u64 (bOr .i64 (bOr .i64 128 (iShl .i64 k 4)) (iShl .i64 n 0))) 64), .bool true] [] (by kernel_rfl) trivial ?_
        exact ⟨congrArg Ending.returned (by clear H0 H1 H2 H4 H6 H7 H9 H10; first | (simp_all [tupV, hPut]; done) | (have hm : hMay u c k n = true := (by assumption); have hu : u = true := (by assumption); subst hu; have e1 := bits_put hm; have e2 := bits_put64 hm; simp_all [tupV, hPut])), H10.below⟩
      · refine CW.cond_f (o := .tmp 21) (b := c) (x := (cAt B12 [1, 1, 1, 1, 0, 1, 0])) (y := (cAt B12 [1, 1, 1, 1, 0, 1, 1])) (by kernel_rfl) (by kernel_rfl) h8 ?_
        refine CW.skip (by kernel_rfl) ?_
        refine NQ.then ?_
        refine CW.seq (x := (cAt B12 [1, 1, 1, 1, 1, 0])) (y := (cAt B12 [1, 1, 1, 1, 1, 1])) (by kernel_rfl) ?_
        refine CW.region (id := 8) (d := false) H7 (by kernel_rfl) mixed 0 [] [] [1, 2, 3, 4] [0, 1] (by kernel_rfl)
          (fun β11 _ => [(1, .pointer (some ⟨(β1 0), 0, none⟩)), (2, .int .u64 (iCv .u64 (bOr .i64 (bOr .i64 128 (iShl .i64 k 4)) (iShl .i64 n 0)))), (3, .bool true), (4, .int .u64 (iCv .u64 (bOr .i64 (bOr .i64 128 (iShl .i64 k 4)) (iShl .i64 n 0))))]) (fun β11 _ => [some (.ro noRo), some (.blk (β1 0) [.bool u, .bool c, .int .i64 k, .int .i64 n] 23)]) (fun β11 _ => []) (fun _ _ => [])
          (fun _ _ => by kernel_rfl) (fun _ _ => trivial) ?_
        intro β11 _ w11 H11 _
        refine NQ.then ?_
        refine CW.ret (by kernel_rfl) ?_
        refine NQ.ret H11 [.tmp 2, .tmp 3] (by kernel_rfl) [] [.int .u64 (iCv .u64 (bOr .i64 (bOr .i64 128 (iShl .i64 k 4)) (iShl .i64 n 0))), .bool true] [] (by kernel_rfl) trivial ?_
        exact ⟨congrArg Ending.returned (by clear H0 H1 H2 H4 H6 H7 H11; first | (simp_all [tupV, hPut]; done) | (have hm : hMay u c k n = true := (by assumption); have hu : u = true := (by assumption); subst hu; have e1 := bits_put hm; have e2 := bits_put64 hm; simp_all [tupV, hPut])), H11.below⟩
    · refine CW.cond_t (o := .tmp 10) (b := (!u)) (x := (cAt B12 [1, 1, 0, 1, 0])) (y := (cAt B12 [1, 1, 0, 1, 1])) (by kernel_rfl) (by kernel_rfl) (by rw [show u = false from h5]; rfl) ?_
      refine CW.seq (x := (cAt B12 [1, 1, 0, 1, 0, 0])) (y := (cAt B12 [1, 1, 0, 1, 0, 1])) (by kernel_rfl) ?_
      refine CW.region (id := 4) (d := false) H4 (by kernel_rfl) mixed 0 [] [] [1, 2, 3] [0, 1] (by kernel_rfl)
        (fun β12 _ => [(1, .pointer (some ⟨(β1 0), 0, none⟩)), (2, .int .u64 0), (3, .bool true)]) (fun β12 _ => [some (.ro noRo), some (.blk (β1 0) [.bool u, .bool c, .int .i64 k, .int .i64 n] 23)]) (fun β12 _ => []) (fun _ _ => [])
        (fun _ _ => by kernel_rfl) (fun _ _ => trivial) ?_
      intro β12 _ w12 H12 _
      refine NQ.then ?_
      refine CW.ret (by kernel_rfl) ?_
      refine NQ.then_ret ?_
      refine NQ.ret H12 [.tmp 2, .tmp 3] (by kernel_rfl) [] [.int .u64 0, .bool true] [] (by kernel_rfl) trivial ?_
      exact ⟨congrArg Ending.returned (by clear H0 H1 H2 H4 H12; first | (simp_all [tupV, hPut]; done) | (have hm : hMay u c k n = true := (by assumption); have hu : u = true := (by assumption); subst hu; have e1 := bits_put hm; have e2 := bits_put64 hm; simp_all [tupV, hPut])), H12.below⟩
  · refine CW.cond_t (o := .tmp 7) (b := (!(hMay u c k n))) (x := (cAt B12 [1, 0, 1, 0])) (y := (cAt B12 [1, 0, 1, 1])) (by kernel_rfl) (by kernel_rfl) (by rw [show (hMay u c k n) = false from h3]; rfl) ?_
    refine CW.seq (x := (cAt B12 [1, 0, 1, 0, 0])) (y := (cAt B12 [1, 0, 1, 0, 1])) (by kernel_rfl) ?_
    refine CW.region (id := 2) (d := false) H2 (by kernel_rfl) mixed 0 [] [] [1, 2, 3] [0, 1] (by kernel_rfl)
      (fun β13 _ => [(1, .pointer (some ⟨(β1 0), 0, none⟩)), (2, .int .u64 0), (3, .bool false)]) (fun β13 _ => [some (.ro noRo), some (.blk (β1 0) [.bool u, .bool c, .int .i64 k, .int .i64 n] 23)]) (fun β13 _ => []) (fun _ _ => [])
      (fun _ _ => by kernel_rfl) (fun _ _ => trivial) ?_
    intro β13 _ w13 H13 _
    refine NQ.then ?_
    refine CW.ret (by kernel_rfl) ?_
    refine NQ.then_ret ?_
    refine NQ.ret H13 [.tmp 2, .tmp 3] (by kernel_rfl) [] [.int .u64 0, .bool false] [] (by kernel_rfl) trivial ?_
    exact ⟨congrArg Ending.returned (by clear H0 H1 H2 H13; first | (simp_all [tupV, hPut]; done) | (have hm : hMay u c k n = true := (by assumption); have hu : u = true := (by assumption); subst hu; have e1 := bits_put hm; have e2 := bits_put64 hm; simp_all [tupV, hPut])), H13.below⟩

theorem gOk_f {w : Int} (h : gOk w = false) : gV w = false := by
  unfold gOk at h
  cases e : gV w with
  | false => rfl
  | true => rw [e] at h; simp at h
theorem gOk_t {w : Int} (hw : inU64 w) (h : gOk w = true) : (w / 128 % 2 == 1) = gV w ∧ (w / 64 % 2 == 1) = gC w ∧ w / 16 % 4 = gK w ∧ w % 16 = gN w := by
  have h0 := hw.1
  unfold gOk at h
  unfold gC gK gN
  cases e : gV w with
  | true =>
    obtain ⟨h1, h2, _⟩ := gV_iff.1 e
    refine ⟨beq_iff_eq.2 (by omega), by simp, by simp, by simp⟩
  | false =>
    rw [e] at h
    have hz : w = 0 := by simpa using h
    subst hz
    exact ⟨rfl, rfl, rfl, rfl⟩

theorem head_Get (w : Int) (hw : inU64 w) : Pure noRo P0 16 #[.int .u64 w] (.tuple #[.agg #[.bool (gV w), .bool (gC w), .int .i64 (gK w), .int .i64 (gN w)], .bool (gOk w)]) := by
  intro w0 hG
  have H0 := Own.begin hG
  refine enter (fn := F16) (c := B16) (n := 36) [(0, .int .u64 w)] (by kernel_rfl) (by kernel_rfl) (by kernel_rfl) (by kernel_rfl) (by kernel_rfl) ?_
  refine CW.seq (x := (cAt B16 [0])) (y := (cAt B16 [1])) (by kernel_rfl) ?_
  refine CW.region (id := 0) (d := false) H0 (by kernel_rfl) mixed 1 [(0, .key 1)] [] [0, 2, 3] [0, 1] (by kernel_rfl)
    (fun β1 _ => [(0, .int .u64 w), (2, .pointer (some ⟨(β1 0), 0, none⟩)), (3, .bool false)]) (fun β1 _ => [some (.ro noRo), some (.blk (β1 0) [.bool false, .bool false, .int .i64 0, .int .i64 0] 23)]) (fun β1 _ => []) (fun _ _ => [])
    (fun _ _ => by kernel_rfl) (fun _ _ => trivial) ?_
  intro β1 _ w1 H1 _
  refine NQ.then ?_
  refine CW.seq (x := (cAt B16 [1, 0])) (y := (cAt B16 [1, 1])) (by kernel_rfl) ?_
  refine CW.region (id := 1) (d := false) H1 (by kernel_rfl) mixed 1 [(15, .key 2), (16, .key 2)] [] [0, 2, 3, 4] [0, 1, 2] (by kernel_rfl)
    (fun β2 _ => [(0, .int .u64 w), (2, .pointer (some ⟨(β1 0), 0, none⟩)), (3, .bool false), (4, .pointer (some ⟨(β2 15), 0, none⟩))]) (fun β2 _ => [some (.ro noRo), some (.blk (β1 0) [.bool false, .bool false, .int .i64 0, .int .i64 0] 23), some (.blk (β2 15) [.bool ((bAnd .u64 w 128) != 0), .bool ((bAnd .u64 w 64) != 0), .int .i64 (iCv .i64 (bAnd .u64 (iShr w 4) 3)), .int .i64 (iCv .i64 (bAnd .u64 (iShr w 0) 15))] 23)]) (fun β2 _ => [(β2 15) = (β2 15)]) (fun _ _ => [])
    (fun _ _ => by kernel_rfl) (fun _ _ => ⟨rfl, trivial⟩) ?_
  intro β2 _ w2 H2 _
  rw [show ((bAnd .u64 w 128) != 0) = (w / 128 % 2 == 1) from get_u hw] at H2
  rw [show ((bAnd .u64 w 64) != 0) = (w / 64 % 2 == 1) from get_c hw] at H2
  rw [show (iCv .i64 (bAnd .u64 (iShr w 4) 3)) = (w / 16 % 4) from get_k hw] at H2
  rw [show (iCv .i64 (bAnd .u64 (iShr w 0) 15)) = (w % 16) from get_n hw] at H2
  refine NQ.then ?_
  refine CW.seq (x := (cAt B16 [1, 1, 0])) (y := (cAt B16 [1, 1, 1])) (by kernel_rfl) ?_
  refine CW.seq (x := (cAt B16 [1, 1, 0, 0])) (y := (cAt B16 [1, 1, 0, 1])) (by kernel_rfl) ?_
  refine CW.region (id := 2) (d := false) H2 (by kernel_rfl) mixed 0 [(0, .key 2), (1, .call 0 (pureRec (.tuple #[.int .u64 (hPut (w / 128 % 2 == 1) (w / 64 % 2 == 1) (w / 16 % 4) (w % 16)), .bool (hMay (w / 128 % 2 == 1) (w / 64 % 2 == 1) (w / 16 % 4) (w % 16))])))] [] [0, 2, 3, 4, 5, 6] [0, 1, 2] (by kernel_rfl)
    (fun β3 _ => [(0, .int .u64 w), (2, .pointer (some ⟨(β1 0), 0, none⟩)), (3, .bool false), (4, .pointer (some ⟨(β2 15), 0, none⟩)), (5, .int .u64 (hPut (w / 128 % 2 == 1) (w / 64 % 2 == 1) (w / 16 % 4) (w % 16))), (6, .bool (hMay (w / 128 % 2 == 1) (w / 64 % 2 == 1) (w / 16 % 4) (w % 16)))]) (fun β3 _ => [some (.ro noRo), some (.blk (β1 0) [.bool false, .bool false, .int .i64 0, .int .i64 0] 23), some (.blk (β2 15) [.bool (w / 128 % 2 == 1), .bool (w / 64 % 2 == 1), .int .i64 (w / 16 % 4), .int .i64 (w % 16)] 23)]) (fun β3 _ => [(β2 15) = (β2 15), CallOb P0 12 #[.agg #[.bool (w / 128 % 2 == 1), .bool (w / 64 % 2 == 1), .int .i64 (w / 16 % 4), .int .i64 (w % 16)]] [some (.ro noRo)] (pureRec (.tuple #[.int .u64 (hPut (w / 128 % 2 == 1) (w / 64 % 2 == 1) (w / 16 % 4) (w % 16)), .bool (hMay (w / 128 % 2 == 1) (w / 64 % 2 == 1) (w / 16 % 4) (w % 16))]))]) (fun _ _ => [True])
    (fun _ _ => by kernel_rfl) (fun _ _ => ⟨rfl, (Pure.ob (head_Put (w / 128 % 2 == 1) (w / 64 % 2 == 1) (w / 16 % 4) (w % 16) (by first | assumption | (unfold in64; omega) | (unfold inU64; omega) | (unfold inU32; omega) | (unfold inU8; omega) | omega | (simp only [in64, inU64, inU32, inU8] at *; omega)) (by first | assumption | (unfold in64; omega) | (unfold inU64; omega) | (unfold inU32; omega) | (unfold inU8; omega) | omega | (simp only [in64, inU64, inU32, inU8] at *; omega)))), trivial⟩) ?_
  intro β3 _ w3 H3 _
  refine NQ.then ?_
  refine CW.seq (x := (cAt B16 [1, 1, 0, 1, 0])) (y := (cAt B16 [1, 1, 0, 1, 1])) (by kernel_rfl) ?_
  rcases Bool.eq_false_or_eq_true (hMay (w / 128 % 2 == 1) (w / 64 % 2 == 1) (w / 16 % 4) (w % 16)) with h4 | h4
  · refine CW.region (id := 3) (d := false) H3 (by kernel_rfl) mixed 0 [(6, .dec false)] [(3, true), (4, true), (5, true)] [0, 2, 3, 4, 33] [0, 1, 2] (by kernel_rfl)
      (fun β5 _ => [(0, .int .u64 w), (2, .pointer (some ⟨(β1 0), 0, none⟩)), (3, .bool false), (4, .pointer (some ⟨(β2 15), 0, none⟩)), (33, .bool ((hPut (w / 128 % 2 == 1) (w / 64 % 2 == 1) (w / 16 % 4) (w % 16)) != w))]) (fun β5 _ => [some (.ro noRo), some (.blk (β1 0) [.bool false, .bool false, .int .i64 0, .int .i64 0] 23), some (.blk (β2 15) [.bool (w / 128 % 2 == 1), .bool (w / 64 % 2 == 1), .int .i64 (w / 16 % 4), .int .i64 (w % 16)] 23)]) (fun β5 _ => [((!(hMay (w / 128 % 2 == 1) (w / 64 % 2 == 1) (w / 16 % 4) (w % 16))) == false) = true, ((!(hMay (w / 128 % 2 == 1) (w / 64 % 2 == 1) (w / 16 % 4) (w % 16))) == false) = true, ((!(hMay (w / 128 % 2 == 1) (w / 64 % 2 == 1) (w / 16 % 4) (w % 16))) == false) = true, (!(hMay (w / 128 % 2 == 1) (w / 64 % 2 == 1) (w / 16 % 4) (w % 16))) = false]) (fun _ _ => [])
      (fun _ _ => by kernel_rfl) (fun _ _ => ⟨(by rw [show (!(hMay (w / 128 % 2 == 1) (w / 64 % 2 == 1) (w / 16 % 4) (w % 16))) = false from (by rw [show (hMay (w / 128 % 2 == 1) (w / 64 % 2 == 1) (w / 16 % 4) (w % 16)) = true from h4]; rfl)]; rfl), (by rw [show (!(hMay (w / 128 % 2 == 1) (w / 64 % 2 == 1) (w / 16 % 4) (w % 16))) = false from (by rw [show (hMay (w / 128 % 2 == 1) (w / 64 % 2 == 1) (w / 16 % 4) (w % 16)) = true from h4]; rfl)]; rfl), (by rw [show (!(hMay (w / 128 % 2 == 1) (w / 64 % 2 == 1) (w / 16 % 4) (w % 16))) = false from (by rw [show (hMay (w / 128 % 2 == 1) (w / 64 % 2 == 1) (w / 16 % 4) (w % 16)) = true from h4]; rfl)]; rfl), (by rw [show (hMay (w / 128 % 2 == 1) (w / 64 % 2 == 1) (w / 16 % 4) (w % 16)) = true from h4]; rfl), trivial⟩) ?_
    intro β5 _ w5 H5 _
    refine NQ.then ?_
    rcases Bool.eq_false_or_eq_true ((hPut (w / 128 % 2 == 1) (w / 64 % 2 == 1) (w / 16 % 4) (w % 16)) != w) with h6 | h6
    · have p6 := bne_iff_ne.1 h6
      refine CW.cond_t (o := .tmp 33) (b := ((hPut (w / 128 % 2 == 1) (w / 64 % 2 == 1) (w / 16 % 4) (w % 16)) != w)) (x := (cAt B16 [1, 1, 0, 1, 1, 0])) (y := (cAt B16 [1, 1, 0, 1, 1, 1])) (by kernel_rfl) (by kernel_rfl) h6 ?_
      refine CW.seq (x := (cAt B16 [1, 1, 0, 1, 1, 0, 0])) (y := (cAt B16 [1, 1, 0, 1, 1, 0, 1])) (by kernel_rfl) ?_
      refine CW.region (id := 4) (d := false) H5 (by kernel_rfl) mixed 0 [(1, .key 1)] [] [0, 2, 3, 4] [0, 1, 2] (by kernel_rfl)
        (fun β7 _ => [(0, .int .u64 w), (2, .pointer (some ⟨(β1 0), 0, none⟩)), (3, .bool false), (4, .pointer (some ⟨(β2 15), 0, none⟩))]) (fun β7 _ => [some (.ro noRo), some (.blk (β1 0) [.bool false, .bool false, .int .i64 0, .int .i64 0] 23), some (.blk (β2 15) [.bool (w / 128 % 2 == 1), .bool (w / 64 % 2 == 1), .int .i64 (w / 16 % 4), .int .i64 (w % 16)] 23)]) (fun β7 _ => [(β1 0) = (β1 0)]) (fun _ _ => [])
        (fun _ _ => by kernel_rfl) (fun _ _ => ⟨rfl, trivial⟩) ?_
      intro β7 _ w7 H7 _
      refine NQ.then ?_
      refine CW.ret (by kernel_rfl) ?_
      refine NQ.then_ret ?_
      refine NQ.ret H7 [.cell 2 23, .tmp 3] (by kernel_rfl) [1] [.agg #[.bool false, .bool false, .int .i64 0, .int .i64 0], .bool false] [(β1 0) = (β1 0)] (by kernel_rfl) ⟨rfl, trivial⟩ ?_
      exact ⟨congrArg Ending.returned (by clear H0 H1 H2 H3 H5 H7; (have hb := get_back hw; cases hk : gOk w with | true => (obtain ⟨e1, e2, e3, e4⟩ := gOk_t hw hk; have hb2 := hb.2 hk; rw [← e1, ← e2, ← e3, ← e4]; simp_all [tupV]) | false => (have hv := gOk_f hk; simp_all [tupV, gC, gK, gN]))), H7.below⟩
    · have p6 := bne_eq_false_iff_eq.1 h6
      refine CW.cond_f (o := .tmp 33) (b := ((hPut (w / 128 % 2 == 1) (w / 64 % 2 == 1) (w / 16 % 4) (w % 16)) != w)) (x := (cAt B16 [1, 1, 0, 1, 1, 0])) (y := (cAt B16 [1, 1, 0, 1, 1, 1])) (by kernel_rfl) (by kernel_rfl) h6 ?_
      refine CW.skip (by kernel_rfl) ?_
      refine NQ.then ?_
      refine CW.seq (x := (cAt B16 [1, 1, 1, 0])) (y := (cAt B16 [1, 1, 1, 1])) (by kernel_rfl) ?_
      refine CW.region (id := 5) (d := false) H5 (by kernel_rfl) mixed 0 [(0, .key 2), (1, .key 1)] [] [0, 2, 3, 4] [0, 1, 2] (by kernel_rfl)
        (fun β8 _ => [(0, .int .u64 w), (2, .pointer (some ⟨(β1 0), 0, none⟩)), (3, .bool true), (4, .pointer (some ⟨(β2 15), 0, none⟩))]) (fun β8 _ => [some (.ro noRo), some (.blk (β1 0) [.bool (w / 128 % 2 == 1), .bool (w / 64 % 2 == 1), .int .i64 (w / 16 % 4), .int .i64 (w % 16)] 23), some (.blk (β2 15) [.bool (w / 128 % 2 == 1), .bool (w / 64 % 2 == 1), .int .i64 (w / 16 % 4), .int .i64 (w % 16)] 23)]) (fun β8 _ => [(β2 15) = (β2 15), (β1 0) = (β1 0)]) (fun _ _ => [])
        (fun _ _ => by kernel_rfl) (fun _ _ => ⟨rfl, rfl, trivial⟩) ?_
      intro β8 _ w8 H8 _
      refine NQ.then ?_
      refine CW.ret (by kernel_rfl) ?_
      refine NQ.ret H8 [.cell 2 23, .tmp 3] (by kernel_rfl) [1] [.agg #[.bool (w / 128 % 2 == 1), .bool (w / 64 % 2 == 1), .int .i64 (w / 16 % 4), .int .i64 (w % 16)], .bool true] [(β1 0) = (β1 0)] (by kernel_rfl) ⟨rfl, trivial⟩ ?_
      exact ⟨congrArg Ending.returned (by clear H0 H1 H2 H3 H5 H8; (have hb := get_back hw; cases hk : gOk w with | true => (obtain ⟨e1, e2, e3, e4⟩ := gOk_t hw hk; have hb2 := hb.2 hk; rw [← e1, ← e2, ← e3, ← e4]; simp_all [tupV]) | false => (have hv := gOk_f hk; simp_all [tupV, gC, gK, gN]))), H8.below⟩
  · refine CW.region (id := 3) (d := false) H3 (by kernel_rfl) mixed 0 [(6, .dec true)] [(3, false), (4, false), (5, false)] [0, 2, 3, 4, 33] [0, 1, 2] (by kernel_rfl)
      (fun β9 _ => [(0, .int .u64 w), (2, .pointer (some ⟨(β1 0), 0, none⟩)), (3, .bool false), (4, .pointer (some ⟨(β2 15), 0, none⟩)), (33, .bool true)]) (fun β9 _ => [some (.ro noRo), some (.blk (β1 0) [.bool false, .bool false, .int .i64 0, .int .i64 0] 23), some (.blk (β2 15) [.bool (w / 128 % 2 == 1), .bool (w / 64 % 2 == 1), .int .i64 (w / 16 % 4), .int .i64 (w % 16)] 23)]) (fun β9 _ => [((!(hMay (w / 128 % 2 == 1) (w / 64 % 2 == 1) (w / 16 % 4) (w % 16))) == false) = false, ((!(hMay (w / 128 % 2 == 1) (w / 64 % 2 == 1) (w / 16 % 4) (w % 16))) == false) = false, ((!(hMay (w / 128 % 2 == 1) (w / 64 % 2 == 1) (w / 16 % 4) (w % 16))) == false) = false, (!(hMay (w / 128 % 2 == 1) (w / 64 % 2 == 1) (w / 16 % 4) (w % 16))) = true]) (fun _ _ => [])
      (fun _ _ => by kernel_rfl) (fun _ _ => ⟨(by rw [show (!(hMay (w / 128 % 2 == 1) (w / 64 % 2 == 1) (w / 16 % 4) (w % 16))) = true from (by rw [show (hMay (w / 128 % 2 == 1) (w / 64 % 2 == 1) (w / 16 % 4) (w % 16)) = false from h4]; rfl)]; rfl), (by rw [show (!(hMay (w / 128 % 2 == 1) (w / 64 % 2 == 1) (w / 16 % 4) (w % 16))) = true from (by rw [show (hMay (w / 128 % 2 == 1) (w / 64 % 2 == 1) (w / 16 % 4) (w % 16)) = false from h4]; rfl)]; rfl), (by rw [show (!(hMay (w / 128 % 2 == 1) (w / 64 % 2 == 1) (w / 16 % 4) (w % 16))) = true from (by rw [show (hMay (w / 128 % 2 == 1) (w / 64 % 2 == 1) (w / 16 % 4) (w % 16)) = false from h4]; rfl)]; rfl), (by rw [show (hMay (w / 128 % 2 == 1) (w / 64 % 2 == 1) (w / 16 % 4) (w % 16)) = false from h4]; rfl), trivial⟩) ?_
    intro β9 _ w9 H9 _
    refine NQ.then ?_
    refine CW.cond_t (o := .tmp 33) (b := true) (x := (cAt B16 [1, 1, 0, 1, 1, 0])) (y := (cAt B16 [1, 1, 0, 1, 1, 1])) (by kernel_rfl) (by kernel_rfl) rfl ?_
    refine CW.seq (x := (cAt B16 [1, 1, 0, 1, 1, 0, 0])) (y := (cAt B16 [1, 1, 0, 1, 1, 0, 1])) (by kernel_rfl) ?_
    refine CW.region (id := 4) (d := false) H9 (by kernel_rfl) mixed 0 [(1, .key 1)] [] [0, 2, 3, 4] [0, 1, 2] (by kernel_rfl)
      (fun β10 _ => [(0, .int .u64 w), (2, .pointer (some ⟨(β1 0), 0, none⟩)), (3, .bool false), (4, .pointer (some ⟨(β2 15), 0, none⟩))]) (fun β10 _ => [some (.ro noRo), some (.blk (β1 0) [.bool false, .bool false, .int .i64 0, .int .i64 0] 23), some (.blk (β2 15) [.bool (w / 128 % 2 == 1), .bool (w / 64 % 2 == 1), .int .i64 (w / 16 % 4), .int .i64 (w % 16)] 23)]) (fun β10 _ => [(β1 0) = (β1 0)]) (fun _ _ => [])
      (fun _ _ => by kernel_rfl) (fun _ _ => ⟨rfl, trivial⟩) ?_
    intro β10 _ w10 H10 _
    refine NQ.then ?_
    refine CW.ret (by kernel_rfl) ?_
    refine NQ.then_ret ?_
    refine NQ.ret H10 [.cell 2 23, .tmp 3] (by kernel_rfl) [1] [.agg #[.bool false, .bool false, .int .i64 0, .int .i64 0], .bool false] [(β1 0) = (β1 0)] (by kernel_rfl) ⟨rfl, trivial⟩ ?_
    exact ⟨congrArg Ending.returned (by clear H0 H1 H2 H3 H9 H10; (have hb := get_back hw; cases hk : gOk w with | true => (obtain ⟨e1, e2, e3, e4⟩ := gOk_t hw hk; have hb2 := hb.2 hk; rw [← e1, ← e2, ← e3, ← e4]; simp_all [tupV]) | false => (have hv := gOk_f hk; simp_all [tupV, gC, gK, gN]))), H10.below⟩
end Go.Proofs.Ytnpbnkfmajokfaa.Fl
