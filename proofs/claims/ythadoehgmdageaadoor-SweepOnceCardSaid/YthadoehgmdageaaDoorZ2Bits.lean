/- Masks of 32 bits as numbers: bits, the least one, how many. Plain lemmas; conditions: in each. -/
import Derived.Test.YthadoehgmdageaaDoorZ2Num2
import Derived.Test.YthadoehgmdageaaDoorZ2Lists
import Derived.Test.YthadoehgmdageaaDoorZ2Vec
import Derived.Lib.Tables
set_option linter.unusedVariables false
set_option linter.unusedSimpArgs false
namespace Go.Proofs.YthadoehgmdageaaDoor.Fl
/-- The least number of a mask (32: none). -/
def leastFrom (m : Nat) : Nat → Nat → Nat
  | 0, i => i
  | f + 1, i => if m.testBit i = true then i else leastFrom m f (i + 1)
def leastN (m : Nat) : Nat := leastFrom m 32 0
theorem leastFrom_spec (m : Nat) : ∀ (f i : Nat), (leastFrom m f i < i + f → m.testBit (leastFrom m f i) = true) ∧ i ≤ leastFrom m f i ∧ leastFrom m f i ≤ i + f ∧ ∀ j, i ≤ j → j < leastFrom m f i → m.testBit j = false
  | 0, i => ⟨fun h => absurd h (by simp [leastFrom]), by simp [leastFrom], by simp [leastFrom], fun j h1 h2 => by simp [leastFrom] at h2; omega⟩
  | f + 1, i => by
    unfold leastFrom
    by_cases hb : m.testBit i = true
    · rw [if_pos hb]; exact ⟨fun _ => hb, Nat.le_refl _, by omega, fun j h1 h2 => by omega⟩
    · rw [if_neg hb]
      obtain ⟨h1, h2, h3, h4⟩ := leastFrom_spec m f (i + 1)
      refine ⟨fun h => h1 (by omega), by omega, by omega, fun j hj1 hj2 => ?_⟩
      by_cases e : j = i
      · subst e; simpa using hb
      · exact h4 j (by omega) hj2
theorem leastN_none {m : Nat} (hm : m < 2 ^ 32) (h : leastN m = 32) : m = 0 := by
  apply Nat.eq_of_testBit_eq
  intro i
  rw [Nat.zero_testBit]
  by_cases hi : i < 32
  · exact (leastFrom_spec m 32 0).2.2.2 i (Nat.zero_le _) (by unfold leastN at h; omega)
  · exact Nat.testBit_lt_two_pow (Nat.lt_of_lt_of_le hm (Nat.pow_le_pow_right (by decide) (by omega)))
theorem leastN_spec {m : Nat} (hm : m < 2 ^ 32) (h0 : m ≠ 0) : leastN m < 32 ∧ m.testBit (leastN m) = true ∧ ∀ j, j < leastN m → m.testBit j = false := by
  obtain ⟨h1, _, h3, h4⟩ := leastFrom_spec m 32 0
  have hl : leastN m < 32 := by
    have : leastN m ≠ 32 := fun e => h0 (leastN_none hm e)
    have h3' : leastN m ≤ 0 + 32 := h3
    omega
  exact ⟨hl, h1 (show leastN m < 0 + 32 by omega), fun j hj => h4 j (Nat.zero_le _) hj⟩
/-- How many numbers a mask has below one. -/
def countTo (m : Nat) : Nat → Nat
  | 0 => 0
  | i + 1 => countTo m i + if m.testBit i = true then 1 else 0
def popN (m : Nat) : Nat := countTo m 32
theorem countTo_le (m n : Nat) : countTo m n ≤ n := by
  induction n with
  | zero => exact Nat.le_refl _
  | succ n ih => unfold countTo; split <;> omega
theorem bits_u32 {x : Nat} (hx : x < 4294967296) : (BitVec.ofInt 32 ((x : Nat) : Int)).toNat = x := by
  rw [BitVec.toNat_ofInt]; show ((x : Int) % (4294967296 : Int)).toNat = x; omega
theorem wrap_u32n {x : Nat} (hx : x < 4294967296) : IntKind.u32.wrap ((x : Nat) : Int) = ((x : Nat) : Int) := cv_u32 ⟨by omega, by omega⟩
theorem bAnd_nat {x y : Nat} (hx : x < 4294967296) (hy : y < 4294967296) : bAnd .u32 ((x : Nat) : Int) ((y : Nat) : Int) = ((x &&& y : Nat) : Int) := by
  show IntKind.u32.wrap (((BitVec.ofInt 32 ((x : Nat) : Int) &&& BitVec.ofInt 32 ((y : Nat) : Int)).toNat : Nat) : Int) = _
  rw [BitVec.toNat_and, bits_u32 hx, bits_u32 hy]
  exact wrap_u32n (Nat.lt_of_le_of_lt Nat.and_le_left hx)
theorem or_lt {x y : Nat} (hx : x < 4294967296) (hy : y < 4294967296) : x ||| y < 4294967296 := Nat.or_lt_two_pow (n := 32) hx hy
theorem bOr_nat {x y : Nat} (hx : x < 4294967296) (hy : y < 4294967296) : bOr .u32 ((x : Nat) : Int) ((y : Nat) : Int) = ((x ||| y : Nat) : Int) := by
  show IntKind.u32.wrap (((BitVec.ofInt 32 ((x : Nat) : Int) ||| BitVec.ofInt 32 ((y : Nat) : Int)).toNat : Nat) : Int) = _
  rw [BitVec.toNat_or, bits_u32 hx, bits_u32 hy]
  exact wrap_u32n (or_lt hx hy)
theorem bAndNot_nat {x y : Nat} (hx : x < 4294967296) (hy : y < 4294967296) : bAndNot .u32 ((x : Nat) : Int) ((y : Nat) : Int) = ((x &&& (4294967295 - y) : Nat) : Int) := by
  show IntKind.u32.wrap (((BitVec.ofInt 32 ((x : Nat) : Int) &&& ~~~BitVec.ofInt 32 ((y : Nat) : Int)).toNat : Nat) : Int) = _
  rw [BitVec.toNat_and, BitVec.toNat_not, bits_u32 hx, bits_u32 hy]
  rw [show 2 ^ 32 - 1 - y = 4294967295 - y from rfl]
  exact wrap_u32n (Nat.lt_of_le_of_lt Nat.and_le_left hx)
/-- A number's bit. -/
def oneI (n : Int) : Int := if 0 ≤ n ∧ n < 32 then ((2 ^ n.toNat : Nat) : Int) else 0
theorem shl_all : ∀ k : Nat, k < 32 → iShl .u32 1 (min k 32) = ((2 ^ k : Nat) : Int) := by decide
theorem one_in {n : Int} (h0 : ¬ n < 0) (h1 : ¬ n ≥ 32) : iShl .u32 1 (min (Int.toNat n) 32) = oneI n := by
  unfold oneI; rw [if_pos ⟨by omega, by omega⟩]; exact shl_all _ (by omega)
theorem one_out {n : Int} (h : n < 0 ∨ n ≥ 32) : oneI n = 0 := by unfold oneI; rw [if_neg (by omega)]
theorem pow_lt32 {k : Nat} (h : k < 32) : 2 ^ k < 4294967296 := Nat.pow_lt_pow_right (by decide) (n := 32) h
theorem in_u32n {x : Nat} (h : x < 4294967296) : inU32 ((x : Nat) : Int) := ⟨by omega, by omega⟩
theorem one_u32 (n : Int) : inU32 (oneI n) := by
  unfold oneI; split
  · rename_i h; exact in_u32n (pow_lt32 (k := n.toNat) (by omega))
  · exact ⟨by decide, by decide⟩
theorem one_bit {n : Int} {i : Nat} : (oneI n).toNat.testBit i = (decide (0 ≤ n ∧ n < 32) && decide (n.toNat = i)) := by
  unfold oneI; split
  · rename_i h; rw [decide_eq_true h, Bool.true_and, Int.toNat_natCast, Nat.testBit_two_pow]
  · rename_i h; rw [decide_eq_false h]; exact Nat.zero_testBit i
/-- Whether a mask has a number. -/
def hasB (m n : Int) : Bool := decide (0 ≤ n ∧ n < 32) && m.toNat.testBit n.toNat
def withI (m n : Int) : Int := ((m.toNat ||| (oneI n).toNat : Nat) : Int)
def withoutI (m n : Int) : Int := ((m.toNat &&& (4294967295 - (oneI n).toNat) : Nat) : Int)
theorem u32_nat {m : Int} (h : inU32 m) : m = ((m.toNat : Nat) : Int) ∧ m.toNat < 4294967296 := by have h0 := h.1; have h1 := h.2; omega
theorem with_eq {m n : Int} (h : inU32 m) : bOr .u32 m (oneI n) = withI m n := by
  obtain ⟨e, l⟩ := u32_nat h; obtain ⟨e2, l2⟩ := u32_nat (one_u32 n)
  rw [e, e2, bOr_nat l l2]; rfl
theorem has_eq {m n : Int} (h : inU32 m) : (!(bAnd .u32 m (oneI n) == 0)) = hasB m n := by
  obtain ⟨e, l⟩ := u32_nat h; obtain ⟨e2, l2⟩ := u32_nat (one_u32 n)
  rw [e, e2, bAnd_nat l l2]
  unfold hasB
  rw [Int.toNat_natCast]
  have key : m.toNat &&& (oneI n).toNat = if decide (0 ≤ n ∧ n < 32) && m.toNat.testBit n.toNat then (oneI n).toNat else 0 := by
    apply Nat.eq_of_testBit_eq
    intro i
    rw [Nat.testBit_and]
    cases hc : (decide (0 ≤ n ∧ n < 32) && m.toNat.testBit n.toNat)
    · rw [if_neg (by decide), Nat.zero_testBit, one_bit]
      by_cases hi : n.toNat = i
      · subst hi; rw [show decide (n.toNat = n.toNat) = true from decide_eq_true rfl, Bool.and_true, Bool.and_comm]; exact hc
      · rw [decide_eq_false hi]; simp
    · rw [if_pos rfl, one_bit]
      by_cases hi : n.toNat = i
      · subst hi; rw [show decide (n.toNat = n.toNat) = true from decide_eq_true rfl, (Bool.and_eq_true_iff.1 hc).2, Bool.true_and]
      · rw [decide_eq_false hi]; simp
  rw [key]
  cases hc : (decide (0 ≤ n ∧ n < 32) && m.toNat.testBit n.toNat)
  · rfl
  · have h32 : 0 ≤ n ∧ n < 32 := by simp at hc; exact hc.1
    rw [if_pos rfl]; unfold oneI; rw [if_pos h32, Int.toNat_natCast]
    have hne : ((2 ^ n.toNat : Nat) : Int) ≠ 0 := fun e => absurd (Int.natCast_eq_zero.1 e) (Nat.pos_iff_ne_zero.1 (Nat.two_pow_pos n.toNat))
    simp only [beq_eq_false_iff_ne.2 hne]; rfl
theorem with_u32 (m n : Int) (h : inU32 m) : inU32 (withI m n) := in_u32n (or_lt (u32_nat h).2 (u32_nat (one_u32 n)).2)
theorem without_u32 (m n : Int) (h : inU32 m) : inU32 (withoutI m n) := in_u32n (Nat.lt_of_le_of_lt Nat.and_le_left (u32_nat h).2)
theorem with_bit (m n : Int) (i : Nat) : (withI m n).toNat.testBit i = (m.toNat.testBit i || (decide (0 ≤ n ∧ n < 32) && decide (n.toNat = i))) := by
  unfold withI; rw [Int.toNat_natCast, Nat.testBit_or, one_bit]
theorem pow32 {i : Nat} (h : 32 ≤ i) : 4294967296 ≤ 2 ^ i := Nat.le_trans (by decide : 4294967296 ≤ 2 ^ 32) (Nat.pow_le_pow_right (by decide) h)
theorem high_bit {m : Nat} (h : m < 4294967296) {i : Nat} (hi : 32 ≤ i) : m.testBit i = false := Nat.testBit_lt_two_pow (Nat.lt_of_lt_of_le h (pow32 hi))
theorem without_bit (m n : Int) (h : inU32 m) (i : Nat) : (withoutI m n).toNat.testBit i = (m.toNat.testBit i && !(decide (0 ≤ n ∧ n < 32) && decide (n.toNat = i))) := by
  unfold withoutI
  have l2 := (u32_nat (one_u32 n)).2
  rw [Int.toNat_natCast, Nat.testBit_and, show 4294967295 - (oneI n).toNat = 2 ^ 32 - ((oneI n).toNat + 1) by omega, Nat.testBit_two_pow_sub_succ (show (oneI n).toNat < 2 ^ 32 from l2), one_bit]
  by_cases hi : i < 32
  · rw [decide_eq_true hi, Bool.true_and]
  · rw [high_bit (u32_nat h).2 (by omega), Bool.false_and, Bool.false_and]
theorem mask_ext {x y : Nat} (hx : x < 4294967296) (hy : y < 4294967296) (h : ∀ i, i < 32 → x.testBit i = y.testBit i) : x = y := by
  apply Nat.eq_of_testBit_eq
  intro i
  by_cases hi : i < 32
  · exact h i hi
  · rw [high_bit hx (by omega), high_bit hy (by omega)]
theorem hasB_nat (m : Int) {k : Nat} (h : k < 32) : hasB m ((k : Nat) : Int) = m.toNat.testBit k := by
  unfold hasB; rw [decide_eq_true (by omega), Bool.true_and, Int.toNat_natCast]
def ofN : List Bool → Nat
  | [] => 0
  | b :: r => 2 * ofN r + (if b = true then 1 else 0)
theorem ofN_bit : ∀ (l : List Bool) (i : Nat), (ofN l).testBit i = l.getD i false
  | [], i => by simp [ofN]
  | b :: r, 0 => by unfold ofN; rw [Nat.testBit_zero]; cases b <;> simp <;> omega
  | b :: r, i + 1 => by
    unfold ofN
    rw [Nat.testBit_succ, show (2 * ofN r + (if b = true then 1 else 0)) / 2 = ofN r by split <;> omega, ofN_bit r i]; simp
theorem ofN_lt (l : List Bool) : ofN l < 2 ^ l.length := by
  induction l with
  | nil => decide
  | cons b r ih => rw [List.length_cons, Nat.pow_succ]; unfold ofN; split <;> omega
theorem ofN_drop {l : List Bool} {s : Nat} (h : s < l.length) : ofN (l.drop s) = 2 * ofN (l.drop (s + 1)) + (if l.getD s false = true then 1 else 0) := by
  rw [List.drop_eq_getElem_cons h, show l.getD s false = l[s] by simp [List.getD, h]]; rfl
def fillTo (f : Nat → Bool) (s : Nat) : List Bool := (List.range s).map f ++ List.replicate (32 - s) false
theorem fill_len (f : Nat → Bool) {s : Nat} (h : s ≤ 32) : (fillTo f s).length = 32 := by unfold fillTo; simp; omega
theorem fill_get (f : Nat → Bool) (s j : Nat) : (fillTo f s).getD j false = (decide (j < s) && f j) := by
  unfold fillTo
  by_cases h : j < s
  · rw [decide_eq_true h, Bool.true_and]; simp [List.getD, List.getElem?_append, h]
  · rw [decide_eq_false h, Bool.false_and]; simp only [List.getD, List.getElem?_append, List.length_map, List.length_range, if_neg h, List.getElem?_replicate]; split <;> rfl
theorem fill_set (f : Nat → Bool) {s : Nat} (h : s < 32) : (fillTo f s).set s (f s) = fillTo f (s + 1) := by
  unfold fillTo
  rw [List.set_append_right _ _ (by simp)]
  simp only [List.length_map, List.length_range, Nat.sub_self]
  obtain ⟨k, hk⟩ : ∃ k, 32 - s = k + 1 := ⟨31 - s, by omega⟩
  rw [hk, show 32 - (s + 1) = k by omega, List.replicate_succ, List.set_cons_zero, List.range_succ, List.map_append]
  simp
def hasF (m : Int) (i : Nat) : Bool := hasB m ((i : Nat) : Int)
def ltF (n : Int) (i : Nat) : Bool := decide (((i : Nat) : Int) < n)
theorem hasF_set (m : Int) {s : Nat} (h : s < 32) : (fillTo (hasF m) s).set s (hasB m ((s : Nat) : Int)) = fillTo (hasF m) (s + 1) := fill_set (hasF m) h
theorem ltF_set (n : Int) {s : Nat} (h : s < 32) : (fillTo (ltF n) s).set s (decide (((s : Nat) : Int) < n)) = fillTo (ltF n) (s + 1) := fill_set (ltF n) h
theorem ofN_lt32 {l : List Bool} (h : l.length = 32) : ofN l < 4294967296 := by have := ofN_lt l; rw [h] at this; exact this
theorem turn_same {m n : Int} (h : inU32 m) (ho : n < 0 ∨ 32 ≤ n) {s : Nat} (h1 : s ≤ 32) (h2 : ¬ ((s : Nat) : Int) < 32) : ((ofN (fillTo (hasF m) s) : Nat) : Int) = m := by
  obtain rfl : s = 32 := by omega
  have e := u32_nat h
  conv => rhs; rw [e.1]
  refine congrArg (fun x : Nat => ((x : Nat) : Int)) (mask_ext (ofN_lt32 (fill_len _ (by omega))) e.2 fun i hi => ?_)
  rw [ofN_bit, fill_get, decide_eq_true hi, Bool.true_and]; exact hasB_nat m hi
theorem turn_bit {m : Int} {k : Nat} (hk : k < 32) (b : Bool) {i : Nat} (hi : i < 32) : (ofN ((fillTo (hasF m) 32).set k b)).testBit i = if k = i then b else m.toNat.testBit i := by
  rw [ofN_bit]
  by_cases e : k = i
  · subst e; rw [if_pos rfl]; simp [List.getD, List.getElem?_set, fill_len (hasF m) (Nat.le_refl 32), hk]
  · rw [if_neg e]
    have := fill_get (hasF m) 32 i
    rw [decide_eq_true hi, Bool.true_and] at this
    rw [show ((fillTo (hasF m) 32).set k b).getD i false = (fillTo (hasF m) 32).getD i false by simp [List.getD, List.getElem?_set, e], this]
    exact hasB_nat m hi
theorem turn_len (m : Int) (k : Nat) (b : Bool) : ((fillTo (hasF m) 32).set k b).length = 32 := by rw [List.length_set]; exact fill_len _ (Nat.le_refl _)
theorem turn_with {m n : Int} (h : inU32 m) (h0 : 0 ≤ n) (h1 : n < 32) {s : Nat} (hs : s ≤ 32) (h2 : ¬ ((s : Nat) : Int) < 32) : ((ofN ((fillTo (hasF m) s).set (Int.toNat n) true) : Nat) : Int) = withI m n := by
  obtain rfl : s = 32 := by omega
  rw [(u32_nat (with_u32 m n h)).1]
  refine congrArg (fun x : Nat => ((x : Nat) : Int)) (mask_ext (ofN_lt32 (turn_len _ _ _)) (u32_nat (with_u32 m n h)).2 fun i hi => ?_)
  rw [turn_bit (by omega) true hi, with_bit, decide_eq_true (show 0 ≤ n ∧ n < 32 from ⟨h0, h1⟩), Bool.true_and]
  by_cases e : n.toNat = i
  · rw [if_pos e, decide_eq_true e, Bool.or_true]
  · rw [if_neg e, decide_eq_false e, Bool.or_false]
theorem turn_without {m n : Int} (h : inU32 m) (h0 : 0 ≤ n) (h1 : n < 32) {s : Nat} (hs : s ≤ 32) (h2 : ¬ ((s : Nat) : Int) < 32) : ((ofN ((fillTo (hasF m) s).set (Int.toNat n) false) : Nat) : Int) = withoutI m n := by
  obtain rfl : s = 32 := by omega
  rw [(u32_nat (without_u32 m n h)).1]
  refine congrArg (fun x : Nat => ((x : Nat) : Int)) (mask_ext (ofN_lt32 (turn_len _ _ _)) (u32_nat (without_u32 m n h)).2 fun i hi => ?_)
  rw [turn_bit (by omega) false hi, without_bit m n h, decide_eq_true (show 0 ≤ n ∧ n < 32 from ⟨h0, h1⟩), Bool.true_and]
  by_cases e : n.toNat = i
  · rw [if_pos e, decide_eq_true e]; simp
  · rw [if_neg e, decide_eq_false e]; simp
theorem with_out {m n : Int} (h : inU32 m) (ho : n < 0 ∨ 32 ≤ n) : withI m n = m := by
  unfold withI; rw [one_out (by omega)]; have h0 := h.1; simp; omega
theorem without_out {m n : Int} (h : inU32 m) (ho : n < 0 ∨ 32 ≤ n) : withoutI m n = m := by
  rw [(u32_nat (without_u32 m n h)).1]
  conv => rhs; rw [(u32_nat h).1]
  refine congrArg (fun x : Nat => ((x : Nat) : Int)) (mask_ext (u32_nat (without_u32 m n h)).2 (u32_nat h).2 fun i hi => ?_)
  rw [without_bit m n h, decide_eq_false (by omega)]; simp
def turnI (m n : Int) (b : Bool) : Int := if b = true then withI m n else withoutI m n
theorem turn_in {m n : Int} {b : Bool} (h : inU32 m) (h0 : 0 ≤ n) (h1 : n < 32) {s : Nat} (hs : s ≤ 32) (h2 : ¬ ((s : Nat) : Int) < 32) : ((ofN ((fillTo (hasF m) s).set (Int.toNat n) b) : Nat) : Int) = turnI m n b := by
  cases b
  · exact turn_without h h0 h1 hs h2
  · exact turn_with h h0 h1 hs h2
theorem turn_out {m n : Int} {b : Bool} (h : inU32 m) (ho : ¬ 0 ≤ n ∨ ¬ n < 32) {s : Nat} (hs : s ≤ 32) (h2 : ¬ ((s : Nat) : Int) < 32) : ((ofN (fillTo (hasF m) s) : Nat) : Int) = turnI m n b := by
  rw [turn_same h (n := n) (by omega) hs h2]
  cases b
  · exact (without_out h (by omega)).symm
  · exact (with_out h (by omega)).symm
end Go.Proofs.YthadoehgmdageaaDoor.Fl
