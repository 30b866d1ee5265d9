/- Contracts of package span. Conditions: each in its premises. -/
import Derived.Test.YtgkidiokipcafaaDoorSpR
set_option linter.unusedVariables false
set_option linter.unusedSimpArgs false
namespace Go.Proofs.YtgkidiokipcafaaDoor.Fl
open Go.RowKit

/-! ### Spans: (state, class, free) -/
def inU (s : Int) : Bool := (s == 1) || (s == 2)
def whl (c : Int) : Int := wholeI (cBlocks c)
def spR (s c f : Int) : Bool := if s = 0 then (c == 0) && (f == 0) else inU s && (isC c && (bAndNot .u32 f (whl c) == 0))
def nwS (c : Int) : Int := if isC c = true then 1 else 0
def nwC (c : Int) : Int := if isC c = true then c else 0
def nwF (c : Int) : Int := if isC c = true then whl c else 0
def tkOk (s f : Int) : Bool := (s == 1) && !(f == 0)
def tkF (s f : Int) : Int := if tkOk s f = true then withoutI f (lstI f) else f
def tkI (s f : Int) : Int := if tkOk s f = true then lstI f else 0
def gvOk (s c f i : Int) : Bool := inU s && (decide (0 ≤ i ∧ i < cBlocks c) && !(hasB f i))
def gvF (s c f i : Int) : Int := if gvOk s c f i = true then withI f i else f
def fuB (s f : Int) : Bool := inU s && (f == 0)
def emB (s c f : Int) : Bool := inU s && (f == whl c)
def usI (s c f : Int) : Int := if inU s = true then cBlocks c - ((popN f.toNat : Nat) : Int) else 0
theorem blocks_range (c : Int) : 0 ≤ cBlocks c ∧ cBlocks c ≤ 16 := by unfold cBlocks; (repeat' split) <;> omega
theorem blocks_isC (c : Int) : decide (cBlocks c > 0) = isC c := by
  cases e : isC c with
  | true => rcases isC_cases e with rfl | rfl | rfl | rfl <;> decide
  | false => rw [(isC_no e).2.1]; rfl
theorem blocks_zero (c : Int) : (cBlocks c == 0) = !(isC c) := by
  cases e : isC c with
  | true => rcases isC_cases e with rfl | rfl | rfl | rfl <;> decide
  | false => rw [(isC_no e).2.1]; rfl
theorem whole_u32 (n : Int) : inU32 (wholeI n) := by
  unfold wholeI; split
  · exact ⟨by decide, by decide⟩
  · split
    · exact ⟨by decide, by decide⟩
    · exact in_u32n (by have := Nat.pow_le_pow_right (n := 2) (by decide) (show n.toNat ≤ 32 by omega); omega)
theorem whl_u32 (c : Int) : inU32 (whl c) := whole_u32 _
theorem whole_bit {n : Int} (hn : n ≤ 32) (i : Nat) : (wholeI n).toNat.testBit i = decide (((i : Nat) : Int) < n) := by
  unfold wholeI
  by_cases h : n ≥ 32
  · obtain rfl : n = 32 := by omega
    rw [if_pos (by omega), show (4294967295 : Int).toNat = 2 ^ 32 - 1 from rfl, Nat.testBit_two_pow_sub_one]
    by_cases e : i < 32
    · rw [decide_eq_true e, decide_eq_true (by omega)]
    · rw [decide_eq_false e, decide_eq_false (by omega)]
  · rw [if_neg h]
    by_cases h0 : n ≤ 0
    · rw [if_pos h0, decide_eq_false (by omega)]; exact Nat.zero_testBit i
    · rw [if_neg h0, Int.toNat_natCast, Nat.testBit_two_pow_sub_one]
      by_cases e : i < n.toNat
      · rw [decide_eq_true e, decide_eq_true (by omega)]
      · rw [decide_eq_false e, decide_eq_false (by omega)]
theorem whl_bit (c : Int) (i : Nat) : (whl c).toNat.testBit i = decide (((i : Nat) : Int) < cBlocks c) := whole_bit (by have := blocks_range c; omega) i
theorem whl_has (c i : Int) : hasB (whl c) i = decide (0 ≤ i ∧ i < cBlocks c) := by
  have := blocks_range c
  unfold hasB
  by_cases h : 0 ≤ i ∧ i < 32
  · rw [decide_eq_true h, Bool.true_and, whl_bit]
    by_cases e : i < cBlocks c
    · rw [decide_eq_true (show ((i.toNat : Nat) : Int) < cBlocks c by omega), decide_eq_true (by omega)]
    · rw [decide_eq_false (show ¬ ((i.toNat : Nat) : Int) < cBlocks c by omega), decide_eq_false (by omega)]
  · rw [decide_eq_false h, decide_eq_false (by omega)]; rfl
/-- No bit from n on. -/
def NoHi (f : Int) (n : Int) : Prop := ∀ j : Nat, n ≤ ((j : Nat) : Int) → f.toNat.testBit j = false
theorem andNot_bit {f w : Int} (hf : inU32 f) (hw : inU32 w) (j : Nat) : (bAndNot .u32 f w).toNat.testBit j = (f.toNat.testBit j && !(w.toNat.testBit j)) := by
  obtain ⟨e1, l1⟩ := u32_nat hf; obtain ⟨e2, l2⟩ := u32_nat hw
  rw [e1, e2, bAndNot_nat l1 l2, Int.toNat_natCast, Int.toNat_natCast, Int.toNat_natCast, Nat.testBit_and, show 4294967295 - w.toNat = 2 ^ 32 - (w.toNat + 1) by omega, Nat.testBit_two_pow_sub_succ (show w.toNat < 2 ^ 32 from l2)]
  by_cases hj : j < 32
  · rw [decide_eq_true hj, Bool.true_and]
  · rw [high_bit l1 (by omega)]; rfl
theorem andNot_u32 {f w : Int} (hf : inU32 f) (hw : inU32 w) : inU32 (bAndNot .u32 f w) := by
  obtain ⟨e1, l1⟩ := u32_nat hf; obtain ⟨e2, l2⟩ := u32_nat hw
  rw [e1, e2, bAndNot_nat l1 l2]; exact in_u32n (Nat.lt_of_le_of_lt Nat.and_le_left l1)
theorem u32_zero {x : Int} (h : inU32 x) : x = 0 ↔ ∀ j : Nat, x.toNat.testBit j = false := by
  constructor
  · rintro rfl j; exact Nat.zero_testBit j
  · intro hb
    have e : x.toNat = 0 := mask_ext (u32_nat h).2 (by decide) fun i _ => by rw [hb i, Nat.zero_testBit]
    rw [(u32_nat h).1, e]; rfl
theorem noHi_iff {f c : Int} (hf : inU32 f) : (bAndNot .u32 f (whl c) == 0) = true ↔ NoHi f (cBlocks c) := by
  rw [beq_iff_eq, u32_zero (andNot_u32 hf (whl_u32 c))]
  constructor
  · intro h j hj
    have := h j
    rwa [andNot_bit hf (whl_u32 c), whl_bit, decide_eq_false (by omega), Bool.not_false, Bool.and_true] at this
  · intro h j
    rw [andNot_bit hf (whl_u32 c), whl_bit]
    by_cases e : ((j : Nat) : Int) < cBlocks c
    · rw [decide_eq_true e]; simp
    · rw [h j (by omega)]; rfl
theorem spR_noHi {s c f : Int} (hf : inU32 f) (h : spR s c f = true) : NoHi f (cBlocks c) ∧ (s = 0 ∧ c = 0 ∧ f = 0 ∨ inU s = true ∧ isC c = true) := by
  unfold spR at h
  split at h
  · rename_i h0
    simp only [Bool.and_eq_true, beq_iff_eq] at h
    obtain ⟨rfl, rfl⟩ := h
    exact ⟨fun j _ => Nat.zero_testBit j, .inl ⟨h0, rfl, rfl⟩⟩
  · simp only [Bool.and_eq_true] at h
    exact ⟨(noHi_iff hf).1 h.2.2, .inr ⟨h.1, h.2.1⟩⟩
theorem NoHi.mono {f n m : Int} (h : NoHi f n) (hm : n ≤ m) : NoHi f m := fun j hj => h j (by omega)
def HiTo (f n : Int) (i : Nat) : Prop := n ≤ ((i : Nat) : Int) ∧ i ≤ 32 ∧ ∀ j : Nat, n ≤ ((j : Nat) : Int) → j < i → f.toNat.testBit j = false
theorem HiTo.zero {f c : Int} : HiTo f (cBlocks c) (cBlocks c).toNat := by have := blocks_range c; exact ⟨by omega, by omega, fun j h1 h2 => by omega⟩
theorem HiTo.succ {f n : Int} {i : Nat} (h : HiTo f n i) (hi : i < 32) (hb : hasB f ((i : Nat) : Int) = false) : HiTo f n (i + 1) := ⟨by have := h.1; omega, by omega, fun j h1 h2 => by
  by_cases e : j = i
  · subst e; rwa [hasB_nat f hi] at hb
  · exact h.2.2 j h1 (by omega)⟩
theorem HiTo.all {f n : Int} {i : Nat} (hf : inU32 f) (h : HiTo f n i) (hi : ¬ ((i : Nat) : Int) < 32) : NoHi f n := fun j hj => by
  by_cases e : j < 32
  · exact h.2.2 j hj (by have := h.2.1; omega)
  · exact high_bit (u32_nat hf).2 (by omega)
theorem isC_of2 {c : Int} (h1 : ¬ c < 0) (h2 : ¬ c > 3) : isC c = true := by simp [isC]; omega
theorem rightX {s c f : Int} (hs : ¬ s = 0) (h : inU s = false ∨ c < 0 ∨ c > 3) : false = spR s c f := by
  unfold spR; rw [if_neg hs]
  rcases h with h | h
  · rw [h]; rfl
  · rw [show isC c = false by simp [isC]; omega]; simp
theorem rightN {s c f : Int} (hf : inU32 f) (hs : ¬ s = 0) {i : Nat} (h : HiTo f (cBlocks c) i) (hi : i < 32) (hb : hasB f ((i : Nat) : Int) = true) : false = spR s c f := by
  unfold spR; rw [if_neg hs]
  rw [hasB_nat f hi] at hb
  cases e : (bAndNot .u32 f (whl c) == 0) with
  | false => simp
  | true => rw [(noHi_iff hf).1 e i h.1] at hb; cases hb
theorem rightY {s c f : Int} (hf : inU32 f) (hs : ¬ s = 0) (hu : inU s = true) (hc : isC c = true) {i : Nat} (h : HiTo f (cBlocks c) i) (hi : ¬ ((i : Nat) : Int) < 32) : true = spR s c f := by
  unfold spR; rw [if_neg hs, hu, hc, (noHi_iff hf).2 (h.all hf hi)]; rfl
theorem right0 {s c f : Int} (hs : s = 0) : ((c == 0) && (f == 0)) = spR s c f := by unfold spR; rw [if_pos hs]
theorem pop_range {m : Int} : 0 ≤ ((popN m.toNat : Nat) : Int) ∧ ((popN m.toNat : Nat) : Int) ≤ 32 := by have := countTo_le m.toNat 32; exact ⟨by omega, by show ((countTo m.toNat 32 : Nat) : Int) ≤ 32; omega⟩
theorem used_eq {c f : Int} : iSub .i64 (cBlocks c) ((popN f.toNat : Nat) : Int) = cBlocks c - ((popN f.toNat : Nat) : Int) := by
  have h1 := blocks_range c; have h2 := pop_range (m := f)
  exact sub_i64 (by unfold in64; omega)
theorem tk_no {s f : Int} (h : tkOk s f = false) (c : Int) : Value.tuple #[.agg #[.int .i64 s, .int .i64 c, .int .u32 f], .int .i64 0, .bool false] = .tuple #[.agg #[.int .i64 s, .int .i64 c, .int .u32 (tkF s f)], .int .i64 (tkI s f), .bool (tkOk s f)] := by
  unfold tkF tkI; rw [h]; rfl
theorem tk_yes {s f : Int} (h : tkOk s f = true) (c : Int) : Value.tuple #[.agg #[.int .i64 s, .int .i64 c, .int .u32 (withoutI f (lstI f))], .int .i64 (lstI f), .bool true] = .tuple #[.agg #[.int .i64 s, .int .i64 c, .int .u32 (tkF s f)], .int .i64 (tkI s f), .bool (tkOk s f)] := by
  unfold tkF tkI; rw [h]; rfl
theorem tk_t {s f : Int} (h1 : s = 1) (h2 : ¬ f = 0) : tkOk s f = true := by unfold tkOk; rw [beq_iff_eq.2 h1, beq_eq_false_iff_ne.2 h2]; rfl
theorem tk_f {s f : Int} (h : ¬ s = 1 ∨ f = 0) : tkOk s f = false := by
  unfold tkOk; rcases h with h | h
  · rw [beq_eq_false_iff_ne.2 h]; rfl
  · rw [beq_iff_eq.2 h]; simp
theorem gv_no {s c f i : Int} (h : gvOk s c f i = false) : Value.tuple #[.agg #[.int .i64 s, .int .i64 c, .int .u32 f], .bool false] = .tuple #[.agg #[.int .i64 s, .int .i64 c, .int .u32 (gvF s c f i)], .bool (gvOk s c f i)] := by
  unfold gvF; rw [h]; rfl
theorem gv_yes {s c f i : Int} (h : gvOk s c f i = true) : Value.tuple #[.agg #[.int .i64 s, .int .i64 c, .int .u32 (withI f i)], .bool true] = .tuple #[.agg #[.int .i64 s, .int .i64 c, .int .u32 (gvF s c f i)], .bool (gvOk s c f i)] := by
  unfold gvF; rw [h]; rfl
theorem gv_t {s c f i : Int} (h1 : inU s = true) (h2 : 0 ≤ i ∧ i < cBlocks c) (h3 : hasB f i = false) : gvOk s c f i = true := by unfold gvOk; rw [h1, decide_eq_true h2, h3]; rfl
theorem gv_f {s c f i : Int} (h : inU s = false ∨ ¬ (0 ≤ i ∧ i < cBlocks c) ∨ hasB f i = true) : gvOk s c f i = false := by
  unfold gvOk; rcases h with h | h | h
  · rw [h]; rfl
  · rw [decide_eq_false h]; simp
  · rw [h]; simp
theorem nw_no {c : Int} (h : isC c = false) : Value.tuple #[.agg #[.int .i64 0, .int .i64 0, .int .u32 0], .bool false] = .tuple #[.agg #[.int .i64 (nwS c), .int .i64 (nwC c), .int .u32 (nwF c)], .bool (isC c)] := by
  unfold nwS nwC nwF; rw [h]; rfl
theorem nw_yes {c : Int} (h : isC c = true) : Value.tuple #[.agg #[.int .i64 1, .int .i64 c, .int .u32 (whl c)], .bool true] = .tuple #[.agg #[.int .i64 (nwS c), .int .i64 (nwC c), .int .u32 (nwF c)], .bool (isC c)] := by
  unfold nwS nwC nwF; rw [h]; rfl
theorem isC_t0 {c : Int} (h : ¬ cBlocks c = 0) : isC c = true := by
  cases e : isC c with
  | true => rfl
  | false => exact absurd (isC_no e).2.1 h
theorem isC_f0 {c : Int} (h : cBlocks c = 0) : isC c = false := by
  cases e : isC c with
  | false => rfl
  | true => have := blocks_isC c; rw [e, h] at this; cases this
theorem low16 {s c f : Int} (hf : inU32 f) (hr : spR s c f = true) {i : Nat} (h : LeastTo f i) (hi : ¬ ((i : Nat) : Int) < 16) : f = 0 := by
  have h1 := (spR_noHi hf hr).1
  have := blocks_range c
  exact (u32_zero hf).2 fun j => by
    by_cases e : j < i
    · exact h.2 j e
    · exact h1 j (by omega)
theorem tkL {s f : Int} (hf : inU32 f) (hs : s = 1) {i : Nat} (h : LeastTo f i) (hi : i < 16) (hb : hasB f ((i : Nat) : Int) = true) (c : Int) : Value.tuple #[.agg #[.int .i64 s, .int .i64 c, .int .u32 (withoutI f ((i : Nat) : Int))], .int .i64 ((i : Nat) : Int), .bool true] = .tuple #[.agg #[.int .i64 s, .int .i64 c, .int .u32 (tkF s f)], .int .i64 (tkI s f), .bool (tkOk s f)] := by
  obtain ⟨h1, h2⟩ := least_is hf h (by omega) hb
  rw [← h1]
  exact tk_yes (tk_t hs (ne_of_beq_false h2)) c


set_option maxRecDepth 20000 in
theorem span_inUse (s : Int) (c : Int) (f : Int) : CallOb P0 43 #[.agg #[.int .i64 s, .int .i64 c, .int .u32 f]] [] (pureRec (.bool (inU s))) :=
  sym_fn (fn := F43) (b := B43) (n := 11) mixed [(0, .agg #[.int .i64 s, .int .i64 c, .int .u32 f])] [.tmp 2] (.reg 0 ⟨1, [(0, .key 0)], []⟩ (fun b1 g1 => .case 1 (s == 1) (.reg 1 ⟨0, [(1, .key 0), (7, .dec true)], [(4, false), (5, false), (6, false)]⟩ (fun b5 g5 => .ret [] [])) (.reg 1 ⟨0, [(1, .key 0), (5, .key 0), (7, .dec false)], [(4, true), (5, true), (6, true)]⟩ (fun b8 g8 => .ret [] [])))) (by kernel_rfl) (by kernel_rfl) (by kernel_rfl) (by kernel_rfl) (by kernel_rfl) (by kernel_rfl) fun R__ q__ => via (B := (AllG fun b1 g1 => (((s == 1) = true → (AllG fun b5 g5 => ((b1 0) = (b1 0) ∧ (((s == 1) == false) = false ∧ (((s == 1) == false) = false ∧ (((s == 1) == false) = false ∧ ((s == 1) = true ∧ R__ (.bool true) []))))))) ∧ ((s == 1) = false → (AllG fun b8 g8 => ((b1 0) = (b1 0) ∧ (((s == 1) == false) = true ∧ (((s == 1) == false) = true ∧ ((b1 0) = (b1 0) ∧ (((s == 1) == false) = true ∧ ((s == 1) = false ∧ R__ (.bool (s == 2)) []))))))))))) (by kernel_rfl)
    (by exact fun b1 g1 => ⟨fun h3 => have p4 := eq_of_beq h3; fun b5 g5 => ⟨rfl, ⟨(gd_tf h3), ⟨(gd_tf h3), ⟨(gd_tf h3), ⟨h3, q__ _ _ (retQ_pure (by first | (unfold inU; simp_all; done) | (simp_all [inU]; done)))⟩⟩⟩⟩⟩, fun h6 => have p7 := ne_of_beq_false h6; fun b8 g8 => ⟨rfl, ⟨(gd_ff h6), ⟨(gd_ff h6), ⟨rfl, ⟨(gd_ff h6), ⟨h6, q__ _ _ (retQ_pure (by first | (unfold inU; simp_all; done) | (simp_all [inU]; done)))⟩⟩⟩⟩⟩⟩⟩)

set_option maxRecDepth 20000 in
theorem span_whole (c : Int) : CallOb P0 44 #[.int .i64 c] [some (.ro G), some (.ro GB)] (pureRec (.int .u32 (whl c))) :=
  sym_fn (fn := F44) (b := B44) (n := 6) mixed [(0, .int .i64 c)] [.tmp 2] (.reg 1 ⟨0, [(1, .call [0] [] [] (pureRec (.int .i64 (cBlocks c)))), (2, .call [1] [] [] (pureRec (.int .u32 (wholeI (cBlocks c)))))], []⟩ (fun b2 g2 => .ret [] [])) (by kernel_rfl) (by kernel_rfl) (by kernel_rfl) (by kernel_rfl) (by kernel_rfl) (by kernel_rfl) fun R__ q__ => via (B := (AllG fun b2 g2 => (CallOb P0 40 #[.int .i64 c] [some (.ro G)] (pureRec (.int .i64 (cBlocks c))) ∧ (CallOb P0 56 #[.int .i64 (cBlocks c)] [some (.ro GB)] (pureRec (.int .u32 (wholeI (cBlocks c)))) ∧ R__ (.int .u32 (wholeI (cBlocks c))) [])))) (by kernel_rfl)
    (by exact fun b2 g2 => ⟨(class_Blocks c ), ⟨(bits_Whole (cBlocks c) ), q__ _ _ (retQ_pure (by rfl))⟩⟩)

set_option maxRecDepth 20000 in
theorem span_Right (s : Int) (c : Int) (f : Int) (hf : inU32 f) : CallOb P0 25 #[.agg #[.int .i64 s, .int .i64 c, .int .u32 f]] [some (.ro G), some (.ro GB)] (pureRec (.bool (spR s c f))) :=
  sym_fn (fn := F25) (b := B25) (n := 26) mixed [(0, .agg #[.int .i64 s, .int .i64 c, .int .u32 f])] [.tmp 2] (.reg 0 ⟨1, [(0, .key 2)], []⟩ (fun b1 g1 => .reg 1 ⟨0, [(1, .key 2)], []⟩ (fun b2 g2 => .br (.reg 2 ⟨0, [(0, .key 2)], []⟩ (fun b5 g5 => .ret [] [])) (.case 3 (inU s) (.case 3 (decide ((cBlocks c) > 0)) (.reg 3 ⟨0, [(0, .key 2), (1, .call [] [] [] (pureRec (.bool (inU s)))), (4, .key 2), (5, .call [0] [] [] (pureRec (.int .i64 (cBlocks c)))), (7, .dec true), (10, .key 2), (12, .key 2), (13, .call [0, 1] [] [] (pureRec (.int .u32 (whl c)))), (16, .dec true)], [(3, true), (4, true), (5, true), (6, true), (9, true), (10, true), (11, true), (12, true), (13, true), (14, true), (15, true)]⟩ (fun b13 g13 => .ret [] [])) (.reg 3 ⟨0, [(0, .key 2), (1, .call [] [] [] (pureRec (.bool (inU s)))), (4, .key 2), (5, .call [0] [] [] (pureRec (.int .i64 (cBlocks c)))), (7, .dec true), (16, .dec false)], [(3, true), (4, true), (5, true), (6, true), (9, false), (10, false), (11, false), (12, false), (13, false), (14, false), (15, false)]⟩ (fun b16 g16 => .ret [] []))) (.reg 3 ⟨0, [(0, .key 2), (1, .call [] [] [] (pureRec (.bool (inU s)))), (7, .dec false)], [(3, false), (4, false), (5, false), (6, false)]⟩ (fun b18 g18 => .ret [] [])))))) (by kernel_rfl) (by kernel_rfl) (by kernel_rfl) (by kernel_rfl) (by kernel_rfl) (by kernel_rfl) fun R__ q__ => via (B := (AllG fun b1 g1 => (AllG fun b2 g2 => ((b1 0) = (b1 0) ∧ (((s == 0) = true → (AllG fun b5 g5 => ((b1 0) = (b1 0) ∧ R__ (.bool ((s == 0) && ((c == 0) && ((f == 0) && true)))) []))) ∧ ((s == 0) = false → (((inU s) = true → (((decide ((cBlocks c) > 0)) = true → (AllG fun b13 g13 => ((b1 0) = (b1 0) ∧ (CallOb P0 43 #[.agg #[.int .i64 s, .int .i64 c, .int .u32 f]] [] (pureRec (.bool (inU s))) ∧ (((inU s) == true) = true ∧ (((inU s) == true) = true ∧ ((b1 0) = (b1 0) ∧ (((inU s) == true) = true ∧ (CallOb P0 40 #[.int .i64 c] [some (.ro G)] (pureRec (.int .i64 (cBlocks c))) ∧ (((inU s) == true) = true ∧ ((inU s) = true ∧ (((decide ((cBlocks c) > 0)) == true) = true ∧ (((decide ((cBlocks c) > 0)) == true) = true ∧ ((b1 0) = (b1 0) ∧ (((decide ((cBlocks c) > 0)) == true) = true ∧ (((decide ((cBlocks c) > 0)) == true) = true ∧ ((b1 0) = (b1 0) ∧ (((decide ((cBlocks c) > 0)) == true) = true ∧ (CallOb P0 44 #[.int .i64 c] [some (.ro G), some (.ro GB)] (pureRec (.int .u32 (whl c))) ∧ (((decide ((cBlocks c) > 0)) == true) = true ∧ (((decide ((cBlocks c) > 0)) == true) = true ∧ ((decide ((cBlocks c) > 0)) = true ∧ R__ (.bool ((bAndNot .u32 f (whl c)) == 0)) [])))))))))))))))))))))) ∧ ((decide ((cBlocks c) > 0)) = false → (AllG fun b16 g16 => ((b1 0) = (b1 0) ∧ (CallOb P0 43 #[.agg #[.int .i64 s, .int .i64 c, .int .u32 f]] [] (pureRec (.bool (inU s))) ∧ (((inU s) == true) = true ∧ (((inU s) == true) = true ∧ ((b1 0) = (b1 0) ∧ (((inU s) == true) = true ∧ (CallOb P0 40 #[.int .i64 c] [some (.ro G)] (pureRec (.int .i64 (cBlocks c))) ∧ (((inU s) == true) = true ∧ ((inU s) = true ∧ (((decide ((cBlocks c) > 0)) == true) = false ∧ (((decide ((cBlocks c) > 0)) == true) = false ∧ (((decide ((cBlocks c) > 0)) == true) = false ∧ (((decide ((cBlocks c) > 0)) == true) = false ∧ (((decide ((cBlocks c) > 0)) == true) = false ∧ (((decide ((cBlocks c) > 0)) == true) = false ∧ (((decide ((cBlocks c) > 0)) == true) = false ∧ ((decide ((cBlocks c) > 0)) = false ∧ R__ (.bool false) []))))))))))))))))))))) ∧ ((inU s) = false → (AllG fun b18 g18 => ((b1 0) = (b1 0) ∧ (CallOb P0 43 #[.agg #[.int .i64 s, .int .i64 c, .int .u32 f]] [] (pureRec (.bool (inU s))) ∧ (((inU s) == true) = false ∧ (((inU s) == true) = false ∧ (((inU s) == true) = false ∧ (((inU s) == true) = false ∧ ((inU s) = false ∧ R__ (.bool false) [])))))))))))))))) (by kernel_rfl)
    (by exact fun b1 g1 => fun b2 g2 => ⟨rfl, ⟨fun h3 => have p4 := eq_of_beq h3; fun b5 g5 => ⟨rfl, q__ _ _ (retQ_pure (by refine congrArg Value.bool ?_; have hbi : isC c = true ↔ cBlocks c > 0 := (by rw [← blocks_isC c]; exact decide_eq_true_iff); unfold spR; first | (rw [if_pos (by assumption)]; simp_all; done) | (rw [if_neg (by assumption)]; cases hc : isC c <;> simp_all <;> omega)))⟩, fun h6 => have p7 := ne_of_beq_false h6; ⟨fun h9 => ⟨fun h11 => have p12 := of_decide_eq_true h11; fun b13 g13 => ⟨rfl, ⟨(span_inUse s c f ), ⟨(gd_tt h9), ⟨(gd_tt h9), ⟨rfl, ⟨(gd_tt h9), ⟨(class_Blocks c ), ⟨(gd_tt h9), ⟨h9, ⟨(gd_tt h11), ⟨(gd_tt h11), ⟨rfl, ⟨(gd_tt h11), ⟨(gd_tt h11), ⟨rfl, ⟨(gd_tt h11), ⟨(span_whole c ), ⟨(gd_tt h11), ⟨(gd_tt h11), ⟨h11, q__ _ _ (retQ_pure (by refine congrArg Value.bool ?_; have hbi : isC c = true ↔ cBlocks c > 0 := (by rw [← blocks_isC c]; exact decide_eq_true_iff); unfold spR; first | (rw [if_pos (by assumption)]; simp_all; done) | (rw [if_neg (by assumption)]; cases hc : isC c <;> simp_all <;> omega)))⟩⟩⟩⟩⟩⟩⟩⟩⟩⟩⟩⟩⟩⟩⟩⟩⟩⟩⟩⟩, fun h14 => have p15 := of_decide_eq_false h14; fun b16 g16 => ⟨rfl, ⟨(span_inUse s c f ), ⟨(gd_tt h9), ⟨(gd_tt h9), ⟨rfl, ⟨(gd_tt h9), ⟨(class_Blocks c ), ⟨(gd_tt h9), ⟨h9, ⟨(gd_ft h14), ⟨(gd_ft h14), ⟨(gd_ft h14), ⟨(gd_ft h14), ⟨(gd_ft h14), ⟨(gd_ft h14), ⟨(gd_ft h14), ⟨h14, q__ _ _ (retQ_pure (by refine congrArg Value.bool ?_; have hbi : isC c = true ↔ cBlocks c > 0 := (by rw [← blocks_isC c]; exact decide_eq_true_iff); unfold spR; first | (rw [if_pos (by assumption)]; simp_all; done) | (rw [if_neg (by assumption)]; cases hc : isC c <;> simp_all <;> omega)))⟩⟩⟩⟩⟩⟩⟩⟩⟩⟩⟩⟩⟩⟩⟩⟩⟩⟩, fun h17 => fun b18 g18 => ⟨rfl, ⟨(span_inUse s c f ), ⟨(gd_ft h17), ⟨(gd_ft h17), ⟨(gd_ft h17), ⟨(gd_ft h17), ⟨h17, q__ _ _ (retQ_pure (by refine congrArg Value.bool ?_; have hbi : isC c = true ↔ cBlocks c > 0 := (by rw [← blocks_isC c]; exact decide_eq_true_iff); unfold spR; first | (rw [if_pos (by assumption)]; simp_all; done) | (rw [if_neg (by assumption)]; cases hc : isC c <;> simp_all <;> omega)))⟩⟩⟩⟩⟩⟩⟩⟩⟩⟩)

set_option maxRecDepth 20000 in
theorem span_New (c : Int) : CallOb P0 27 #[.int .i64 c] [some (.ro G), some (.ro GB)] (pureRec (.tuple #[.agg #[.int .i64 (nwS c), .int .i64 (nwC c), .int .u32 (nwF c)], .bool (isC c)])) :=
  sym_fn (fn := F27) (b := B27) (n := 12) mixed [(0, .int .i64 c)] [.cell 2 46, .tmp 3] (.reg 0 ⟨1, [(0, .key 2)], []⟩ (fun b1 g1 => .reg 1 ⟨0, [(1, .call [0] [] [] (pureRec (.int .i64 (cBlocks c))))], []⟩ (fun b2 g2 => .br (.reg 2 ⟨0, [(1, .key 2)], []⟩ (fun b5 g5 => .ret [2] [])) (.reg 3 ⟨0, [(2, .call [0, 1] [] [] (pureRec (.int .u32 (whl c)))), (4, .key 2)], []⟩ (fun b8 g8 => .ret [2] []))))) (by kernel_rfl) (by kernel_rfl) (by kernel_rfl) (by kernel_rfl) (by kernel_rfl) (by kernel_rfl) fun R__ q__ => via (B := (AllG fun b1 g1 => (AllG fun b2 g2 => (CallOb P0 40 #[.int .i64 c] [some (.ro G)] (pureRec (.int .i64 (cBlocks c))) ∧ ((((cBlocks c) == 0) = true → (AllG fun b5 g5 => ((b1 0) = (b1 0) ∧ ((b1 0) = (b1 0) ∧ R__ (.tuple #[.agg #[.int .i64 0, .int .i64 0, .int .u32 0], .bool false]) [])))) ∧ (((cBlocks c) == 0) = false → (AllG fun b8 g8 => (CallOb P0 44 #[.int .i64 c] [some (.ro G), some (.ro GB)] (pureRec (.int .u32 (whl c))) ∧ ((b1 0) = (b1 0) ∧ ((b1 0) = (b1 0) ∧ R__ (.tuple #[.agg #[.int .i64 1, .int .i64 c, .int .u32 (whl c)], .bool true]) [])))))))))) (by kernel_rfl)
    (by exact fun b1 g1 => fun b2 g2 => ⟨(class_Blocks c ), ⟨fun h3 => have p4 := eq_of_beq h3; fun b5 g5 => ⟨rfl, ⟨rfl, q__ _ _ (retQ_pure (by first | exact nw_no (isC_f0 (by assumption)) | exact nw_yes (isC_t0 (by assumption))))⟩⟩, fun h6 => have p7 := ne_of_beq_false h6; fun b8 g8 => ⟨(span_whole c ), ⟨rfl, ⟨rfl, q__ _ _ (retQ_pure (by first | exact nw_no (isC_f0 (by assumption)) | exact nw_yes (isC_t0 (by assumption))))⟩⟩⟩⟩⟩)

set_option maxRecDepth 20000 in
theorem span_Take (s : Int) (c : Int) (f : Int) (hf : inU32 f) : CallOb P0 30 #[.agg #[.int .i64 s, .int .i64 c, .int .u32 f]] [some (.ro G), some (.ro GB)] (pureRec (.tuple #[.agg #[.int .i64 s, .int .i64 c, .int .u32 (tkF s f)], .int .i64 (tkI s f), .bool (tkOk s f)])) :=
  sym_fn (fn := F30) (b := B30) (n := 28) mixed [(0, .agg #[.int .i64 s, .int .i64 c, .int .u32 f])] [.cell 2 46, .tmp 3, .tmp 4] (.reg 0 ⟨2, [(0, .key 2), (1, .key 3)], []⟩ (fun b1 g1 => .reg 1 ⟨0, [(1, .key 2), (2, .call [1] [] [] (pureRec (.tuple #[.int .i64 (lstI f), .bool (!(f == 0))])))], []⟩ (fun b2 g2 => .case 2 (f == 0) (.reg 2 ⟨0, [(6, .dec true)], [(3, false), (4, false), (5, false)]⟩ (fun b6 g6 => .reg 3 ⟨0, [(0, .key 2), (1, .key 3)], []⟩ (fun b7 g7 => .ret [3] []))) (.reg 2 ⟨0, [(4, .key 2), (6, .dec false)], [(3, true), (4, true), (5, true)]⟩ (fun b10 g10 => .br (.reg 3 ⟨0, [(0, .key 2), (1, .key 3)], []⟩ (fun b13 g13 => .ret [3] [])) (.reg 4 ⟨0, [(1, .key 2), (3, .call [1] [] [] (pureRec (.int .u32 (withoutI f (lstI f))))), (5, .key 2)], []⟩ (fun b16 g16 => .reg 5 ⟨0, [(0, .key 2), (2, .key 3)], []⟩ (fun b17 g17 => .ret [3] [])))))))) (by kernel_rfl) (by kernel_rfl) (by kernel_rfl) (by kernel_rfl) (by kernel_rfl) (by kernel_rfl) fun R__ q__ => via (B := (AllG fun b1 g1 => (AllG fun b2 g2 => ((b1 0) = (b1 0) ∧ (CallOb P0 47 #[.int .u32 f] [some (.ro GB)] (pureRec (.tuple #[.int .i64 (lstI f), .bool (!(f == 0))])) ∧ (((f == 0) = true → (AllG fun b6 g6 => (((!(!(f == 0))) == false) = false ∧ (((!(!(f == 0))) == false) = false ∧ (((!(!(f == 0))) == false) = false ∧ ((!(!(f == 0))) = true ∧ (AllG fun b7 g7 => ((b1 0) = (b1 0) ∧ ((b1 1) = (b1 1) ∧ ((b1 1) = (b1 1) ∧ R__ (.tuple #[.agg #[.int .i64 s, .int .i64 c, .int .u32 f], .int .i64 0, .bool false]) [])))))))))) ∧ ((f == 0) = false → (AllG fun b10 g10 => (((!(!(f == 0))) == false) = true ∧ (((!(!(f == 0))) == false) = true ∧ ((b1 0) = (b1 0) ∧ (((!(!(f == 0))) == false) = true ∧ ((!(!(f == 0))) = false ∧ (((s != 1) = true → (AllG fun b13 g13 => ((b1 0) = (b1 0) ∧ ((b1 1) = (b1 1) ∧ ((b1 1) = (b1 1) ∧ R__ (.tuple #[.agg #[.int .i64 s, .int .i64 c, .int .u32 f], .int .i64 0, .bool false]) []))))) ∧ ((s != 1) = false → (AllG fun b16 g16 => ((b1 0) = (b1 0) ∧ (CallOb P0 48 #[.int .u32 f, .int .i64 (lstI f)] [some (.ro GB)] (pureRec (.int .u32 (withoutI f (lstI f)))) ∧ ((b1 0) = (b1 0) ∧ (AllG fun b17 g17 => ((b1 0) = (b1 0) ∧ ((b1 1) = (b1 1) ∧ ((b1 1) = (b1 1) ∧ R__ (.tuple #[.agg #[.int .i64 s, .int .i64 c, .int .u32 (withoutI f (lstI f))], .int .i64 (lstI f), .bool true]) []))))))))))))))))))))))) (by kernel_rfl)
    (by exact fun b1 g1 => fun b2 g2 => ⟨rfl, ⟨(bits_Least f (by first | assumption | exact whl_u32 _ | omega | (simp only [in64, inU64, inU32, inU8] at *; omega))), ⟨fun h4 => have p5 := eq_of_beq h4; fun b6 g6 => ⟨(gd_tf (not_of_f (not_of_t h4))), ⟨(gd_tf (not_of_f (not_of_t h4))), ⟨(gd_tf (not_of_f (not_of_t h4))), ⟨(not_of_f (not_of_t h4)), fun b7 g7 => ⟨rfl, ⟨rfl, ⟨rfl, q__ _ _ (retQ_pure (by first | exact tk_yes (tk_t (by omega) (by assumption)) c | exact tk_no (tk_f (.inl (by assumption))) c | exact tk_no (tk_f (.inr (by assumption))) c))⟩⟩⟩⟩⟩⟩⟩, fun h8 => have p9 := ne_of_beq_false h8; fun b10 g10 => ⟨(gd_ff (not_of_t (not_of_f h8))), ⟨(gd_ff (not_of_t (not_of_f h8))), ⟨rfl, ⟨(gd_ff (not_of_t (not_of_f h8))), ⟨(not_of_t (not_of_f h8)), ⟨fun h11 => have p12 := bne_iff_ne.1 h11; fun b13 g13 => ⟨rfl, ⟨rfl, ⟨rfl, q__ _ _ (retQ_pure (by first | exact tk_yes (tk_t (by omega) (by assumption)) c | exact tk_no (tk_f (.inl (by assumption))) c | exact tk_no (tk_f (.inr (by assumption))) c))⟩⟩⟩, fun h14 => have p15 := bne_eq_false_iff_eq.1 h14; fun b16 g16 => ⟨rfl, ⟨(bits_Without f (lstI f) (by first | assumption | exact whl_u32 _ | omega | (simp only [in64, inU64, inU32, inU8] at *; omega))), ⟨rfl, fun b17 g17 => ⟨rfl, ⟨rfl, ⟨rfl, q__ _ _ (retQ_pure (by first | exact tk_yes (tk_t (by omega) (by assumption)) c | exact tk_no (tk_f (.inl (by assumption))) c | exact tk_no (tk_f (.inr (by assumption))) c))⟩⟩⟩⟩⟩⟩⟩⟩⟩⟩⟩⟩⟩⟩⟩)

set_option maxRecDepth 20000 in
theorem span_Give (s : Int) (c : Int) (f : Int) (i : Int) (hf : inU32 f) : CallOb P0 32 #[.agg #[.int .i64 s, .int .i64 c, .int .u32 f], .int .i64 i] [some (.ro G), some (.ro GB)] (pureRec (.tuple #[.agg #[.int .i64 s, .int .i64 c, .int .u32 (gvF s c f i)], .bool (gvOk s c f i)])) :=
  sym_fn (fn := F32) (b := B32) (n := 30) mixed [(0, .agg #[.int .i64 s, .int .i64 c, .int .u32 f]), (1, .int .i64 i)] [.cell 4 46, .tmp 5] (.reg 0 ⟨2, [(0, .key 2), (1, .key 3)], []⟩ (fun b1 g1 => .case 1 (inU s) (.case 1 (hasB (whl c) i) (.reg 1 ⟨0, [(0, .key 2), (1, .call [] [] [] (pureRec (.bool (inU s)))), (5, .key 2), (6, .call [0, 1] [] [] (pureRec (.int .u32 (whl c)))), (8, .call [1] [] [] (pureRec (.bool (hasB (whl c) i)))), (10, .dec false), (13, .key 2), (15, .call [1] [] [] (pureRec (.bool (hasB f i)))), (16, .dec false)], [(4, true), (5, true), (6, true), (7, true), (8, true), (9, true), (12, true), (13, true), (14, true), (15, true)]⟩ (fun b6 g6 => .br (.reg 2 ⟨0, [(0, .key 2), (1, .key 3)], []⟩ (fun b8 g8 => .ret [3] [])) (.reg 3 ⟨0, [(1, .key 2), (3, .call [1] [] [] (pureRec (.int .u32 (withI f i)))), (5, .key 2)], []⟩ (fun b10 g10 => .reg 4 ⟨0, [(0, .key 2), (1, .key 3)], []⟩ (fun b11 g11 => .ret [3] []))))) (.reg 1 ⟨0, [(0, .key 2), (1, .call [] [] [] (pureRec (.bool (inU s)))), (5, .key 2), (6, .call [0, 1] [] [] (pureRec (.int .u32 (whl c)))), (8, .call [1] [] [] (pureRec (.bool (hasB (whl c) i)))), (10, .dec false), (16, .dec true)], [(4, true), (5, true), (6, true), (7, true), (8, true), (9, true), (12, false), (13, false), (14, false), (15, false)]⟩ (fun b13 g13 => .reg 2 ⟨0, [(0, .key 2), (1, .key 3)], []⟩ (fun b14 g14 => .ret [3] [])))) (.reg 1 ⟨0, [(0, .key 2), (1, .call [] [] [] (pureRec (.bool (inU s)))), (10, .dec true)], [(4, false), (5, false), (6, false), (7, false), (8, false), (9, false)]⟩ (fun b16 g16 => .reg 2 ⟨0, [(0, .key 2), (1, .key 3)], []⟩ (fun b17 g17 => .ret [3] []))))) (by kernel_rfl) (by kernel_rfl) (by kernel_rfl) (by kernel_rfl) (by kernel_rfl) (by kernel_rfl) fun R__ q__ => via (B := (AllG fun b1 g1 => (((inU s) = true → (((hasB (whl c) i) = true → (AllG fun b6 g6 => ((b1 0) = (b1 0) ∧ (CallOb P0 43 #[.agg #[.int .i64 s, .int .i64 c, .int .u32 f]] [] (pureRec (.bool (inU s))) ∧ (((!(inU s)) == false) = true ∧ (((!(inU s)) == false) = true ∧ ((b1 0) = (b1 0) ∧ (((!(inU s)) == false) = true ∧ (CallOb P0 44 #[.int .i64 c] [some (.ro G), some (.ro GB)] (pureRec (.int .u32 (whl c))) ∧ (((!(inU s)) == false) = true ∧ (((!(inU s)) == false) = true ∧ (CallOb P0 50 #[.int .u32 (whl c), .int .i64 i] [some (.ro GB)] (pureRec (.bool (hasB (whl c) i))) ∧ (((!(inU s)) == false) = true ∧ ((!(inU s)) = false ∧ (((!(hasB (whl c) i)) == false) = true ∧ (((!(hasB (whl c) i)) == false) = true ∧ ((b1 0) = (b1 0) ∧ (((!(hasB (whl c) i)) == false) = true ∧ (((!(hasB (whl c) i)) == false) = true ∧ (CallOb P0 50 #[.int .u32 f, .int .i64 i] [some (.ro GB)] (pureRec (.bool (hasB f i))) ∧ ((!(hasB (whl c) i)) = false ∧ (((hasB f i) = true → (AllG fun b8 g8 => ((b1 0) = (b1 0) ∧ ((b1 1) = (b1 1) ∧ ((b1 1) = (b1 1) ∧ R__ (.tuple #[.agg #[.int .i64 s, .int .i64 c, .int .u32 f], .bool false]) []))))) ∧ ((hasB f i) = false → (AllG fun b10 g10 => ((b1 0) = (b1 0) ∧ (CallOb P0 51 #[.int .u32 f, .int .i64 i] [some (.ro GB)] (pureRec (.int .u32 (withI f i))) ∧ ((b1 0) = (b1 0) ∧ (AllG fun b11 g11 => ((b1 0) = (b1 0) ∧ ((b1 1) = (b1 1) ∧ ((b1 1) = (b1 1) ∧ R__ (.tuple #[.agg #[.int .i64 s, .int .i64 c, .int .u32 (withI f i)], .bool true]) []))))))))))))))))))))))))))))))) ∧ ((hasB (whl c) i) = false → (AllG fun b13 g13 => ((b1 0) = (b1 0) ∧ (CallOb P0 43 #[.agg #[.int .i64 s, .int .i64 c, .int .u32 f]] [] (pureRec (.bool (inU s))) ∧ (((!(inU s)) == false) = true ∧ (((!(inU s)) == false) = true ∧ ((b1 0) = (b1 0) ∧ (((!(inU s)) == false) = true ∧ (CallOb P0 44 #[.int .i64 c] [some (.ro G), some (.ro GB)] (pureRec (.int .u32 (whl c))) ∧ (((!(inU s)) == false) = true ∧ (((!(inU s)) == false) = true ∧ (CallOb P0 50 #[.int .u32 (whl c), .int .i64 i] [some (.ro GB)] (pureRec (.bool (hasB (whl c) i))) ∧ (((!(inU s)) == false) = true ∧ ((!(inU s)) = false ∧ (((!(hasB (whl c) i)) == false) = false ∧ (((!(hasB (whl c) i)) == false) = false ∧ (((!(hasB (whl c) i)) == false) = false ∧ (((!(hasB (whl c) i)) == false) = false ∧ ((!(hasB (whl c) i)) = true ∧ (AllG fun b14 g14 => ((b1 0) = (b1 0) ∧ ((b1 1) = (b1 1) ∧ ((b1 1) = (b1 1) ∧ R__ (.tuple #[.agg #[.int .i64 s, .int .i64 c, .int .u32 f], .bool false]) []))))))))))))))))))))))))) ∧ ((inU s) = false → (AllG fun b16 g16 => ((b1 0) = (b1 0) ∧ (CallOb P0 43 #[.agg #[.int .i64 s, .int .i64 c, .int .u32 f]] [] (pureRec (.bool (inU s))) ∧ (((!(inU s)) == false) = false ∧ (((!(inU s)) == false) = false ∧ (((!(inU s)) == false) = false ∧ (((!(inU s)) == false) = false ∧ (((!(inU s)) == false) = false ∧ (((!(inU s)) == false) = false ∧ ((!(inU s)) = true ∧ (AllG fun b17 g17 => ((b1 0) = (b1 0) ∧ ((b1 1) = (b1 1) ∧ ((b1 1) = (b1 1) ∧ R__ (.tuple #[.agg #[.int .i64 s, .int .i64 c, .int .u32 f], .bool false]) [])))))))))))))))))) (by kernel_rfl)
    (by exact fun b1 g1 => ⟨fun h3 => ⟨fun h5 => fun b6 g6 => ⟨rfl, ⟨(span_inUse s c f ), ⟨(gd_ff (not_of_t h3)), ⟨(gd_ff (not_of_t h3)), ⟨rfl, ⟨(gd_ff (not_of_t h3)), ⟨(span_whole c ), ⟨(gd_ff (not_of_t h3)), ⟨(gd_ff (not_of_t h3)), ⟨(bits_Has (whl c) i (by first | assumption | exact whl_u32 _ | omega | (simp only [in64, inU64, inU32, inU8] at *; omega))), ⟨(gd_ff (not_of_t h3)), ⟨(not_of_t h3), ⟨(gd_ff (not_of_t h5)), ⟨(gd_ff (not_of_t h5)), ⟨rfl, ⟨(gd_ff (not_of_t h5)), ⟨(gd_ff (not_of_t h5)), ⟨(bits_Has f i (by first | assumption | exact whl_u32 _ | omega | (simp only [in64, inU64, inU32, inU8] at *; omega))), ⟨(not_of_t h5), ⟨fun h7 => fun b8 g8 => ⟨rfl, ⟨rfl, ⟨rfl, q__ _ _ (retQ_pure (by first | exact gv_no (gv_f (.inl (by first | assumption | exact not_f (by assumption) | exact not_t (by assumption)))) | exact gv_no (gv_f (.inr (.inl (of_decide_eq_false ((whl_has c i).symm.trans (by first | assumption | exact not_f (by assumption) | exact not_t (by assumption))))))) | exact gv_no (gv_f (.inr (.inr (by first | assumption | exact not_f (by assumption) | exact not_t (by assumption))))) | exact gv_yes (gv_t (by first | assumption | exact not_f (by assumption) | exact not_t (by assumption)) (of_decide_eq_true ((whl_has c i).symm.trans (by first | assumption | exact not_f (by assumption) | exact not_t (by assumption)))) (by first | assumption | exact not_f (by assumption) | exact not_t (by assumption)))))⟩⟩⟩, fun h9 => fun b10 g10 => ⟨rfl, ⟨(bits_With f i (by first | assumption | exact whl_u32 _ | omega | (simp only [in64, inU64, inU32, inU8] at *; omega))), ⟨rfl, fun b11 g11 => ⟨rfl, ⟨rfl, ⟨rfl, q__ _ _ (retQ_pure (by first | exact gv_no (gv_f (.inl (by first | assumption | exact not_f (by assumption) | exact not_t (by assumption)))) | exact gv_no (gv_f (.inr (.inl (of_decide_eq_false ((whl_has c i).symm.trans (by first | assumption | exact not_f (by assumption) | exact not_t (by assumption))))))) | exact gv_no (gv_f (.inr (.inr (by first | assumption | exact not_f (by assumption) | exact not_t (by assumption))))) | exact gv_yes (gv_t (by first | assumption | exact not_f (by assumption) | exact not_t (by assumption)) (of_decide_eq_true ((whl_has c i).symm.trans (by first | assumption | exact not_f (by assumption) | exact not_t (by assumption)))) (by first | assumption | exact not_f (by assumption) | exact not_t (by assumption)))))⟩⟩⟩⟩⟩⟩⟩⟩⟩⟩⟩⟩⟩⟩⟩⟩⟩⟩⟩⟩⟩⟩⟩⟩⟩⟩, fun h12 => fun b13 g13 => ⟨rfl, ⟨(span_inUse s c f ), ⟨(gd_ff (not_of_t h3)), ⟨(gd_ff (not_of_t h3)), ⟨rfl, ⟨(gd_ff (not_of_t h3)), ⟨(span_whole c ), ⟨(gd_ff (not_of_t h3)), ⟨(gd_ff (not_of_t h3)), ⟨(bits_Has (whl c) i (by first | assumption | exact whl_u32 _ | omega | (simp only [in64, inU64, inU32, inU8] at *; omega))), ⟨(gd_ff (not_of_t h3)), ⟨(not_of_t h3), ⟨(gd_tf (not_of_f h12)), ⟨(gd_tf (not_of_f h12)), ⟨(gd_tf (not_of_f h12)), ⟨(gd_tf (not_of_f h12)), ⟨(not_of_f h12), fun b14 g14 => ⟨rfl, ⟨rfl, ⟨rfl, q__ _ _ (retQ_pure (by first | exact gv_no (gv_f (.inl (by first | assumption | exact not_f (by assumption) | exact not_t (by assumption)))) | exact gv_no (gv_f (.inr (.inl (of_decide_eq_false ((whl_has c i).symm.trans (by first | assumption | exact not_f (by assumption) | exact not_t (by assumption))))))) | exact gv_no (gv_f (.inr (.inr (by first | assumption | exact not_f (by assumption) | exact not_t (by assumption))))) | exact gv_yes (gv_t (by first | assumption | exact not_f (by assumption) | exact not_t (by assumption)) (of_decide_eq_true ((whl_has c i).symm.trans (by first | assumption | exact not_f (by assumption) | exact not_t (by assumption)))) (by first | assumption | exact not_f (by assumption) | exact not_t (by assumption)))))⟩⟩⟩⟩⟩⟩⟩⟩⟩⟩⟩⟩⟩⟩⟩⟩⟩⟩⟩⟩⟩, fun h15 => fun b16 g16 => ⟨rfl, ⟨(span_inUse s c f ), ⟨(gd_tf (not_of_f h15)), ⟨(gd_tf (not_of_f h15)), ⟨(gd_tf (not_of_f h15)), ⟨(gd_tf (not_of_f h15)), ⟨(gd_tf (not_of_f h15)), ⟨(gd_tf (not_of_f h15)), ⟨(not_of_f h15), fun b17 g17 => ⟨rfl, ⟨rfl, ⟨rfl, q__ _ _ (retQ_pure (by first | exact gv_no (gv_f (.inl (by first | assumption | exact not_f (by assumption) | exact not_t (by assumption)))) | exact gv_no (gv_f (.inr (.inl (of_decide_eq_false ((whl_has c i).symm.trans (by first | assumption | exact not_f (by assumption) | exact not_t (by assumption))))))) | exact gv_no (gv_f (.inr (.inr (by first | assumption | exact not_f (by assumption) | exact not_t (by assumption))))) | exact gv_yes (gv_t (by first | assumption | exact not_f (by assumption) | exact not_t (by assumption)) (of_decide_eq_true ((whl_has c i).symm.trans (by first | assumption | exact not_f (by assumption) | exact not_t (by assumption)))) (by first | assumption | exact not_f (by assumption) | exact not_t (by assumption)))))⟩⟩⟩⟩⟩⟩⟩⟩⟩⟩⟩⟩⟩)

set_option maxRecDepth 20000 in
theorem span_Full (s : Int) (c : Int) (f : Int) : CallOb P0 36 #[.agg #[.int .i64 s, .int .i64 c, .int .u32 f]] [some (.ro G), some (.ro GB)] (pureRec (.bool (fuB s f))) :=
  sym_fn (fn := F36) (b := B36) (n := 10) mixed [(0, .agg #[.int .i64 s, .int .i64 c, .int .u32 f])] [.tmp 2] (.reg 0 ⟨1, [(0, .key 2)], []⟩ (fun b1 g1 => .case 1 (inU s) (.reg 1 ⟨0, [(0, .key 2), (1, .call [] [] [] (pureRec (.bool (inU s)))), (4, .key 2), (6, .dec true)], [(3, true), (4, true), (5, true)]⟩ (fun b4 g4 => .ret [] [])) (.reg 1 ⟨0, [(0, .key 2), (1, .call [] [] [] (pureRec (.bool (inU s)))), (6, .dec false)], [(3, false), (4, false), (5, false)]⟩ (fun b6 g6 => .ret [] [])))) (by kernel_rfl) (by kernel_rfl) (by kernel_rfl) (by kernel_rfl) (by kernel_rfl) (by kernel_rfl) fun R__ q__ => via (B := (AllG fun b1 g1 => (((inU s) = true → (AllG fun b4 g4 => ((b1 0) = (b1 0) ∧ (CallOb P0 43 #[.agg #[.int .i64 s, .int .i64 c, .int .u32 f]] [] (pureRec (.bool (inU s))) ∧ (((inU s) == true) = true ∧ (((inU s) == true) = true ∧ ((b1 0) = (b1 0) ∧ (((inU s) == true) = true ∧ ((inU s) = true ∧ R__ (.bool (f == 0)) []))))))))) ∧ ((inU s) = false → (AllG fun b6 g6 => ((b1 0) = (b1 0) ∧ (CallOb P0 43 #[.agg #[.int .i64 s, .int .i64 c, .int .u32 f]] [] (pureRec (.bool (inU s))) ∧ (((inU s) == true) = false ∧ (((inU s) == true) = false ∧ (((inU s) == true) = false ∧ ((inU s) = false ∧ R__ (.bool false) []))))))))))) (by kernel_rfl)
    (by exact fun b1 g1 => ⟨fun h3 => fun b4 g4 => ⟨rfl, ⟨(span_inUse s c f ), ⟨(gd_tt h3), ⟨(gd_tt h3), ⟨rfl, ⟨(gd_tt h3), ⟨h3, q__ _ _ (retQ_pure (by refine congrArg Value.bool ?_; unfold fuB; simp_all))⟩⟩⟩⟩⟩⟩⟩, fun h5 => fun b6 g6 => ⟨rfl, ⟨(span_inUse s c f ), ⟨(gd_ft h5), ⟨(gd_ft h5), ⟨(gd_ft h5), ⟨h5, q__ _ _ (retQ_pure (by refine congrArg Value.bool ?_; unfold fuB; simp_all))⟩⟩⟩⟩⟩⟩⟩)

set_option maxRecDepth 20000 in
theorem span_Empty (s : Int) (c : Int) (f : Int) : CallOb P0 37 #[.agg #[.int .i64 s, .int .i64 c, .int .u32 f]] [some (.ro G), some (.ro GB)] (pureRec (.bool (emB s c f))) :=
  sym_fn (fn := F37) (b := B37) (n := 13) mixed [(0, .agg #[.int .i64 s, .int .i64 c, .int .u32 f])] [.tmp 2] (.reg 0 ⟨1, [(0, .key 2)], []⟩ (fun b1 g1 => .case 1 (inU s) (.reg 1 ⟨0, [(0, .key 2), (1, .call [] [] [] (pureRec (.bool (inU s)))), (4, .key 2), (6, .key 2), (7, .call [0, 1] [] [] (pureRec (.int .u32 (whl c)))), (9, .dec true)], [(3, true), (4, true), (5, true), (6, true), (7, true), (8, true)]⟩ (fun b4 g4 => .ret [] [])) (.reg 1 ⟨0, [(0, .key 2), (1, .call [] [] [] (pureRec (.bool (inU s)))), (9, .dec false)], [(3, false), (4, false), (5, false), (6, false), (7, false), (8, false)]⟩ (fun b6 g6 => .ret [] [])))) (by kernel_rfl) (by kernel_rfl) (by kernel_rfl) (by kernel_rfl) (by kernel_rfl) (by kernel_rfl) fun R__ q__ => via (B := (AllG fun b1 g1 => (((inU s) = true → (AllG fun b4 g4 => ((b1 0) = (b1 0) ∧ (CallOb P0 43 #[.agg #[.int .i64 s, .int .i64 c, .int .u32 f]] [] (pureRec (.bool (inU s))) ∧ (((inU s) == true) = true ∧ (((inU s) == true) = true ∧ ((b1 0) = (b1 0) ∧ (((inU s) == true) = true ∧ (((inU s) == true) = true ∧ ((b1 0) = (b1 0) ∧ (((inU s) == true) = true ∧ (CallOb P0 44 #[.int .i64 c] [some (.ro G), some (.ro GB)] (pureRec (.int .u32 (whl c))) ∧ (((inU s) == true) = true ∧ ((inU s) = true ∧ R__ (.bool (f == (whl c))) [])))))))))))))) ∧ ((inU s) = false → (AllG fun b6 g6 => ((b1 0) = (b1 0) ∧ (CallOb P0 43 #[.agg #[.int .i64 s, .int .i64 c, .int .u32 f]] [] (pureRec (.bool (inU s))) ∧ (((inU s) == true) = false ∧ (((inU s) == true) = false ∧ (((inU s) == true) = false ∧ (((inU s) == true) = false ∧ (((inU s) == true) = false ∧ (((inU s) == true) = false ∧ ((inU s) = false ∧ R__ (.bool false) [])))))))))))))) (by kernel_rfl)
    (by exact fun b1 g1 => ⟨fun h3 => fun b4 g4 => ⟨rfl, ⟨(span_inUse s c f ), ⟨(gd_tt h3), ⟨(gd_tt h3), ⟨rfl, ⟨(gd_tt h3), ⟨(gd_tt h3), ⟨rfl, ⟨(gd_tt h3), ⟨(span_whole c ), ⟨(gd_tt h3), ⟨h3, q__ _ _ (retQ_pure (by refine congrArg Value.bool ?_; unfold emB; simp_all))⟩⟩⟩⟩⟩⟩⟩⟩⟩⟩⟩⟩, fun h5 => fun b6 g6 => ⟨rfl, ⟨(span_inUse s c f ), ⟨(gd_ft h5), ⟨(gd_ft h5), ⟨(gd_ft h5), ⟨(gd_ft h5), ⟨(gd_ft h5), ⟨(gd_ft h5), ⟨h5, q__ _ _ (retQ_pure (by refine congrArg Value.bool ?_; unfold emB; simp_all))⟩⟩⟩⟩⟩⟩⟩⟩⟩⟩)

set_option maxRecDepth 20000 in
theorem span_Used (s : Int) (c : Int) (f : Int) (hf : inU32 f) : CallOb P0 38 #[.agg #[.int .i64 s, .int .i64 c, .int .u32 f]] [some (.ro G), some (.ro GB)] (pureRec (.int .i64 (usI s c f))) :=
  sym_fn (fn := F38) (b := B38) (n := 13) mixed [(0, .agg #[.int .i64 s, .int .i64 c, .int .u32 f])] [.tmp 2] (.reg 0 ⟨1, [(0, .key 2)], []⟩ (fun b1 g1 => .reg 1 ⟨0, [(0, .key 2), (1, .call [] [] [] (pureRec (.bool (inU s))))], []⟩ (fun b2 g2 => .br (.ret [] []) (.reg 3 ⟨0, [(1, .key 2), (2, .call [0] [] [] (pureRec (.int .i64 (cBlocks c)))), (4, .key 2), (5, .call [1] [] [] (pureRec (.int .i64 ((popN f.toNat : Nat) : Int))))], []⟩ (fun b6 g6 => .ret [] []))))) (by kernel_rfl) (by kernel_rfl) (by kernel_rfl) (by kernel_rfl) (by kernel_rfl) (by kernel_rfl) fun R__ q__ => via (B := (AllG fun b1 g1 => (AllG fun b2 g2 => ((b1 0) = (b1 0) ∧ (CallOb P0 43 #[.agg #[.int .i64 s, .int .i64 c, .int .u32 f]] [] (pureRec (.bool (inU s))) ∧ (((!(inU s)) = true → R__ (.int .i64 0) []) ∧ ((!(inU s)) = false → (AllG fun b6 g6 => ((b1 0) = (b1 0) ∧ (CallOb P0 40 #[.int .i64 c] [some (.ro G)] (pureRec (.int .i64 (cBlocks c))) ∧ ((b1 0) = (b1 0) ∧ (CallOb P0 54 #[.int .u32 f] [some (.ro GB)] (pureRec (.int .i64 ((popN f.toNat : Nat) : Int))) ∧ R__ (.int .i64 (iSub .i64 (cBlocks c) ((popN f.toNat : Nat) : Int))) [])))))))))))) (by kernel_rfl)
    (by exact fun b1 g1 => fun b2 g2 => ⟨rfl, ⟨(span_inUse s c f ), ⟨fun h3 => q__ _ _ (retQ_pure (by refine congrArg (Value.int .i64) ?_; unfold usI; first | (rw [used_eq]; simp_all; done) | (simp_all; done))), fun h5 => fun b6 g6 => ⟨rfl, ⟨(class_Blocks c ), ⟨rfl, ⟨(bits_Count f (by first | assumption | exact whl_u32 _ | omega | (simp only [in64, inU64, inU32, inU8] at *; omega))), q__ _ _ (retQ_pure (by refine congrArg (Value.int .i64) ?_; unfold usI; first | (rw [used_eq]; simp_all; done) | (simp_all; done)))⟩⟩⟩⟩⟩⟩⟩)
end Go.Proofs.YtgkidiokipcafaaDoor.Fl
