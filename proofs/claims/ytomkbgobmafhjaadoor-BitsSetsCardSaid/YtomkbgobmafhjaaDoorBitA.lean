/- Contracts of package bits and of math/bits. Conditions: each in its premises. -/
import Derived.Test.YtomkbgobmafhjaaDoorBBase
set_option linter.unusedVariables false
set_option linter.unusedSimpArgs false
namespace Go.Proofs.YtomkbgobmafhjaaDoor.Fl
open Go.RowKit

/-- What math/bits' table holds. -/
def G : Ro := seg (0 + 1) 0 (dbTab.flatMap (encI .u8))
theorem tz_nat {m : Int} (h : inU32 m) (h0 : m ≠ 0) : (iShr (iMul .u32 (bAnd .u32 m (iSub .u32 0 m)) 125613361) 27) = (((2 ^ leastN m.toNat * 125613361) % 2 ^ 32 / 2 ^ 27 : Nat) : Int) := by
  obtain ⟨e, l⟩ := u32_nat h
  have hn : m.toNat ≠ 0 := by omega
  obtain ⟨l1, l2, l3⟩ := leastN_spec (m := m.toNat) l hn
  have e1 : iSub .u32 0 m = ((2 ^ 32 - m.toNat : Nat) : Int) := by
    show IntKind.u32.wrap (0 - m) = _
    rw [IntKind.wrap_u32]; omega
  have e2 : bAnd .u32 m (iSub .u32 0 m) = ((2 ^ leastN m.toNat : Nat) : Int) := by
    rw [e1]; conv => lhs; rw [e]
    rw [Int.toNat_natCast, bAnd_nat l (by omega), low_and l l2 l3]
  rw [e2]
  generalize 2 ^ leastN m.toNat = q
  show (IntKind.u32.wrap (((q : Nat) : Int) * 125613361)).fdiv (2 ^ 27) = _
  rw [IntKind.wrap_u32, Int.fdiv_eq_ediv_of_nonneg _ (by decide)]
  omega
theorem tz_ix {m : Int} (h : inU32 m) (h0 : m ≠ 0) : (iShr (iMul .u32 (bAnd .u32 m (iSub .u32 0 m)) 125613361) 27) = ((Int.toNat ((iShr (iMul .u32 (bAnd .u32 m (iSub .u32 0 m)) 125613361) 27)) : Nat) : Int) ∧ Int.toNat ((iShr (iMul .u32 (bAnd .u32 m (iSub .u32 0 m)) 125613361) 27)) < 32 := by
  rw [tz_nat h h0, Int.toNat_natCast]
  exact ⟨rfl, (db_all _ (leastN_spec (u32_nat h).2 (by have := u32_nat h; omega)).1).2⟩
theorem tz_eq {m : Int} (h : inU32 m) (h0 : m ≠ 0) : iCv .i64 (dbTab.getD (Int.toNat ((iShr (iMul .u32 (bAnd .u32 m (iSub .u32 0 m)) 125613361) 27))) 0) = ((leastN m.toNat : Nat) : Int) := by
  have hl := (leastN_spec (u32_nat h).2 (by have := u32_nat h; omega)).1
  rw [tz_nat h h0, Int.toNat_natCast, (db_all _ hl).1]
  exact cv_i64 ⟨by omega, by omega⟩
theorem least0 : leastN 0 = 32 := by decide
theorem shr_nat {m : Int} (h : inU32 m) (s : Nat) : iShr m s = ((m.toNat >>> s : Nat) : Int) := by
  have e := (u32_nat h).1
  unfold iShr
  rw [Int.fdiv_eq_ediv_of_nonneg _ (by exact Int.pow_nonneg (by decide)), Nat.shiftRight_eq_div_pow]
  conv => lhs; rw [e]
  push_cast; rfl
theorem pop_ix24 {m : Int} (h : inU32 m) : 0 ≤ iShr m 24 ∧ iShr m 24 ≤ 255 := by
  have := (u32_nat h).2
  rw [shr_nat h, Nat.shiftRight_eq_div_pow]; omega
theorem and255 {x : Nat} (h : x < 4294967296) : bAnd .u32 ((x : Nat) : Int) 255 = ((x % 256 : Nat) : Int) := by
  rw [show (255 : Int) = ((255 : Nat) : Int) from rfl, bAnd_nat h (by decide)]
  rw [show (255 : Nat) = 2 ^ 8 - 1 from rfl, Nat.and_two_pow_sub_one_eq_mod]
theorem and_shr {m : Int} (h : inU32 m) (s : Nat) : bAnd .u32 (iShr m s) 255 = (((m.toNat >>> s) % 256 : Nat) : Int) := by
  rw [shr_nat h, and255]
  exact Nat.lt_of_le_of_lt (Nat.shiftRight_le _ _) (u32_nat h).2
theorem and_ix {x : Int} {y : Nat} (e : x = ((y % 256 : Nat) : Int)) : 0 ≤ x ∧ x ≤ 255 := by rw [e]; omega
theorem and_low {m : Int} (h : inU32 m) : bAnd .u32 m 255 = ((m.toNat % 256 : Nat) : Int) := by
  conv => lhs; rw [(u32_nat h).1]
  exact and255 (u32_nat h).2
theorem sum4 {p q r s : Nat} (a : p ≤ 8) (b : q ≤ 8) (c : r ≤ 8) (d : s ≤ 8) : iCv .i64 (iAdd .u8 (iAdd .u8 (iAdd .u8 ((p : Nat) : Int) ((q : Nat) : Int)) ((r : Nat) : Int)) ((s : Nat) : Int)) = ((p + q + r + s : Nat) : Int) := by
  have w8 : ∀ x : Int, 0 ≤ x → x ≤ 255 → IntKind.u8.wrap x = x := fun x h1 h2 => by rw [IntKind.wrap_u8]; omega
  unfold iAdd
  rw [w8 (((p : Nat) : Int) + ((q : Nat) : Int)) (by omega) (by omega), w8 (((p : Nat) : Int) + ((q : Nat) : Int) + ((r : Nat) : Int)) (by omega) (by omega), w8 (((p : Nat) : Int) + ((q : Nat) : Int) + ((r : Nat) : Int) + ((s : Nat) : Int)) (by omega) (by omega), cv_i64 (by unfold in64; omega)]
  omega
theorem pop_eq {m : Int} (h : inU32 m) : iCv .i64 (iAdd .u8 (iAdd .u8 (iAdd .u8 (Lib.pop8 (iShr m 24)) (Lib.pop8 (bAnd .u32 (iShr m 16) 255))) (Lib.pop8 (bAnd .u32 (iShr m 8) 255))) (Lib.pop8 (bAnd .u32 m 255))) = ((popN m.toNat : Nat) : Int) := by
  have l := (u32_nat h).2
  have e24 : m.toNat >>> 24 < 256 := by rw [Nat.shiftRight_eq_div_pow]; omega
  have e1 : Lib.pop8 (iShr m 24) = ((countTo (m.toNat >>> 24) 8 : Nat) : Int) := by rw [shr_nat h, pop8_eq e24]
  have e2 : Lib.pop8 (bAnd .u32 (iShr m 16) 255) = ((countTo (m.toNat >>> 16 % 256) 8 : Nat) : Int) := by rw [and_shr h, pop8_eq (Nat.mod_lt _ (by decide))]
  have e3 : Lib.pop8 (bAnd .u32 (iShr m 8) 255) = ((countTo (m.toNat >>> 8 % 256) 8 : Nat) : Int) := by rw [and_shr h, pop8_eq (Nat.mod_lt _ (by decide))]
  have e4 : Lib.pop8 (bAnd .u32 m 255) = ((countTo (m.toNat % 256) 8 : Nat) : Int) := by rw [and_low h, pop8_eq (Nat.mod_lt _ (by decide))]
  rw [popN_bytes l, e1, e2, e3, e4]
  exact sum4 (countTo_le _ _) (countTo_le _ _) (countTo_le _ _) (countTo_le _ _)
theorem tz0 {m : Int} (h : (m == 0) = true) : (32 : Int) = ((leastN m.toNat : Nat) : Int) := by
  rw [eq_of_beq h]
  exact (congrArg (fun n : Nat => (n : Int)) least0).symm
def lstI (m : Int) : Int := if m = 0 then 0 else ((leastN m.toNat : Nat) : Int)
def wholeI (n : Int) : Int := if n ≥ 32 then 4294967295 else if n ≤ 0 then 0 else ((2 ^ n.toNat - 1 : Nat) : Int)
theorem whole_all : ∀ k : Fin 32, iSub .u32 (oneI ((k.val : Nat) : Int)) 1 = if ((k.val : Nat) : Int) ≤ 0 then 0 else ((2 ^ k.val - 1 : Nat) : Int) := by decide
theorem whole_lt {n : Int} (h : ¬ n ≥ 32) : iSub .u32 (oneI (if 0 > n then 0 else n)) 1 = wholeI n := by
  unfold wholeI; rw [if_neg h]
  by_cases h0 : n ≤ 0
  · rw [if_pos h0]
    have : (if 0 > n then 0 else n) = 0 := by split <;> omega
    rw [this]; decide
  · rw [if_neg h0, if_neg (by omega)]
    have := whole_all ⟨n.toNat, by omega⟩
    simp only at this
    rw [show ((n.toNat : Nat) : Int) = n by omega, if_neg h0] at this
    exact this


set_option maxRecDepth 20000 in
theorem bits_one (n : Int) : CallOb P0 20 #[.int .i64 n] [some (.ro G)] (pureRec (.int .u32 (oneI n))) :=
  sym_fn (fn := F20) (b := B20) (n := 11) mixed [(0, .int .i64 n)] [.tmp 2] (.case 1 (decide (n < 0)) (.reg 1 ⟨0, [(5, .dec true)], [(3, false), (4, false)]⟩ (fun b5 g5 => .ret [] [])) (.reg 1 ⟨0, [(5, .dec false)], [(3, true), (4, true)]⟩ (fun b9 g9 => .br (.ret [] []) (.ret [] [])))) (by kernel_rfl) (by kernel_rfl) (by kernel_rfl) (by kernel_rfl) (by kernel_rfl) (by kernel_rfl) fun R q => via (B := (((decide (n < 0)) = true → (AllG fun b5 g5 => (((decide (n < 0)) == false) = false ∧ (((decide (n < 0)) == false) = false ∧ ((decide (n < 0)) = true ∧ R (.int .u32 0) []))))) ∧ ((decide (n < 0)) = false → (AllG fun b9 g9 => (((decide (n < 0)) == false) = true ∧ (((decide (n < 0)) == false) = true ∧ ((decide (n < 0)) = false ∧ (((decide (n ≥ 32)) = true → R (.int .u32 0) []) ∧ ((decide (n ≥ 32)) = false → ((0 : Int) ≤ n ∧ R (.int .u32 (iShl .u32 1 (min (Int.toNat n) 32))) [])))))))))) (by kernel_rfl)
    (by exact ⟨fun h3 => have p4 := of_decide_eq_true h3; fun b5 g5 => ⟨(gd_tf h3), ⟨(gd_tf h3), ⟨h3, q _ _ (retQ_pure (by first | exact congrArg (Value.int .u32) (one_out (by omega)).symm | exact congrArg (Value.int .u32) (one_in (by assumption) (by assumption))))⟩⟩⟩, fun h7 => have p8 := of_decide_eq_false h7; fun b9 g9 => ⟨(gd_ff h7), ⟨(gd_ff h7), ⟨h7, ⟨fun h10 => have p11 := of_decide_eq_true h10; q _ _ (retQ_pure (by first | exact congrArg (Value.int .u32) (one_out (by omega)).symm | exact congrArg (Value.int .u32) (one_in (by assumption) (by assumption)))), fun h13 => have p14 := of_decide_eq_false h13; ⟨(by omega), q _ _ (retQ_pure (by first | exact congrArg (Value.int .u32) (one_out (by omega)).symm | exact congrArg (Value.int .u32) (one_in (by assumption) (by assumption))))⟩⟩⟩⟩⟩⟩)

set_option maxRecDepth 20000 in
theorem bits_Has (m : Int) (n : Int) (hm : inU32 m) : CallOb P0 8 #[.int .u32 m, .int .i64 n] [some (.ro G)] (pureRec (.bool (hasB m n))) :=
  sym_fn (fn := F8) (b := B8) (n := 10) mixed [(0, .int .u32 m), (1, .int .i64 n)] [.tmp 4] (.reg 1 ⟨0, [(2, .call [0] [] [] (pureRec (.int .u32 (oneI n))))], []⟩ (fun b2 g2 => .ret [] [])) (by kernel_rfl) (by kernel_rfl) (by kernel_rfl) (by kernel_rfl) (by kernel_rfl) (by kernel_rfl) fun R q => via (B := (AllG fun b2 g2 => (CallOb P0 20 #[.int .i64 n] [some (.ro G)] (pureRec (.int .u32 (oneI n))) ∧ R (.bool ((bAnd .u32 m (oneI n)) != 0)) []))) (by kernel_rfl)
    (by exact fun b2 g2 => ⟨(bits_one n ), q _ _ (retQ_pure (by exact congrArg Value.bool (has_eq hm)))⟩)

set_option maxRecDepth 20000 in
theorem bits_With (m : Int) (n : Int) (hm : inU32 m) : CallOb P0 10 #[.int .u32 m, .int .i64 n] [some (.ro G)] (pureRec (.int .u32 (withI m n))) :=
  sym_fn (fn := F10) (b := B10) (n := 9) mixed [(0, .int .u32 m), (1, .int .i64 n)] [.tmp 4] (.reg 1 ⟨0, [(2, .call [0] [] [] (pureRec (.int .u32 (oneI n))))], []⟩ (fun b2 g2 => .ret [] [])) (by kernel_rfl) (by kernel_rfl) (by kernel_rfl) (by kernel_rfl) (by kernel_rfl) (by kernel_rfl) fun R q => via (B := (AllG fun b2 g2 => (CallOb P0 20 #[.int .i64 n] [some (.ro G)] (pureRec (.int .u32 (oneI n))) ∧ R (.int .u32 (bOr .u32 m (oneI n))) []))) (by kernel_rfl)
    (by exact fun b2 g2 => ⟨(bits_one n ), q _ _ (retQ_pure (by exact congrArg (Value.int .u32) (with_eq hm)))⟩)

set_option maxRecDepth 20000 in
theorem bits_Without (m : Int) (n : Int) (hm : inU32 m) : CallOb P0 12 #[.int .u32 m, .int .i64 n] [some (.ro G)] (pureRec (.int .u32 (withoutI m n))) :=
  sym_fn (fn := F12) (b := B12) (n := 9) mixed [(0, .int .u32 m), (1, .int .i64 n)] [.tmp 4] (.reg 1 ⟨0, [(2, .call [0] [] [] (pureRec (.int .u32 (oneI n))))], []⟩ (fun b2 g2 => .ret [] [])) (by kernel_rfl) (by kernel_rfl) (by kernel_rfl) (by kernel_rfl) (by kernel_rfl) (by kernel_rfl) fun R q => via (B := (AllG fun b2 g2 => (CallOb P0 20 #[.int .i64 n] [some (.ro G)] (pureRec (.int .u32 (oneI n))) ∧ R (.int .u32 (bAndNot .u32 m (oneI n))) []))) (by kernel_rfl)
    (by exact fun b2 g2 => ⟨(bits_one n ), q _ _ (retQ_pure (by exact congrArg (Value.int .u32) (without_eq hm)))⟩)

set_option maxRecDepth 20000 in
theorem bits_TZ (m : Int) (hm : inU32 m) : CallOb P0 22 #[.int .u32 m] [some (.ro G)] (pureRec (.int .i64 ((leastN m.toNat : Nat) : Int))) :=
  sym_fn (fn := F22) (b := B22) (n := 14) mixed [(0, .int .u32 m)] [.tmp 2] (.br (.ret [] []) (.reg 3 ⟨0, [(6, .ix 0 0 (Int.toNat (iShr (iMul .u32 (bAnd .u32 m (iSub .u32 0 m)) 125613361) 27))), (7, .rd 0 (.int .u8 (dbTab.getD (Int.toNat (iShr (iMul .u32 (bAnd .u32 m (iSub .u32 0 m)) 125613361) 27)) 0)))], []⟩ (fun b8 g8 => .ret [] []))) (by kernel_rfl) (by kernel_rfl) (by kernel_rfl) (by kernel_rfl) (by kernel_rfl) (by kernel_rfl) fun R q => via (B := (((m == 0) = true → R (.int .i64 32) []) ∧ ((m == 0) = false → (AllG fun b8 g8 => ((some ⟨0, 0, none⟩ : Option Addr) = some ⟨0, 0, none⟩ ∧ ((iShr (iMul .u32 (bAnd .u32 m (iSub .u32 0 m)) 125613361) 27) = ((Int.toNat (iShr (iMul .u32 (bAnd .u32 m (iSub .u32 0 m)) 125613361) 27) : Nat) : Int) ∧ (Int.toNat (iShr (iMul .u32 (bAnd .u32 m (iSub .u32 0 m)) 125613361) 27) < 32 ∧ (Reads P0 (.ro G) 5 ⟨0, (0 + Int.toNat (iShr (iMul .u32 (bAnd .u32 m (iSub .u32 0 m)) 125613361) 27) * 1), none⟩ (.int .u8 (dbTab.getD (Int.toNat (iShr (iMul .u32 (bAnd .u32 m (iSub .u32 0 m)) 125613361) 27)) 0)) ∧ R (.int .i64 (iCv .i64 (dbTab.getD (Int.toNat (iShr (iMul .u32 (bAnd .u32 m (iSub .u32 0 m)) 125613361) 27)) 0))) [])))))))) (by kernel_rfl)
    (by exact ⟨fun h3 => have p4 := eq_of_beq h3; q _ _ (retQ_pure (by first | exact congrArg (Value.int .i64) (tz_eq hm (ne_of_beq_false (by assumption))) | exact congrArg (Value.int .i64) (tz0 (by assumption)))), fun h6 => have p7 := ne_of_beq_false h6; fun b8 g8 => ⟨rfl, ⟨(tz_ix hm (ne_of_beq_false h6)).1, ⟨(tz_ix hm (ne_of_beq_false h6)).2, ⟨(reads_seg (encI_ok.load1 ta5 tq5 (getD_some (tz_ix hm (ne_of_beq_false h6)).2) rfl) rfl), q _ _ (retQ_pure (by first | exact congrArg (Value.int .i64) (tz_eq hm (ne_of_beq_false (by assumption))) | exact congrArg (Value.int .i64) (tz0 (by assumption))))⟩⟩⟩⟩⟩)

set_option maxRecDepth 20000 in
theorem bits_OC (m : Int) (hm : inU32 m) : CallOb P0 23 #[.int .u32 m] [some (.ro G)] (pureRec (.int .i64 ((popN m.toNat : Nat) : Int))) :=
  sym_fn (fn := F23) (b := B23) (n := 21) mixed [(0, .int .u32 m)] [.tmp 2] (.reg 1 ⟨0, [(2, .call [] [] [] (pureRec (.int .u8 (Lib.pop8 (iShr m 24))))), (6, .call [] [] [] (pureRec (.int .u8 (Lib.pop8 (bAnd .u32 (iShr m 16) 255))))), (11, .call [] [] [] (pureRec (.int .u8 (Lib.pop8 (bAnd .u32 (iShr m 8) 255))))), (15, .call [] [] [] (pureRec (.int .u8 (Lib.pop8 (bAnd .u32 m 255)))))], []⟩ (fun b2 g2 => .ret [] [])) (by kernel_rfl) (by kernel_rfl) (by kernel_rfl) (by kernel_rfl) (by kernel_rfl) (by kernel_rfl) fun R q => via (B := (AllG fun b2 g2 => (SemOb P0 (vS (Instr.index 9 (.string Lib.pop8tab) (.int .u32 (iShr m 24)))) [] (pureRec (.int .u8 (Lib.pop8 (iShr m 24)))) ∧ (SemOb P0 (vS (Instr.index 9 (.string Lib.pop8tab) (.int .u32 (bAnd .u32 (iShr m 16) 255)))) [] (pureRec (.int .u8 (Lib.pop8 (bAnd .u32 (iShr m 16) 255)))) ∧ (SemOb P0 (vS (Instr.index 9 (.string Lib.pop8tab) (.int .u32 (bAnd .u32 (iShr m 8) 255)))) [] (pureRec (.int .u8 (Lib.pop8 (bAnd .u32 (iShr m 8) 255)))) ∧ (SemOb P0 (vS (Instr.index 9 (.string Lib.pop8tab) (.int .u32 (bAnd .u32 m 255)))) [] (pureRec (.int .u8 (Lib.pop8 (bAnd .u32 m 255)))) ∧ R (.int .i64 (iCv .i64 (iAdd .u8 (iAdd .u8 (iAdd .u8 (Lib.pop8 (iShr m 24)) (Lib.pop8 (bAnd .u32 (iShr m 16) 255))) (Lib.pop8 (bAnd .u32 (iShr m 8) 255))) (Lib.pop8 (bAnd .u32 m 255))))) [])))))) (by kernel_rfl)
    (by exact fun b2 g2 => ⟨(ix_pop8 us9 (pop_ix24 hm).1 (pop_ix24 hm).2), ⟨(ix_pop8 us9 (and_ix (and_shr hm 16)).1 (and_ix (and_shr hm 16)).2), ⟨(ix_pop8 us9 (and_ix (and_shr hm 8)).1 (and_ix (and_shr hm 8)).2), ⟨(ix_pop8 us9 (and_ix (and_low hm)).1 (and_ix (and_low hm)).2), q _ _ (retQ_pure (by exact congrArg (Value.int .i64) (pop_eq hm)))⟩⟩⟩⟩)

set_option maxRecDepth 20000 in
theorem bits_Least (m : Int) (hm : inU32 m) : CallOb P0 14 #[.int .u32 m] [some (.ro G)] (pureRec (.tuple #[.int .i64 (lstI m), .bool (!(m == 0))])) :=
  sym_fn (fn := F14) (b := B14) (n := 8) mixed [(0, .int .u32 m)] [.tmp 2, .tmp 3] (.br (.ret [] []) (.reg 3 ⟨0, [(1, .call [0] [] [] (pureRec (.int .i64 ((leastN m.toNat : Nat) : Int))))], []⟩ (fun b8 g8 => .ret [] []))) (by kernel_rfl) (by kernel_rfl) (by kernel_rfl) (by kernel_rfl) (by kernel_rfl) (by kernel_rfl) fun R q => via (B := (((m == 0) = true → R (.tuple #[.int .i64 0, .bool false]) []) ∧ ((m == 0) = false → (AllG fun b8 g8 => (CallOb P0 22 #[.int .u32 m] [some (.ro G)] (pureRec (.int .i64 ((leastN m.toNat : Nat) : Int))) ∧ R (.tuple #[.int .i64 ((leastN m.toNat : Nat) : Int), .bool true]) []))))) (by kernel_rfl)
    (by exact ⟨fun h3 => have p4 := eq_of_beq h3; q _ _ (retQ_pure (by first | (rw [‹(m == 0) = true›, show lstI m = 0 from if_pos (eq_of_beq ‹(m == 0) = true›)]; rfl) | (rw [‹(m == 0) = false›, show lstI m = ((leastN m.toNat : Nat) : Int) from if_neg (ne_of_beq_false ‹(m == 0) = false›)]; rfl))), fun h6 => have p7 := ne_of_beq_false h6; fun b8 g8 => ⟨(bits_TZ m (by first | assumption | omega | (simp only [in64, inU64, inU32, inU8] at *; omega))), q _ _ (retQ_pure (by first | (rw [‹(m == 0) = true›, show lstI m = 0 from if_pos (eq_of_beq ‹(m == 0) = true›)]; rfl) | (rw [‹(m == 0) = false›, show lstI m = ((leastN m.toNat : Nat) : Int) from if_neg (ne_of_beq_false ‹(m == 0) = false›)]; rfl)))⟩⟩)

set_option maxRecDepth 20000 in
theorem bits_Count (m : Int) (hm : inU32 m) : CallOb P0 16 #[.int .u32 m] [some (.ro G)] (pureRec (.int .i64 ((popN m.toNat : Nat) : Int))) :=
  sym_fn (fn := F16) (b := B16) (n := 5) mixed [(0, .int .u32 m)] [.tmp 2] (.reg 1 ⟨0, [(1, .call [0] [] [] (pureRec (.int .i64 ((popN m.toNat : Nat) : Int))))], []⟩ (fun b2 g2 => .ret [] [])) (by kernel_rfl) (by kernel_rfl) (by kernel_rfl) (by kernel_rfl) (by kernel_rfl) (by kernel_rfl) fun R q => via (B := (AllG fun b2 g2 => (CallOb P0 23 #[.int .u32 m] [some (.ro G)] (pureRec (.int .i64 ((popN m.toNat : Nat) : Int))) ∧ R (.int .i64 ((popN m.toNat : Nat) : Int)) []))) (by kernel_rfl)
    (by exact fun b2 g2 => ⟨(bits_OC m (by first | assumption | omega | (simp only [in64, inU64, inU32, inU8] at *; omega))), q _ _ (retQ_pure (by rfl))⟩)

set_option maxRecDepth 20000 in
theorem bits_Whole (n : Int) : CallOb P0 18 #[.int .i64 n] [some (.ro G)] (pureRec (.int .u32 (wholeI n))) :=
  sym_fn (fn := F18) (b := B18) (n := 9) mixed [(0, .int .i64 n)] [.tmp 2] (.br (.ret [] []) (.reg 3 ⟨0, [(2, .call [0] [] [] (pureRec (.int .u32 (oneI (if 0 > n then 0 else n)))))], []⟩ (fun b8 g8 => .ret [] []))) (by kernel_rfl) (by kernel_rfl) (by kernel_rfl) (by kernel_rfl) (by kernel_rfl) (by kernel_rfl) fun R q => via (B := (((decide (n ≥ 32)) = true → R (.int .u32 4294967295) []) ∧ ((decide (n ≥ 32)) = false → (AllG fun b8 g8 => (CallOb P0 20 #[.int .i64 (if 0 > n then 0 else n)] [some (.ro G)] (pureRec (.int .u32 (oneI (if 0 > n then 0 else n)))) ∧ R (.int .u32 (iSub .u32 (oneI (if 0 > n then 0 else n)) 1)) []))))) (by kernel_rfl)
    (by exact ⟨fun h3 => have p4 := of_decide_eq_true h3; q _ _ (retQ_pure (by first | exact congrArg (Value.int .u32) (if_pos (by assumption)).symm | exact congrArg (Value.int .u32) (whole_lt (by assumption)))), fun h6 => have p7 := of_decide_eq_false h6; fun b8 g8 => ⟨(bits_one (if 0 > n then 0 else n) ), q _ _ (retQ_pure (by first | exact congrArg (Value.int .u32) (if_pos (by assumption)).symm | exact congrArg (Value.int .u32) (whole_lt (by assumption))))⟩⟩)
end Go.Proofs.YtomkbgobmafhjaaDoor.Fl
