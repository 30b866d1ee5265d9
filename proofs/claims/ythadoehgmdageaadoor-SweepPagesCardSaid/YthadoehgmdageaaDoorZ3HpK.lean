/- Contracts of package class, and of its reference; of package bits. Conditions: each in its premises. -/
import Derived.Test.YthadoehgmdageaaDoorZ3HpBase
set_option linter.unusedVariables false
set_option linter.unusedSimpArgs false
namespace Go.Proofs.YthadoehgmdageaaDoor.Fl
open Go.RowKit
/-- What class.words holds. -/
def G : Ro := seg (0 + 1) 0 [.int .i64 2, .int .i64 4, .int .i64 8, .int .i64 16]
def isC (c : Int) : Bool := decide (0 ≤ c) && decide (c < 4)
def cWords (c : Int) : Int := if c = 0 then 2 else if c = 1 then 4 else if c = 2 then 8 else if c = 3 then 16 else 0
def cBlocks (c : Int) : Int := if c = 0 then 16 else if c = 1 then 8 else if c = 2 then 4 else if c = 3 then 2 else 0
def cFields (c : Int) : Int := if c = 0 then 1 else if c = 1 then 3 else if c = 2 then 7 else if c = 3 then 15 else 0
theorem isC_cases {c : Int} (h : isC c = true) : c = 0 ∨ c = 1 ∨ c = 2 ∨ c = 3 := by
  simp [isC] at h; omega
theorem isC_no {c : Int} (h : isC c = false) : cWords c = 0 ∧ cBlocks c = 0 ∧ cFields c = 0 := by
  have : ¬ (0 ≤ c ∧ c < 4) := fun ⟨a, b⟩ => by simp [isC, a, b] at h
  unfold cWords cBlocks cFields
  refine ⟨?_, ?_, ?_⟩ <;> (repeat' split) <;> omega
theorem isC_nat {c : Int} (h : isC c = true) : c = ((Int.toNat c : Nat) : Int) ∧ Int.toNat c < 4 := by
  rcases isC_cases h with rfl | rfl | rfl | rfl <;> decide
theorem reads_words {c : Int} (h : isC c = true) : Reads P0 (.ro G) 3 ⟨0, 0 + Int.toNat c * 1, none⟩ (.int .i64 (cWords c)) := by
  rcases isC_cases h with rfl | rfl | rfl | rfl
  · exact reads_seg (o := 0) (by kernel_rfl) rfl
  · exact reads_seg (o := 1) (by kernel_rfl) rfl
  · exact reads_seg (o := 2) (by kernel_rfl) rfl
  · exact reads_seg (o := 3) (by kernel_rfl) rfl
theorem words_pos {c : Int} (h : isC c = true) : cWords c ≠ 0 ∧ iQuo .i64 32 (cWords c) = cBlocks c ∧ iSub .i64 (cWords c) 1 = cFields c := by
  rcases isC_cases h with rfl | rfl | rfl | rfl <;> decide


set_option maxRecDepth 20000 in
theorem class_is (c : Int) : CallOb P0 89 #[.int .i64 c] [some (.ro G)] (pureRec (.bool (isC c))) :=
  sym_fn (fn := F89) (b := B89) (n := 9) mixed [(0, .int .i64 c)] [.tmp 2] (.case 1 (decide (c ≥ 0)) (.reg 1 ⟨0, [(5, .dec true)], [(3, true), (4, true)]⟩ (fun b5 g5 => .ret [] [])) (.reg 1 ⟨0, [(5, .dec false)], [(3, false), (4, false)]⟩ (fun b8 g8 => .ret [] []))) (by kernel_rfl) (by kernel_rfl) (by kernel_rfl) (by kernel_rfl) (by kernel_rfl) (by kernel_rfl) fun R__ q__ => via (B := (((decide (c ≥ 0)) = true → (AllG fun b5 g5 => (((decide (c ≥ 0)) == true) = true ∧ (((decide (c ≥ 0)) == true) = true ∧ ((decide (c ≥ 0)) = true ∧ R__ (.bool (decide (c < 4))) []))))) ∧ ((decide (c ≥ 0)) = false → (AllG fun b8 g8 => (((decide (c ≥ 0)) == true) = false ∧ (((decide (c ≥ 0)) == true) = false ∧ ((decide (c ≥ 0)) = false ∧ R__ (.bool false) []))))))) (by kernel_rfl)
    (by exact ⟨fun h3 => have p4 := of_decide_eq_true h3; fun b5 g5 => ⟨(gd_tt h3), ⟨(gd_tt h3), ⟨h3, q__ _ _ (retQ_pure (by first | rfl | (simp_all [tupV, isC]; done) | (simp_all [tupV, isC] <;> omega)))⟩⟩⟩, fun h6 => have p7 := of_decide_eq_false h6; fun b8 g8 => ⟨(gd_ft h6), ⟨(gd_ft h6), ⟨h6, q__ _ _ (retQ_pure (by first | rfl | (simp_all [tupV, isC]; done) | (simp_all [tupV, isC] <;> omega)))⟩⟩⟩⟩)

set_option maxRecDepth 20000 in
theorem class_Words (c : Int) : CallOb P0 62 #[.int .i64 c] [some (.ro G)] (pureRec (.int .i64 (cWords c))) :=
  sym_fn (fn := F62) (b := B62) (n := 9) mixed [(0, .int .i64 c)] [.tmp 2] (.reg 1 ⟨0, [(1, .call [0] [] [] (pureRec (.bool (isC c))))], []⟩ (fun b2 g2 => .br (.ret [] []) (.reg 3 ⟨0, [(1, .ix 0 0 (Int.toNat c)), (2, .rd 0 (.int .i64 (cWords c)))], []⟩ (fun b6 g6 => .ret [] [])))) (by kernel_rfl) (by kernel_rfl) (by kernel_rfl) (by kernel_rfl) (by kernel_rfl) (by kernel_rfl) fun R__ q__ => via (B := (AllG fun b2 g2 => (CallOb P0 89 #[.int .i64 c] [some (.ro G)] (pureRec (.bool (isC c))) ∧ (((!(isC c)) = true → R__ (.int .i64 0) []) ∧ ((!(isC c)) = false → (AllG fun b6 g6 => ((some ⟨0, 0, none⟩ : Option Addr) = some ⟨0, 0, none⟩ ∧ (c = ((Int.toNat c : Nat) : Int) ∧ (Int.toNat c < 4 ∧ (Reads P0 (.ro G) 3 ⟨0, (0 + Int.toNat c * 1), none⟩ (.int .i64 (cWords c)) ∧ R__ (.int .i64 (cWords c)) [])))))))))) (by kernel_rfl)
    (by exact fun b2 g2 => ⟨(class_is c ), ⟨fun h3 => q__ _ _ (retQ_pure (by first | rfl | exact congrArg (Value.int .i64) (isC_no (not_t (by assumption))).1.symm)), fun h5 => fun b6 g6 => ⟨rfl, ⟨(isC_nat (not_f h5)).1, ⟨(isC_nat (not_f h5)).2, ⟨(reads_words (not_f h5)), q__ _ _ (retQ_pure (by first | rfl | exact congrArg (Value.int .i64) (isC_no (not_t (by assumption))).1.symm))⟩⟩⟩⟩⟩⟩)

set_option maxRecDepth 20000 in
theorem class_Blocks (c : Int) : CallOb P0 61 #[.int .i64 c] [some (.ro G)] (pureRec (.int .i64 (cBlocks c))) :=
  sym_fn (fn := F61) (b := B61) (n := 10) mixed [(0, .int .i64 c)] [.tmp 2] (.reg 1 ⟨0, [(1, .call [0] [] [] (pureRec (.bool (isC c))))], []⟩ (fun b2 g2 => .br (.ret [] []) (.reg 3 ⟨0, [(1, .ix 0 0 (Int.toNat c)), (2, .rd 0 (.int .i64 (cWords c)))], []⟩ (fun b6 g6 => .ret [] [])))) (by kernel_rfl) (by kernel_rfl) (by kernel_rfl) (by kernel_rfl) (by kernel_rfl) (by kernel_rfl) fun R__ q__ => via (B := (AllG fun b2 g2 => (CallOb P0 89 #[.int .i64 c] [some (.ro G)] (pureRec (.bool (isC c))) ∧ (((!(isC c)) = true → R__ (.int .i64 0) []) ∧ ((!(isC c)) = false → (AllG fun b6 g6 => ((some ⟨0, 0, none⟩ : Option Addr) = some ⟨0, 0, none⟩ ∧ (c = ((Int.toNat c : Nat) : Int) ∧ (Int.toNat c < 4 ∧ (Reads P0 (.ro G) 3 ⟨0, (0 + Int.toNat c * 1), none⟩ (.int .i64 (cWords c)) ∧ ((cWords c) ≠ (0 : Int) ∧ R__ (.int .i64 (iQuo .i64 32 (cWords c))) []))))))))))) (by kernel_rfl)
    (by exact fun b2 g2 => ⟨(class_is c ), ⟨fun h3 => q__ _ _ (retQ_pure (by first | exact congrArg (Value.int .i64) (words_pos (not_f (by assumption))).2.1 | exact congrArg (Value.int .i64) (isC_no (not_t (by assumption))).2.1.symm)), fun h5 => fun b6 g6 => ⟨rfl, ⟨(isC_nat (not_f h5)).1, ⟨(isC_nat (not_f h5)).2, ⟨(reads_words (not_f h5)), ⟨(words_pos (not_f (by assumption))).1, q__ _ _ (retQ_pure (by first | exact congrArg (Value.int .i64) (words_pos (not_f (by assumption))).2.1 | exact congrArg (Value.int .i64) (isC_no (not_t (by assumption))).2.1.symm))⟩⟩⟩⟩⟩⟩⟩)

theorem isC_of {c : Int} (h1 : ¬ c < 0) (h2 : ¬ c > 3) : c = 0 ∨ c = 1 ∨ c = 2 ∨ c = 3 := by omega
theorem isC_out {c : Int} (h : c < 0 ∨ c > 3) : cWords c = 0 ∧ cBlocks c = 0 ∧ cFields c = 0 := isC_no (by simp [isC]; omega)
set_option maxRecDepth 20000 in
theorem ref04_Words0  : CallOb P0 38 #[.int .i64 0] [some (.ro G)] (pureRec (.int .i64 2)) :=
  sym_fn (fn := F38) (b := B38) (n := 19) mixed [(0, .int .i64 0)] [.tmp 2] (.unroll 6 (.ret [] [])) (by kernel_rfl) (by kernel_rfl) (by kernel_rfl) (by kernel_rfl) (by kernel_rfl) (by kernel_rfl) fun R__ q__ => via (B := R__ (.int .i64 2) []) (by kernel_rfl)
    (by exact q__ _ _ (retQ_pure (by first | rfl | (simp_all [tupV, eq_self]; done) | (simp_all [tupV, eq_self] <;> omega))))

set_option maxRecDepth 20000 in
theorem ref04_Words1  : CallOb P0 38 #[.int .i64 1] [some (.ro G)] (pureRec (.int .i64 4)) :=
  sym_fn (fn := F38) (b := B38) (n := 19) mixed [(0, .int .i64 1)] [.tmp 2] (.unroll 6 (.ret [] [])) (by kernel_rfl) (by kernel_rfl) (by kernel_rfl) (by kernel_rfl) (by kernel_rfl) (by kernel_rfl) fun R__ q__ => via (B := R__ (.int .i64 4) []) (by kernel_rfl)
    (by exact q__ _ _ (retQ_pure (by first | rfl | (simp_all [tupV, eq_self]; done) | (simp_all [tupV, eq_self] <;> omega))))

set_option maxRecDepth 20000 in
theorem ref04_Words2  : CallOb P0 38 #[.int .i64 2] [some (.ro G)] (pureRec (.int .i64 8)) :=
  sym_fn (fn := F38) (b := B38) (n := 19) mixed [(0, .int .i64 2)] [.tmp 2] (.unroll 6 (.ret [] [])) (by kernel_rfl) (by kernel_rfl) (by kernel_rfl) (by kernel_rfl) (by kernel_rfl) (by kernel_rfl) fun R__ q__ => via (B := R__ (.int .i64 8) []) (by kernel_rfl)
    (by exact q__ _ _ (retQ_pure (by first | rfl | (simp_all [tupV, eq_self]; done) | (simp_all [tupV, eq_self] <;> omega))))

set_option maxRecDepth 20000 in
theorem ref04_Words3  : CallOb P0 38 #[.int .i64 3] [some (.ro G)] (pureRec (.int .i64 16)) :=
  sym_fn (fn := F38) (b := B38) (n := 19) mixed [(0, .int .i64 3)] [.tmp 2] (.unroll 6 (.ret [] [])) (by kernel_rfl) (by kernel_rfl) (by kernel_rfl) (by kernel_rfl) (by kernel_rfl) (by kernel_rfl) fun R__ q__ => via (B := R__ (.int .i64 16) []) (by kernel_rfl)
    (by exact q__ _ _ (retQ_pure (by first | rfl | (simp_all [tupV, eq_self]; done) | (simp_all [tupV, eq_self] <;> omega))))

set_option maxRecDepth 20000 in
theorem ref04_WordsX (c : Int) (h : c < 0 ∨ c > 3) : CallOb P0 38 #[.int .i64 c] [some (.ro G)] (pureRec (.int .i64 0)) :=
  sym_fn (fn := F38) (b := B38) (n := 19) mixed [(0, .int .i64 c)] [.tmp 2] (.case 1 (decide (c < 0)) (.reg 1 ⟨0, [(5, .dec true)], [(3, false), (4, false)]⟩ (fun b5 g5 => .ret [] [])) (.reg 1 ⟨0, [(5, .dec false)], [(3, true), (4, true)]⟩ (fun b9 g9 => .tt (.ret [] [])))) (by kernel_rfl) (by kernel_rfl) (by kernel_rfl) (by kernel_rfl) (by kernel_rfl) (by kernel_rfl) fun R__ q__ => via (B := (((decide (c < 0)) = true → (AllG fun b5 g5 => (((decide (c < 0)) == false) = false ∧ (((decide (c < 0)) == false) = false ∧ ((decide (c < 0)) = true ∧ R__ (.int .i64 0) []))))) ∧ ((decide (c < 0)) = false → (AllG fun b9 g9 => (((decide (c < 0)) == false) = true ∧ (((decide (c < 0)) == false) = true ∧ ((decide (c < 0)) = false ∧ ((decide (c > 3)) = true ∧ R__ (.int .i64 0) [])))))))) (by kernel_rfl)
    (by exact ⟨fun h3 => have p4 := of_decide_eq_true h3; fun b5 g5 => ⟨(gd_tf h3), ⟨(gd_tf h3), ⟨h3, q__ _ _ (retQ_pure (by first | rfl | (simp_all [tupV, eq_self]; done) | (simp_all [tupV, eq_self] <;> omega)))⟩⟩⟩, fun h7 => have p8 := of_decide_eq_false h7; fun b9 g9 => ⟨(gd_ff h7), ⟨(gd_ff h7), ⟨h7, ⟨(decide_eq_true (by omega)), q__ _ _ (retQ_pure (by first | rfl | (simp_all [tupV, eq_self]; done) | (simp_all [tupV, eq_self] <;> omega)))⟩⟩⟩⟩⟩)

theorem ref04_Words (c : Int) : CallOb P0 38 #[.int .i64 c] [some (.ro G)] (pureRec (.int .i64 (cWords c))) := by
  by_cases h : c < 0 ∨ c > 3
  · rw [show cWords c = 0 from (isC_out h).1]; exact ref04_WordsX c h
  · rcases isC_of (fun e => h (.inl e)) (fun e => h (.inr e)) with rfl | rfl | rfl | rfl
    · exact ref04_Words0
    · exact ref04_Words1
    · exact ref04_Words2
    · exact ref04_Words3

set_option maxRecDepth 20000 in
theorem ref04_Blocks0  : CallOb P0 39 #[.int .i64 0] [some (.ro G)] (pureRec (.int .i64 16)) :=
  sym_fn (fn := F39) (b := B39) (n := 19) mixed [(0, .int .i64 0)] [.tmp 2] (.unroll 6 (.ret [] [])) (by kernel_rfl) (by kernel_rfl) (by kernel_rfl) (by kernel_rfl) (by kernel_rfl) (by kernel_rfl) fun R__ q__ => via (B := R__ (.int .i64 16) []) (by kernel_rfl)
    (by exact q__ _ _ (retQ_pure (by first | rfl | (simp_all [tupV, eq_self]; done) | (simp_all [tupV, eq_self] <;> omega))))

set_option maxRecDepth 20000 in
theorem ref04_Blocks1  : CallOb P0 39 #[.int .i64 1] [some (.ro G)] (pureRec (.int .i64 8)) :=
  sym_fn (fn := F39) (b := B39) (n := 19) mixed [(0, .int .i64 1)] [.tmp 2] (.unroll 6 (.ret [] [])) (by kernel_rfl) (by kernel_rfl) (by kernel_rfl) (by kernel_rfl) (by kernel_rfl) (by kernel_rfl) fun R__ q__ => via (B := R__ (.int .i64 8) []) (by kernel_rfl)
    (by exact q__ _ _ (retQ_pure (by first | rfl | (simp_all [tupV, eq_self]; done) | (simp_all [tupV, eq_self] <;> omega))))

set_option maxRecDepth 20000 in
theorem ref04_Blocks2  : CallOb P0 39 #[.int .i64 2] [some (.ro G)] (pureRec (.int .i64 4)) :=
  sym_fn (fn := F39) (b := B39) (n := 19) mixed [(0, .int .i64 2)] [.tmp 2] (.unroll 6 (.ret [] [])) (by kernel_rfl) (by kernel_rfl) (by kernel_rfl) (by kernel_rfl) (by kernel_rfl) (by kernel_rfl) fun R__ q__ => via (B := R__ (.int .i64 4) []) (by kernel_rfl)
    (by exact q__ _ _ (retQ_pure (by first | rfl | (simp_all [tupV, eq_self]; done) | (simp_all [tupV, eq_self] <;> omega))))

set_option maxRecDepth 20000 in
theorem ref04_Blocks3  : CallOb P0 39 #[.int .i64 3] [some (.ro G)] (pureRec (.int .i64 2)) :=
  sym_fn (fn := F39) (b := B39) (n := 19) mixed [(0, .int .i64 3)] [.tmp 2] (.unroll 6 (.ret [] [])) (by kernel_rfl) (by kernel_rfl) (by kernel_rfl) (by kernel_rfl) (by kernel_rfl) (by kernel_rfl) fun R__ q__ => via (B := R__ (.int .i64 2) []) (by kernel_rfl)
    (by exact q__ _ _ (retQ_pure (by first | rfl | (simp_all [tupV, eq_self]; done) | (simp_all [tupV, eq_self] <;> omega))))

set_option maxRecDepth 20000 in
theorem ref04_BlocksX (c : Int) (h : c < 0 ∨ c > 3) : CallOb P0 39 #[.int .i64 c] [some (.ro G)] (pureRec (.int .i64 0)) :=
  sym_fn (fn := F39) (b := B39) (n := 19) mixed [(0, .int .i64 c)] [.tmp 2] (.case 1 (decide (c < 0)) (.reg 1 ⟨0, [(5, .dec true)], [(3, false), (4, false)]⟩ (fun b5 g5 => .ret [] [])) (.reg 1 ⟨0, [(5, .dec false)], [(3, true), (4, true)]⟩ (fun b9 g9 => .tt (.ret [] [])))) (by kernel_rfl) (by kernel_rfl) (by kernel_rfl) (by kernel_rfl) (by kernel_rfl) (by kernel_rfl) fun R__ q__ => via (B := (((decide (c < 0)) = true → (AllG fun b5 g5 => (((decide (c < 0)) == false) = false ∧ (((decide (c < 0)) == false) = false ∧ ((decide (c < 0)) = true ∧ R__ (.int .i64 0) []))))) ∧ ((decide (c < 0)) = false → (AllG fun b9 g9 => (((decide (c < 0)) == false) = true ∧ (((decide (c < 0)) == false) = true ∧ ((decide (c < 0)) = false ∧ ((decide (c > 3)) = true ∧ R__ (.int .i64 0) [])))))))) (by kernel_rfl)
    (by exact ⟨fun h3 => have p4 := of_decide_eq_true h3; fun b5 g5 => ⟨(gd_tf h3), ⟨(gd_tf h3), ⟨h3, q__ _ _ (retQ_pure (by first | rfl | (simp_all [tupV, eq_self]; done) | (simp_all [tupV, eq_self] <;> omega)))⟩⟩⟩, fun h7 => have p8 := of_decide_eq_false h7; fun b9 g9 => ⟨(gd_ff h7), ⟨(gd_ff h7), ⟨h7, ⟨(decide_eq_true (by omega)), q__ _ _ (retQ_pure (by first | rfl | (simp_all [tupV, eq_self]; done) | (simp_all [tupV, eq_self] <;> omega)))⟩⟩⟩⟩⟩)

theorem ref04_Blocks (c : Int) : CallOb P0 39 #[.int .i64 c] [some (.ro G)] (pureRec (.int .i64 (cBlocks c))) := by
  by_cases h : c < 0 ∨ c > 3
  · rw [show cBlocks c = 0 from (isC_out h).2.1]; exact ref04_BlocksX c h
  · rcases isC_of (fun e => h (.inl e)) (fun e => h (.inr e)) with rfl | rfl | rfl | rfl
    · exact ref04_Blocks0
    · exact ref04_Blocks1
    · exact ref04_Blocks2
    · exact ref04_Blocks3


def lstI (m : Int) : Int := if m = 0 then 0 else ((leastN m.toNat : Nat) : Int)
def wholeI (n : Int) : Int := if n ≥ 32 then 4294967295 else if n ≤ 0 then 0 else ((2 ^ n.toNat - 1 : Nat) : Int)
theorem whole_all : ∀ k : Fin 32, iSub .u32 (oneI ((k.val : Nat) : Int)) 1 = if ((k.val : Nat) : Int) ≤ 0 then 0 else ((2 ^ k.val - 1 : Nat) : Int) := by decide
theorem whole_lt {n : Int} (h : ¬ n ≥ 32) : iSub .u32 (oneI (if 0 > n then 0 else n)) 1 = wholeI n := by
  unfold wholeI; rw [if_neg h]
  by_cases h0 : n ≤ 0
  · rw [if_pos h0]
    have : (if 0 > n then 0 else n) = 0 := by split <;> omega
    rw [this]; decide
  · rw [if_neg h0, if_neg (by omega)]
    have := whole_all ⟨n.toNat, by omega⟩
    simp only at this
    rw [show ((n.toNat : Nat) : Int) = n by omega, if_neg h0] at this
    exact this


set_option maxRecDepth 20000 in
theorem bits_one (n : Int) : CallOb P0 120 #[.int .i64 n] [] (pureRec (.int .u32 (oneI n))) :=
  sym_fn (fn := F120) (b := B120) (n := 11) mixed [(0, .int .i64 n)] [.tmp 2] (.case 1 (decide (n < 0)) (.reg 1 ⟨0, [(5, .dec true)], [(3, false), (4, false)]⟩ (fun b5 g5 => .ret [] [])) (.reg 1 ⟨0, [(5, .dec false)], [(3, true), (4, true)]⟩ (fun b9 g9 => .br (.ret [] []) (.ret [] [])))) (by kernel_rfl) (by kernel_rfl) (by kernel_rfl) (by kernel_rfl) (by kernel_rfl) (by kernel_rfl) fun R__ q__ => via (B := (((decide (n < 0)) = true → (AllG fun b5 g5 => (((decide (n < 0)) == false) = false ∧ (((decide (n < 0)) == false) = false ∧ ((decide (n < 0)) = true ∧ R__ (.int .u32 0) []))))) ∧ ((decide (n < 0)) = false → (AllG fun b9 g9 => (((decide (n < 0)) == false) = true ∧ (((decide (n < 0)) == false) = true ∧ ((decide (n < 0)) = false ∧ (((decide (n ≥ 32)) = true → R__ (.int .u32 0) []) ∧ ((decide (n ≥ 32)) = false → ((0 : Int) ≤ n ∧ R__ (.int .u32 (iShl .u32 1 (min (Int.toNat n) 32))) [])))))))))) (by kernel_rfl)
    (by exact ⟨fun h3 => have p4 := of_decide_eq_true h3; fun b5 g5 => ⟨(gd_tf h3), ⟨(gd_tf h3), ⟨h3, q__ _ _ (retQ_pure (by first | exact congrArg (Value.int .u32) (one_out (by omega)).symm | exact congrArg (Value.int .u32) (one_in (by assumption) (by assumption))))⟩⟩⟩, fun h7 => have p8 := of_decide_eq_false h7; fun b9 g9 => ⟨(gd_ff h7), ⟨(gd_ff h7), ⟨h7, ⟨fun h10 => have p11 := of_decide_eq_true h10; q__ _ _ (retQ_pure (by first | exact congrArg (Value.int .u32) (one_out (by omega)).symm | exact congrArg (Value.int .u32) (one_in (by assumption) (by assumption)))), fun h13 => have p14 := of_decide_eq_false h13; ⟨(by omega), q__ _ _ (retQ_pure (by first | exact congrArg (Value.int .u32) (one_out (by omega)).symm | exact congrArg (Value.int .u32) (one_in (by assumption) (by assumption))))⟩⟩⟩⟩⟩⟩)

set_option maxRecDepth 20000 in
theorem bits_Has (m : Int) (n : Int) (hm : inU32 m) : CallOb P0 106 #[.int .u32 m, .int .i64 n] [] (pureRec (.bool (hasB m n))) :=
  sym_fn (fn := F106) (b := B106) (n := 10) mixed [(0, .int .u32 m), (1, .int .i64 n)] [.tmp 4] (.reg 1 ⟨0, [(2, .call [] [] [] (pureRec (.int .u32 (oneI n))))], []⟩ (fun b2 g2 => .ret [] [])) (by kernel_rfl) (by kernel_rfl) (by kernel_rfl) (by kernel_rfl) (by kernel_rfl) (by kernel_rfl) fun R__ q__ => via (B := (AllG fun b2 g2 => (CallOb P0 120 #[.int .i64 n] [] (pureRec (.int .u32 (oneI n))) ∧ R__ (.bool ((bAnd .u32 m (oneI n)) != 0)) []))) (by kernel_rfl)
    (by exact fun b2 g2 => ⟨(bits_one n ), q__ _ _ (retQ_pure (by exact congrArg Value.bool (has_eq hm)))⟩)

set_option maxRecDepth 20000 in
theorem bits_With (m : Int) (n : Int) (hm : inU32 m) : CallOb P0 115 #[.int .u32 m, .int .i64 n] [] (pureRec (.int .u32 (withI m n))) :=
  sym_fn (fn := F115) (b := B115) (n := 9) mixed [(0, .int .u32 m), (1, .int .i64 n)] [.tmp 4] (.reg 1 ⟨0, [(2, .call [] [] [] (pureRec (.int .u32 (oneI n))))], []⟩ (fun b2 g2 => .ret [] [])) (by kernel_rfl) (by kernel_rfl) (by kernel_rfl) (by kernel_rfl) (by kernel_rfl) (by kernel_rfl) fun R__ q__ => via (B := (AllG fun b2 g2 => (CallOb P0 120 #[.int .i64 n] [] (pureRec (.int .u32 (oneI n))) ∧ R__ (.int .u32 (bOr .u32 m (oneI n))) []))) (by kernel_rfl)
    (by exact fun b2 g2 => ⟨(bits_one n ), q__ _ _ (retQ_pure (by exact congrArg (Value.int .u32) (with_eq hm)))⟩)

set_option maxRecDepth 20000 in
theorem bits_Whole (n : Int) : CallOb P0 116 #[.int .i64 n] [] (pureRec (.int .u32 (wholeI n))) :=
  sym_fn (fn := F116) (b := B116) (n := 9) mixed [(0, .int .i64 n)] [.tmp 2] (.br (.ret [] []) (.reg 3 ⟨0, [(2, .call [] [] [] (pureRec (.int .u32 (oneI (if 0 > n then 0 else n)))))], []⟩ (fun b8 g8 => .ret [] []))) (by kernel_rfl) (by kernel_rfl) (by kernel_rfl) (by kernel_rfl) (by kernel_rfl) (by kernel_rfl) fun R__ q__ => via (B := (((decide (n ≥ 32)) = true → R__ (.int .u32 4294967295) []) ∧ ((decide (n ≥ 32)) = false → (AllG fun b8 g8 => (CallOb P0 120 #[.int .i64 (if 0 > n then 0 else n)] [] (pureRec (.int .u32 (oneI (if 0 > n then 0 else n)))) ∧ R__ (.int .u32 (iSub .u32 (oneI (if 0 > n then 0 else n)) 1)) []))))) (by kernel_rfl)
    (by exact ⟨fun h3 => have p4 := of_decide_eq_true h3; q__ _ _ (retQ_pure (by first | exact congrArg (Value.int .u32) (if_pos (by assumption)).symm | exact congrArg (Value.int .u32) (whole_lt (by assumption)))), fun h6 => have p7 := of_decide_eq_false h6; fun b8 g8 => ⟨(bits_one (if 0 > n then 0 else n) ), q__ _ _ (retQ_pure (by first | exact congrArg (Value.int .u32) (if_pos (by assumption)).symm | exact congrArg (Value.int .u32) (whole_lt (by assumption))))⟩⟩)
end Go.Proofs.YthadoehgmdageaaDoor.Fl
