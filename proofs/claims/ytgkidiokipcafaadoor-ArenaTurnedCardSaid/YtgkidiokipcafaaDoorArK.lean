/- Contracts of package class, and of its reference. Conditions: each in its premises. -/
import Derived.Test.YtgkidiokipcafaaDoorArBase
set_option linter.unusedVariables false
set_option linter.unusedSimpArgs false
namespace Go.Proofs.YtgkidiokipcafaaDoor.Fl
open Go.RowKit

/-! ### The specifications: numbers alone -/
/-- What class.words holds. -/
def G : Ro := seg (0 + 1) 0 [.int .i64 2, .int .i64 4, .int .i64 8, .int .i64 16]
def isC (c : Int) : Bool := decide (0 ≤ c) && decide (c < 4)
def cWords (c : Int) : Int := if c = 0 then 2 else if c = 1 then 4 else if c = 2 then 8 else if c = 3 then 16 else 0
def cBlocks (c : Int) : Int := if c = 0 then 16 else if c = 1 then 8 else if c = 2 then 4 else if c = 3 then 2 else 0
def cFields (c : Int) : Int := if c = 0 then 1 else if c = 1 then 3 else if c = 2 then 7 else if c = 3 then 15 else 0
def ofOk (n : Int) : Bool := decide (0 ≤ n) && decide (n < 16)
def cOf (n : Int) : Int := if ofOk n = true then (if n < 2 then 0 else if n < 4 then 1 else if n < 8 then 2 else 3) else 0
theorem isC_cases {c : Int} (h : isC c = true) : c = 0 ∨ c = 1 ∨ c = 2 ∨ c = 3 := by
  simp [isC] at h; omega
theorem isC_no {c : Int} (h : isC c = false) : cWords c = 0 ∧ cBlocks c = 0 ∧ cFields c = 0 := by
  have : ¬ (0 ≤ c ∧ c < 4) := fun ⟨a, b⟩ => by simp [isC, a, b] at h
  unfold cWords cBlocks cFields
  refine ⟨?_, ?_, ?_⟩ <;> (repeat' split) <;> omega
theorem isC_nat {c : Int} (h : isC c = true) : c = ((Int.toNat c : Nat) : Int) ∧ Int.toNat c < 4 := by
  rcases isC_cases h with rfl | rfl | rfl | rfl <;> decide
theorem reads_words {c : Int} (h : isC c = true) : Reads P0 (.ro G) 3 ⟨0, 0 + Int.toNat c * 1, none⟩ (.int .i64 (cWords c)) := by
  rcases isC_cases h with rfl | rfl | rfl | rfl
  · exact reads_seg (o := 0) (by kernel_rfl) rfl
  · exact reads_seg (o := 1) (by kernel_rfl) rfl
  · exact reads_seg (o := 2) (by kernel_rfl) rfl
  · exact reads_seg (o := 3) (by kernel_rfl) rfl
theorem reads_wordsAll : Reads P0 (.ro G) 68 ⟨0, 0, none⟩ (.agg #[.int .i64 2, .int .i64 4, .int .i64 8, .int .i64 16]) := reads_seg (o := 0) (by kernel_rfl) rfl
theorem words_pos {c : Int} (h : isC c = true) : cWords c ≠ 0 ∧ iQuo .i64 32 (cWords c) = cBlocks c ∧ iSub .i64 (cWords c) 1 = cFields c := by
  rcases isC_cases h with rfl | rfl | rfl | rfl <;> decide


set_option maxRecDepth 20000 in
theorem class_is (c : Int) : CallOb P0 55 #[.int .i64 c] [some (.ro G)] (pureRec (.bool (isC c))) :=
  sym_fn (fn := F55) (b := B55) (n := 9) mixed [(0, .int .i64 c)] [.tmp 2] (.case 1 (decide (c ≥ 0)) (.reg 1 ⟨0, [(5, .dec true)], [(3, true), (4, true)]⟩ (fun b5 g5 => .ret [] [])) (.reg 1 ⟨0, [(5, .dec false)], [(3, false), (4, false)]⟩ (fun b8 g8 => .ret [] []))) (by kernel_rfl) (by kernel_rfl) (by kernel_rfl) (by kernel_rfl) (by kernel_rfl) (by kernel_rfl) fun R__ q__ => via (B := (((decide (c ≥ 0)) = true → (AllG fun b5 g5 => (((decide (c ≥ 0)) == true) = true ∧ (((decide (c ≥ 0)) == true) = true ∧ ((decide (c ≥ 0)) = true ∧ R__ (.bool (decide (c < 4))) []))))) ∧ ((decide (c ≥ 0)) = false → (AllG fun b8 g8 => (((decide (c ≥ 0)) == true) = false ∧ (((decide (c ≥ 0)) == true) = false ∧ ((decide (c ≥ 0)) = false ∧ R__ (.bool false) []))))))) (by kernel_rfl)
    (by exact ⟨fun h3 => have p4 := of_decide_eq_true h3; fun b5 g5 => ⟨(gd_tt h3), ⟨(gd_tt h3), ⟨h3, q__ _ _ (retQ_pure (by first | rfl | (simp_all [tupV, isC]; done) | (simp_all [tupV, isC] <;> omega)))⟩⟩⟩, fun h6 => have p7 := of_decide_eq_false h6; fun b8 g8 => ⟨(gd_ft h6), ⟨(gd_ft h6), ⟨h6, q__ _ _ (retQ_pure (by first | rfl | (simp_all [tupV, isC]; done) | (simp_all [tupV, isC] <;> omega)))⟩⟩⟩⟩)

set_option maxRecDepth 20000 in
theorem class_Words (c : Int) : CallOb P0 41 #[.int .i64 c] [some (.ro G)] (pureRec (.int .i64 (cWords c))) :=
  sym_fn (fn := F41) (b := B41) (n := 9) mixed [(0, .int .i64 c)] [.tmp 2] (.reg 1 ⟨0, [(1, .call [0] [] [] (pureRec (.bool (isC c))))], []⟩ (fun b2 g2 => .br (.ret [] []) (.reg 3 ⟨0, [(1, .ix 0 0 (Int.toNat c)), (2, .rd 0 (.int .i64 (cWords c)))], []⟩ (fun b6 g6 => .ret [] [])))) (by kernel_rfl) (by kernel_rfl) (by kernel_rfl) (by kernel_rfl) (by kernel_rfl) (by kernel_rfl) fun R__ q__ => via (B := (AllG fun b2 g2 => (CallOb P0 55 #[.int .i64 c] [some (.ro G)] (pureRec (.bool (isC c))) ∧ (((!(isC c)) = true → R__ (.int .i64 0) []) ∧ ((!(isC c)) = false → (AllG fun b6 g6 => ((some ⟨0, 0, none⟩ : Option Addr) = some ⟨0, 0, none⟩ ∧ (c = ((Int.toNat c : Nat) : Int) ∧ (Int.toNat c < 4 ∧ (Reads P0 (.ro G) 3 ⟨0, (0 + Int.toNat c * 1), none⟩ (.int .i64 (cWords c)) ∧ R__ (.int .i64 (cWords c)) [])))))))))) (by kernel_rfl)
    (by exact fun b2 g2 => ⟨(class_is c ), ⟨fun h3 => q__ _ _ (retQ_pure (by first | rfl | exact congrArg (Value.int .i64) (isC_no (not_t (by assumption))).1.symm)), fun h5 => fun b6 g6 => ⟨rfl, ⟨(isC_nat (not_f h5)).1, ⟨(isC_nat (not_f h5)).2, ⟨(reads_words (not_f h5)), q__ _ _ (retQ_pure (by first | rfl | exact congrArg (Value.int .i64) (isC_no (not_t (by assumption))).1.symm))⟩⟩⟩⟩⟩⟩)

set_option maxRecDepth 20000 in
theorem class_Blocks (c : Int) : CallOb P0 40 #[.int .i64 c] [some (.ro G)] (pureRec (.int .i64 (cBlocks c))) :=
  sym_fn (fn := F40) (b := B40) (n := 10) mixed [(0, .int .i64 c)] [.tmp 2] (.reg 1 ⟨0, [(1, .call [0] [] [] (pureRec (.bool (isC c))))], []⟩ (fun b2 g2 => .br (.ret [] []) (.reg 3 ⟨0, [(1, .ix 0 0 (Int.toNat c)), (2, .rd 0 (.int .i64 (cWords c)))], []⟩ (fun b6 g6 => .ret [] [])))) (by kernel_rfl) (by kernel_rfl) (by kernel_rfl) (by kernel_rfl) (by kernel_rfl) (by kernel_rfl) fun R__ q__ => via (B := (AllG fun b2 g2 => (CallOb P0 55 #[.int .i64 c] [some (.ro G)] (pureRec (.bool (isC c))) ∧ (((!(isC c)) = true → R__ (.int .i64 0) []) ∧ ((!(isC c)) = false → (AllG fun b6 g6 => ((some ⟨0, 0, none⟩ : Option Addr) = some ⟨0, 0, none⟩ ∧ (c = ((Int.toNat c : Nat) : Int) ∧ (Int.toNat c < 4 ∧ (Reads P0 (.ro G) 3 ⟨0, (0 + Int.toNat c * 1), none⟩ (.int .i64 (cWords c)) ∧ ((cWords c) ≠ (0 : Int) ∧ R__ (.int .i64 (iQuo .i64 32 (cWords c))) []))))))))))) (by kernel_rfl)
    (by exact fun b2 g2 => ⟨(class_is c ), ⟨fun h3 => q__ _ _ (retQ_pure (by first | exact congrArg (Value.int .i64) (words_pos (not_f (by assumption))).2.1 | exact congrArg (Value.int .i64) (isC_no (not_t (by assumption))).2.1.symm)), fun h5 => fun b6 g6 => ⟨rfl, ⟨(isC_nat (not_f h5)).1, ⟨(isC_nat (not_f h5)).2, ⟨(reads_words (not_f h5)), ⟨(words_pos (not_f (by assumption))).1, q__ _ _ (retQ_pure (by first | exact congrArg (Value.int .i64) (words_pos (not_f (by assumption))).2.1 | exact congrArg (Value.int .i64) (isC_no (not_t (by assumption))).2.1.symm))⟩⟩⟩⟩⟩⟩⟩)

theorem isC_of {c : Int} (h1 : ¬ c < 0) (h2 : ¬ c > 3) : c = 0 ∨ c = 1 ∨ c = 2 ∨ c = 3 := by omega
theorem isC_out {c : Int} (h : c < 0 ∨ c > 3) : cWords c = 0 ∧ cBlocks c = 0 ∧ cFields c = 0 := isC_no (by simp [isC]; omega)
theorem ofOk_t {n : Int} (h0 : 0 ≤ n) (h1 : n ≤ 15) : ofOk n = true := by simp [ofOk]; omega
theorem ofOk_f {n : Int} (h : n < 0 ∨ 15 < n) : ofOk n = false := by simp [ofOk]; omega
theorem cOf_f {n : Int} (h : ofOk n = false) : cOf n = 0 := by unfold cOf; rw [h]; rfl
theorem of_out {n : Int} (h : n < 0 ∨ 15 < n) : Value.tuple #[.int .i64 0, .bool false] = .tuple #[.int .i64 (cOf n), .bool (ofOk n)] := by rw [cOf_f (ofOk_f h), ofOk_f h]
theorem of_in {n k : Int} (h0 : 0 ≤ n) (h1 : n ≤ 15) (h : (n < 2 ∧ k = 0) ∨ (2 ≤ n ∧ n < 4 ∧ k = 1) ∨ (4 ≤ n ∧ n < 8 ∧ k = 2) ∨ (8 ≤ n ∧ k = 3)) : Value.tuple #[.int .i64 k, .bool true] = .tuple #[.int .i64 (cOf n), .bool (ofOk n)] := by
  have e : cOf n = k := by unfold cOf; rw [ofOk_t h0 h1, if_pos rfl]; (repeat' split) <;> omega
  rw [e, ofOk_t h0 h1]
theorem cOf_t {n : Int} (h : ofOk n = true) : cOf n = if n < 2 then 0 else if n < 4 then 1 else if n < 8 then 2 else 3 := by unfold cOf; rw [h]; rfl

set_option maxRecDepth 20000 in
theorem ref04_Words0  : CallOb P0 42 #[.int .i64 0] [some (.ro G)] (pureRec (.int .i64 2)) :=
  sym_fn (fn := F42) (b := B42) (n := 19) mixed [(0, .int .i64 0)] [.tmp 2] (.unroll 6 (.ret [] [])) (by kernel_rfl) (by kernel_rfl) (by kernel_rfl) (by kernel_rfl) (by kernel_rfl) (by kernel_rfl) fun R__ q__ => via (B := R__ (.int .i64 2) []) (by kernel_rfl)
    (by exact q__ _ _ (retQ_pure (by first | rfl | (simp_all [tupV, eq_self]; done) | (simp_all [tupV, eq_self] <;> omega))))

set_option maxRecDepth 20000 in
theorem ref04_Words1  : CallOb P0 42 #[.int .i64 1] [some (.ro G)] (pureRec (.int .i64 4)) :=
  sym_fn (fn := F42) (b := B42) (n := 19) mixed [(0, .int .i64 1)] [.tmp 2] (.unroll 6 (.ret [] [])) (by kernel_rfl) (by kernel_rfl) (by kernel_rfl) (by kernel_rfl) (by kernel_rfl) (by kernel_rfl) fun R__ q__ => via (B := R__ (.int .i64 4) []) (by kernel_rfl)
    (by exact q__ _ _ (retQ_pure (by first | rfl | (simp_all [tupV, eq_self]; done) | (simp_all [tupV, eq_self] <;> omega))))

set_option maxRecDepth 20000 in
theorem ref04_Words2  : CallOb P0 42 #[.int .i64 2] [some (.ro G)] (pureRec (.int .i64 8)) :=
  sym_fn (fn := F42) (b := B42) (n := 19) mixed [(0, .int .i64 2)] [.tmp 2] (.unroll 6 (.ret [] [])) (by kernel_rfl) (by kernel_rfl) (by kernel_rfl) (by kernel_rfl) (by kernel_rfl) (by kernel_rfl) fun R__ q__ => via (B := R__ (.int .i64 8) []) (by kernel_rfl)
    (by exact q__ _ _ (retQ_pure (by first | rfl | (simp_all [tupV, eq_self]; done) | (simp_all [tupV, eq_self] <;> omega))))

set_option maxRecDepth 20000 in
theorem ref04_Words3  : CallOb P0 42 #[.int .i64 3] [some (.ro G)] (pureRec (.int .i64 16)) :=
  sym_fn (fn := F42) (b := B42) (n := 19) mixed [(0, .int .i64 3)] [.tmp 2] (.unroll 6 (.ret [] [])) (by kernel_rfl) (by kernel_rfl) (by kernel_rfl) (by kernel_rfl) (by kernel_rfl) (by kernel_rfl) fun R__ q__ => via (B := R__ (.int .i64 16) []) (by kernel_rfl)
    (by exact q__ _ _ (retQ_pure (by first | rfl | (simp_all [tupV, eq_self]; done) | (simp_all [tupV, eq_self] <;> omega))))

set_option maxRecDepth 20000 in
theorem ref04_WordsX (c : Int) (h : c < 0 ∨ c > 3) : CallOb P0 42 #[.int .i64 c] [some (.ro G)] (pureRec (.int .i64 0)) :=
  sym_fn (fn := F42) (b := B42) (n := 19) mixed [(0, .int .i64 c)] [.tmp 2] (.case 1 (decide (c < 0)) (.reg 1 ⟨0, [(5, .dec true)], [(3, false), (4, false)]⟩ (fun b5 g5 => .ret [] [])) (.reg 1 ⟨0, [(5, .dec false)], [(3, true), (4, true)]⟩ (fun b9 g9 => .tt (.ret [] [])))) (by kernel_rfl) (by kernel_rfl) (by kernel_rfl) (by kernel_rfl) (by kernel_rfl) (by kernel_rfl) fun R__ q__ => via (B := (((decide (c < 0)) = true → (AllG fun b5 g5 => (((decide (c < 0)) == false) = false ∧ (((decide (c < 0)) == false) = false ∧ ((decide (c < 0)) = true ∧ R__ (.int .i64 0) []))))) ∧ ((decide (c < 0)) = false → (AllG fun b9 g9 => (((decide (c < 0)) == false) = true ∧ (((decide (c < 0)) == false) = true ∧ ((decide (c < 0)) = false ∧ ((decide (c > 3)) = true ∧ R__ (.int .i64 0) [])))))))) (by kernel_rfl)
    (by exact ⟨fun h3 => have p4 := of_decide_eq_true h3; fun b5 g5 => ⟨(gd_tf h3), ⟨(gd_tf h3), ⟨h3, q__ _ _ (retQ_pure (by first | rfl | (simp_all [tupV, eq_self]; done) | (simp_all [tupV, eq_self] <;> omega)))⟩⟩⟩, fun h7 => have p8 := of_decide_eq_false h7; fun b9 g9 => ⟨(gd_ff h7), ⟨(gd_ff h7), ⟨h7, ⟨(decide_eq_true (by omega)), q__ _ _ (retQ_pure (by first | rfl | (simp_all [tupV, eq_self]; done) | (simp_all [tupV, eq_self] <;> omega)))⟩⟩⟩⟩⟩)

theorem ref04_Words (c : Int) : CallOb P0 42 #[.int .i64 c] [some (.ro G)] (pureRec (.int .i64 (cWords c))) := by
  by_cases h : c < 0 ∨ c > 3
  · rw [show cWords c = 0 from (isC_out h).1]; exact ref04_WordsX c h
  · rcases isC_of (fun e => h (.inl e)) (fun e => h (.inr e)) with rfl | rfl | rfl | rfl
    · exact ref04_Words0
    · exact ref04_Words1
    · exact ref04_Words2
    · exact ref04_Words3

set_option maxRecDepth 20000 in
theorem ref04_Blocks0  : CallOb P0 29 #[.int .i64 0] [some (.ro G)] (pureRec (.int .i64 16)) :=
  sym_fn (fn := F29) (b := B29) (n := 19) mixed [(0, .int .i64 0)] [.tmp 2] (.unroll 6 (.ret [] [])) (by kernel_rfl) (by kernel_rfl) (by kernel_rfl) (by kernel_rfl) (by kernel_rfl) (by kernel_rfl) fun R__ q__ => via (B := R__ (.int .i64 16) []) (by kernel_rfl)
    (by exact q__ _ _ (retQ_pure (by first | rfl | (simp_all [tupV, eq_self]; done) | (simp_all [tupV, eq_self] <;> omega))))

set_option maxRecDepth 20000 in
theorem ref04_Blocks1  : CallOb P0 29 #[.int .i64 1] [some (.ro G)] (pureRec (.int .i64 8)) :=
  sym_fn (fn := F29) (b := B29) (n := 19) mixed [(0, .int .i64 1)] [.tmp 2] (.unroll 6 (.ret [] [])) (by kernel_rfl) (by kernel_rfl) (by kernel_rfl) (by kernel_rfl) (by kernel_rfl) (by kernel_rfl) fun R__ q__ => via (B := R__ (.int .i64 8) []) (by kernel_rfl)
    (by exact q__ _ _ (retQ_pure (by first | rfl | (simp_all [tupV, eq_self]; done) | (simp_all [tupV, eq_self] <;> omega))))

set_option maxRecDepth 20000 in
theorem ref04_Blocks2  : CallOb P0 29 #[.int .i64 2] [some (.ro G)] (pureRec (.int .i64 4)) :=
  sym_fn (fn := F29) (b := B29) (n := 19) mixed [(0, .int .i64 2)] [.tmp 2] (.unroll 6 (.ret [] [])) (by kernel_rfl) (by kernel_rfl) (by kernel_rfl) (by kernel_rfl) (by kernel_rfl) (by kernel_rfl) fun R__ q__ => via (B := R__ (.int .i64 4) []) (by kernel_rfl)
    (by exact q__ _ _ (retQ_pure (by first | rfl | (simp_all [tupV, eq_self]; done) | (simp_all [tupV, eq_self] <;> omega))))

set_option maxRecDepth 20000 in
theorem ref04_Blocks3  : CallOb P0 29 #[.int .i64 3] [some (.ro G)] (pureRec (.int .i64 2)) :=
  sym_fn (fn := F29) (b := B29) (n := 19) mixed [(0, .int .i64 3)] [.tmp 2] (.unroll 6 (.ret [] [])) (by kernel_rfl) (by kernel_rfl) (by kernel_rfl) (by kernel_rfl) (by kernel_rfl) (by kernel_rfl) fun R__ q__ => via (B := R__ (.int .i64 2) []) (by kernel_rfl)
    (by exact q__ _ _ (retQ_pure (by first | rfl | (simp_all [tupV, eq_self]; done) | (simp_all [tupV, eq_self] <;> omega))))

set_option maxRecDepth 20000 in
theorem ref04_BlocksX (c : Int) (h : c < 0 ∨ c > 3) : CallOb P0 29 #[.int .i64 c] [some (.ro G)] (pureRec (.int .i64 0)) :=
  sym_fn (fn := F29) (b := B29) (n := 19) mixed [(0, .int .i64 c)] [.tmp 2] (.case 1 (decide (c < 0)) (.reg 1 ⟨0, [(5, .dec true)], [(3, false), (4, false)]⟩ (fun b5 g5 => .ret [] [])) (.reg 1 ⟨0, [(5, .dec false)], [(3, true), (4, true)]⟩ (fun b9 g9 => .tt (.ret [] [])))) (by kernel_rfl) (by kernel_rfl) (by kernel_rfl) (by kernel_rfl) (by kernel_rfl) (by kernel_rfl) fun R__ q__ => via (B := (((decide (c < 0)) = true → (AllG fun b5 g5 => (((decide (c < 0)) == false) = false ∧ (((decide (c < 0)) == false) = false ∧ ((decide (c < 0)) = true ∧ R__ (.int .i64 0) []))))) ∧ ((decide (c < 0)) = false → (AllG fun b9 g9 => (((decide (c < 0)) == false) = true ∧ (((decide (c < 0)) == false) = true ∧ ((decide (c < 0)) = false ∧ ((decide (c > 3)) = true ∧ R__ (.int .i64 0) [])))))))) (by kernel_rfl)
    (by exact ⟨fun h3 => have p4 := of_decide_eq_true h3; fun b5 g5 => ⟨(gd_tf h3), ⟨(gd_tf h3), ⟨h3, q__ _ _ (retQ_pure (by first | rfl | (simp_all [tupV, eq_self]; done) | (simp_all [tupV, eq_self] <;> omega)))⟩⟩⟩, fun h7 => have p8 := of_decide_eq_false h7; fun b9 g9 => ⟨(gd_ff h7), ⟨(gd_ff h7), ⟨h7, ⟨(decide_eq_true (by omega)), q__ _ _ (retQ_pure (by first | rfl | (simp_all [tupV, eq_self]; done) | (simp_all [tupV, eq_self] <;> omega)))⟩⟩⟩⟩⟩)

theorem ref04_Blocks (c : Int) : CallOb P0 29 #[.int .i64 c] [some (.ro G)] (pureRec (.int .i64 (cBlocks c))) := by
  by_cases h : c < 0 ∨ c > 3
  · rw [show cBlocks c = 0 from (isC_out h).2.1]; exact ref04_BlocksX c h
  · rcases isC_of (fun e => h (.inl e)) (fun e => h (.inr e)) with rfl | rfl | rfl | rfl
    · exact ref04_Blocks0
    · exact ref04_Blocks1
    · exact ref04_Blocks2
    · exact ref04_Blocks3
end Go.Proofs.YtgkidiokipcafaaDoor.Fl
