/- Contracts of package class's reference. Conditions: each in its premises. -/
import Derived.Test.YtnpbnkfmajokfaaDoorKlass
set_option linter.unusedVariables false
set_option linter.unusedSimpArgs false
namespace Go.Proofs.YtnpbnkfmajokfaaDoor.Fl
open Go.RowKit
theorem isC_of {c : Int} (h1 : ¬ c < 0) (h2 : ¬ c > 3) : c = 0 ∨ c = 1 ∨ c = 2 ∨ c = 3 := by omega
theorem isC_out {c : Int} (h : c < 0 ∨ c > 3) : cWords c = 0 ∧ cBlocks c = 0 ∧ cFields c = 0 := isC_no (by simp [isC]; omega)
theorem ofOk_t {n : Int} (h0 : 0 ≤ n) (h1 : n ≤ 15) : ofOk n = true := by simp [ofOk]; omega
theorem ofOk_f {n : Int} (h : n < 0 ∨ 15 < n) : ofOk n = false := by simp [ofOk]; omega
theorem cOf_f {n : Int} (h : ofOk n = false) : cOf n = 0 := by unfold cOf; rw [h]; rfl
theorem of_out {n : Int} (h : n < 0 ∨ 15 < n) : Value.tuple #[.int .i64 0, .bool false] = .tuple #[.int .i64 (cOf n), .bool (ofOk n)] := by rw [cOf_f (ofOk_f h), ofOk_f h]
theorem of_in {n k : Int} (h0 : 0 ≤ n) (h1 : n ≤ 15) (h : (n < 2 ∧ k = 0) ∨ (2 ≤ n ∧ n < 4 ∧ k = 1) ∨ (4 ≤ n ∧ n < 8 ∧ k = 2) ∨ (8 ≤ n ∧ k = 3)) : Value.tuple #[.int .i64 k, .bool true] = .tuple #[.int .i64 (cOf n), .bool (ofOk n)] := by
  have e : cOf n = k := by unfold cOf; rw [ofOk_t h0 h1, if_pos rfl]; (repeat' split) <;> omega
  rw [e, ofOk_t h0 h1]
theorem cOf_t {n : Int} (h : ofOk n = true) : cOf n = if n < 2 then 0 else if n < 4 then 1 else if n < 8 then 2 else 3 := by unfold cOf; rw [h]; rfl

set_option maxRecDepth 20000 in
theorem ref04_Words0  : CallOb P0 9 #[.int .i64 0] [some (.ro G)] (pureRec (.int .i64 2)) :=
  sym_fn (fn := F9) (b := B9) (n := 19) mixed [(0, .int .i64 0)] [.tmp 2] (.unroll 6 (.ret [] [])) (by kernel_rfl) (by kernel_rfl) (by kernel_rfl) (by kernel_rfl) (by kernel_rfl) (by kernel_rfl) fun R q => via (B := R (.int .i64 2) []) (by kernel_rfl)
    (q _ _ (retQ_pure (by first | rfl | (simp_all [tupV, eq_self]; done) | (simp_all [tupV, eq_self] <;> omega))))

set_option maxRecDepth 20000 in
theorem ref04_Words1  : CallOb P0 9 #[.int .i64 1] [some (.ro G)] (pureRec (.int .i64 4)) :=
  sym_fn (fn := F9) (b := B9) (n := 19) mixed [(0, .int .i64 1)] [.tmp 2] (.unroll 6 (.ret [] [])) (by kernel_rfl) (by kernel_rfl) (by kernel_rfl) (by kernel_rfl) (by kernel_rfl) (by kernel_rfl) fun R q => via (B := R (.int .i64 4) []) (by kernel_rfl)
    (q _ _ (retQ_pure (by first | rfl | (simp_all [tupV, eq_self]; done) | (simp_all [tupV, eq_self] <;> omega))))

set_option maxRecDepth 20000 in
theorem ref04_Words2  : CallOb P0 9 #[.int .i64 2] [some (.ro G)] (pureRec (.int .i64 8)) :=
  sym_fn (fn := F9) (b := B9) (n := 19) mixed [(0, .int .i64 2)] [.tmp 2] (.unroll 6 (.ret [] [])) (by kernel_rfl) (by kernel_rfl) (by kernel_rfl) (by kernel_rfl) (by kernel_rfl) (by kernel_rfl) fun R q => via (B := R (.int .i64 8) []) (by kernel_rfl)
    (q _ _ (retQ_pure (by first | rfl | (simp_all [tupV, eq_self]; done) | (simp_all [tupV, eq_self] <;> omega))))

set_option maxRecDepth 20000 in
theorem ref04_Words3  : CallOb P0 9 #[.int .i64 3] [some (.ro G)] (pureRec (.int .i64 16)) :=
  sym_fn (fn := F9) (b := B9) (n := 19) mixed [(0, .int .i64 3)] [.tmp 2] (.unroll 6 (.ret [] [])) (by kernel_rfl) (by kernel_rfl) (by kernel_rfl) (by kernel_rfl) (by kernel_rfl) (by kernel_rfl) fun R q => via (B := R (.int .i64 16) []) (by kernel_rfl)
    (q _ _ (retQ_pure (by first | rfl | (simp_all [tupV, eq_self]; done) | (simp_all [tupV, eq_self] <;> omega))))

set_option maxRecDepth 20000 in
theorem ref04_WordsX (c : Int) (h : c < 0 ∨ c > 3) : CallOb P0 9 #[.int .i64 c] [some (.ro G)] (pureRec (.int .i64 0)) :=
  sym_fn (fn := F9) (b := B9) (n := 19) mixed [(0, .int .i64 c)] [.tmp 2] (.case 1 (decide (c < 0)) (.reg 1 ⟨0, [(5, .dec true)], [(3, false), (4, false)]⟩ (.ret [] [])) (.reg 1 ⟨0, [(5, .dec false)], [(3, true), (4, true)]⟩ (.tt (.ret [] [])))) (by kernel_rfl) (by kernel_rfl) (by kernel_rfl) (by kernel_rfl) (by kernel_rfl) (by kernel_rfl) fun R q => via (B := (((decide (c < 0)) = true → (AllG fun b5 g5 => (((decide (c < 0)) == false) = false ∧ (((decide (c < 0)) == false) = false ∧ ((decide (c < 0)) = true ∧ R (.int .i64 0) []))))) ∧ ((decide (c < 0)) = false → (AllG fun b9 g9 => (((decide (c < 0)) == false) = true ∧ (((decide (c < 0)) == false) = true ∧ ((decide (c < 0)) = false ∧ ((decide (c > 3)) = true ∧ R (.int .i64 0) [])))))))) (by kernel_rfl)
    (⟨fun h3 => have p4 := of_decide_eq_true h3; fun b5 g5 => ⟨(gd_tf h3), ⟨(gd_tf h3), ⟨h3, q _ _ (retQ_pure (by first | rfl | (simp_all [tupV, eq_self]; done) | (simp_all [tupV, eq_self] <;> omega)))⟩⟩⟩, fun h7 => have p8 := of_decide_eq_false h7; fun b9 g9 => ⟨(gd_ff h7), ⟨(gd_ff h7), ⟨h7, ⟨(decide_eq_true (by omega)), q _ _ (retQ_pure (by first | rfl | (simp_all [tupV, eq_self]; done) | (simp_all [tupV, eq_self] <;> omega)))⟩⟩⟩⟩⟩)

theorem ref04_Words (c : Int) : CallOb P0 9 #[.int .i64 c] [some (.ro G)] (pureRec (.int .i64 (cWords c))) := by
  by_cases h : c < 0 ∨ c > 3
  · rw [show cWords c = 0 from (isC_out h).1]; exact ref04_WordsX c h
  · rcases isC_of (fun e => h (.inl e)) (fun e => h (.inr e)) with rfl | rfl | rfl | rfl
    · exact ref04_Words0
    · exact ref04_Words1
    · exact ref04_Words2
    · exact ref04_Words3

set_option maxRecDepth 20000 in
theorem ref04_Blocks0  : CallOb P0 11 #[.int .i64 0] [some (.ro G)] (pureRec (.int .i64 16)) :=
  sym_fn (fn := F11) (b := B11) (n := 19) mixed [(0, .int .i64 0)] [.tmp 2] (.unroll 6 (.ret [] [])) (by kernel_rfl) (by kernel_rfl) (by kernel_rfl) (by kernel_rfl) (by kernel_rfl) (by kernel_rfl) fun R q => via (B := R (.int .i64 16) []) (by kernel_rfl)
    (q _ _ (retQ_pure (by first | rfl | (simp_all [tupV, eq_self]; done) | (simp_all [tupV, eq_self] <;> omega))))

set_option maxRecDepth 20000 in
theorem ref04_Blocks1  : CallOb P0 11 #[.int .i64 1] [some (.ro G)] (pureRec (.int .i64 8)) :=
  sym_fn (fn := F11) (b := B11) (n := 19) mixed [(0, .int .i64 1)] [.tmp 2] (.unroll 6 (.ret [] [])) (by kernel_rfl) (by kernel_rfl) (by kernel_rfl) (by kernel_rfl) (by kernel_rfl) (by kernel_rfl) fun R q => via (B := R (.int .i64 8) []) (by kernel_rfl)
    (q _ _ (retQ_pure (by first | rfl | (simp_all [tupV, eq_self]; done) | (simp_all [tupV, eq_self] <;> omega))))

set_option maxRecDepth 20000 in
theorem ref04_Blocks2  : CallOb P0 11 #[.int .i64 2] [some (.ro G)] (pureRec (.int .i64 4)) :=
  sym_fn (fn := F11) (b := B11) (n := 19) mixed [(0, .int .i64 2)] [.tmp 2] (.unroll 6 (.ret [] [])) (by kernel_rfl) (by kernel_rfl) (by kernel_rfl) (by kernel_rfl) (by kernel_rfl) (by kernel_rfl) fun R q => via (B := R (.int .i64 4) []) (by kernel_rfl)
    (q _ _ (retQ_pure (by first | rfl | (simp_all [tupV, eq_self]; done) | (simp_all [tupV, eq_self] <;> omega))))

set_option maxRecDepth 20000 in
theorem ref04_Blocks3  : CallOb P0 11 #[.int .i64 3] [some (.ro G)] (pureRec (.int .i64 2)) :=
  sym_fn (fn := F11) (b := B11) (n := 19) mixed [(0, .int .i64 3)] [.tmp 2] (.unroll 6 (.ret [] [])) (by kernel_rfl) (by kernel_rfl) (by kernel_rfl) (by kernel_rfl) (by kernel_rfl) (by kernel_rfl) fun R q => via (B := R (.int .i64 2) []) (by kernel_rfl)
    (q _ _ (retQ_pure (by first | rfl | (simp_all [tupV, eq_self]; done) | (simp_all [tupV, eq_self] <;> omega))))

set_option maxRecDepth 20000 in
theorem ref04_BlocksX (c : Int) (h : c < 0 ∨ c > 3) : CallOb P0 11 #[.int .i64 c] [some (.ro G)] (pureRec (.int .i64 0)) :=
  sym_fn (fn := F11) (b := B11) (n := 19) mixed [(0, .int .i64 c)] [.tmp 2] (.case 1 (decide (c < 0)) (.reg 1 ⟨0, [(5, .dec true)], [(3, false), (4, false)]⟩ (.ret [] [])) (.reg 1 ⟨0, [(5, .dec false)], [(3, true), (4, true)]⟩ (.tt (.ret [] [])))) (by kernel_rfl) (by kernel_rfl) (by kernel_rfl) (by kernel_rfl) (by kernel_rfl) (by kernel_rfl) fun R q => via (B := (((decide (c < 0)) = true → (AllG fun b5 g5 => (((decide (c < 0)) == false) = false ∧ (((decide (c < 0)) == false) = false ∧ ((decide (c < 0)) = true ∧ R (.int .i64 0) []))))) ∧ ((decide (c < 0)) = false → (AllG fun b9 g9 => (((decide (c < 0)) == false) = true ∧ (((decide (c < 0)) == false) = true ∧ ((decide (c < 0)) = false ∧ ((decide (c > 3)) = true ∧ R (.int .i64 0) [])))))))) (by kernel_rfl)
    (⟨fun h3 => have p4 := of_decide_eq_true h3; fun b5 g5 => ⟨(gd_tf h3), ⟨(gd_tf h3), ⟨h3, q _ _ (retQ_pure (by first | rfl | (simp_all [tupV, eq_self]; done) | (simp_all [tupV, eq_self] <;> omega)))⟩⟩⟩, fun h7 => have p8 := of_decide_eq_false h7; fun b9 g9 => ⟨(gd_ff h7), ⟨(gd_ff h7), ⟨h7, ⟨(decide_eq_true (by omega)), q _ _ (retQ_pure (by first | rfl | (simp_all [tupV, eq_self]; done) | (simp_all [tupV, eq_self] <;> omega)))⟩⟩⟩⟩⟩)

theorem ref04_Blocks (c : Int) : CallOb P0 11 #[.int .i64 c] [some (.ro G)] (pureRec (.int .i64 (cBlocks c))) := by
  by_cases h : c < 0 ∨ c > 3
  · rw [show cBlocks c = 0 from (isC_out h).2.1]; exact ref04_BlocksX c h
  · rcases isC_of (fun e => h (.inl e)) (fun e => h (.inr e)) with rfl | rfl | rfl | rfl
    · exact ref04_Blocks0
    · exact ref04_Blocks1
    · exact ref04_Blocks2
    · exact ref04_Blocks3

set_option maxRecDepth 20000 in
theorem ref04_Of (n : Int) : CallOb P0 14 #[.int .i64 n] [some (.ro G)] (pureRec (.tuple #[.int .i64 (cOf n), .bool (ofOk n)])) :=
  sym_fn (fn := F14) (b := B14) (n := 16) mixed [(0, .int .i64 n)] [.tmp 2, .tmp 3] (.case 1 (decide (n < 0)) (.reg 1 ⟨0, [(5, .dec true)], [(3, false), (4, false)]⟩ (.ret [] [])) (.reg 1 ⟨0, [(5, .dec false)], [(3, true), (4, true)]⟩ (.br (.ret [] []) (.br (.ret [] []) (.br (.ret [] []) (.br (.ret [] []) (.ret [] []))))))) (by kernel_rfl) (by kernel_rfl) (by kernel_rfl) (by kernel_rfl) (by kernel_rfl) (by kernel_rfl) fun R q => via (B := (((decide (n < 0)) = true → (AllG fun b5 g5 => (((decide (n < 0)) == false) = false ∧ (((decide (n < 0)) == false) = false ∧ ((decide (n < 0)) = true ∧ R (.tuple #[.int .i64 0, .bool false]) []))))) ∧ ((decide (n < 0)) = false → (AllG fun b9 g9 => (((decide (n < 0)) == false) = true ∧ (((decide (n < 0)) == false) = true ∧ ((decide (n < 0)) = false ∧ (((decide (n > 15)) = true → R (.tuple #[.int .i64 0, .bool false]) []) ∧ ((decide (n > 15)) = false → (((decide (n ≤ 1)) = true → R (.tuple #[.int .i64 0, .bool true]) []) ∧ ((decide (n ≤ 1)) = false → (((decide (n ≤ 3)) = true → R (.tuple #[.int .i64 1, .bool true]) []) ∧ ((decide (n ≤ 3)) = false → (((decide (n ≤ 7)) = true → R (.tuple #[.int .i64 2, .bool true]) []) ∧ ((decide (n ≤ 7)) = false → R (.tuple #[.int .i64 3, .bool true]) []))))))))))))))) (by kernel_rfl)
    (⟨fun h3 => have p4 := of_decide_eq_true h3; fun b5 g5 => ⟨(gd_tf h3), ⟨(gd_tf h3), ⟨h3, q _ _ (retQ_pure (by first | exact of_out (by omega) | exact of_in (by omega) (by omega) (by omega)))⟩⟩⟩, fun h7 => have p8 := of_decide_eq_false h7; fun b9 g9 => ⟨(gd_ff h7), ⟨(gd_ff h7), ⟨h7, ⟨fun h10 => have p11 := of_decide_eq_true h10; q _ _ (retQ_pure (by first | exact of_out (by omega) | exact of_in (by omega) (by omega) (by omega))), fun h13 => have p14 := of_decide_eq_false h13; ⟨fun h16 => have p17 := of_decide_eq_true h16; q _ _ (retQ_pure (by first | exact of_out (by omega) | exact of_in (by omega) (by omega) (by omega))), fun h19 => have p20 := of_decide_eq_false h19; ⟨fun h22 => have p23 := of_decide_eq_true h22; q _ _ (retQ_pure (by first | exact of_out (by omega) | exact of_in (by omega) (by omega) (by omega))), fun h25 => have p26 := of_decide_eq_false h25; ⟨fun h28 => have p29 := of_decide_eq_true h28; q _ _ (retQ_pure (by first | exact of_out (by omega) | exact of_in (by omega) (by omega) (by omega))), fun h31 => have p32 := of_decide_eq_false h31; q _ _ (retQ_pure (by first | exact of_out (by omega) | exact of_in (by omega) (by omega) (by omega)))⟩⟩⟩⟩⟩⟩⟩⟩)
end Go.Proofs.YtnpbnkfmajokfaaDoor.Fl
