/- Contracts of package arena, and of its reference. Conditions: each in its premises. -/
import Derived.Test.YthadoehgmdageaaDoorZ4HpH
set_option linter.unusedVariables false
set_option linter.unusedSimpArgs false
namespace Go.Proofs.YthadoehgmdageaaDoor.Fl
open Go.RowKit
def inR (n : Nat) (i : Int) : Bool := decide (0 ≤ i) && decide (i < (n : Int))
theorem inR_t {n : Nat} {i : Int} (h : inR n i = true) : 0 ≤ i ∧ i < (n : Int) := by simpa [inR] using h
theorem inR_f {n : Nat} {i : Int} (h : inR n i = false) : i < 0 ∨ (n : Int) ≤ i := by
  by_cases e : 0 ≤ i ∧ i < (n : Int)
  · have : inR n i = true := by simp [inR, e]
    rw [this] at h; cases h
  · omega
theorem inR_n {n : Nat} {i : Int} (h : inR n i = true) : i = ((i.toNat : Nat) : Int) ∧ i.toNat < n := by have := inR_t h; omega
theorem inR_of {n : Nat} {i : Int} (h0 : 0 ≤ i) (h1 : i < (n : Int)) : inR n i = true := by simp [inR, h0, h1]
theorem inR_not {n : Nat} {i : Int} (h : i < 0 ∨ (n : Int) ≤ i) : inR n i = false := by
  cases e : inR n i with
  | false => rfl
  | true => have := inR_t e; omega
def adOk (p c i : Int) : Bool := decide (0 ≤ p ∧ p < 16) && decide (0 ≤ i ∧ i < cBlocks c)
def adI (p c i : Int) : Int := if adOk p c i = true then 32 * p + i * cWords c else 0
def plOk (c a : Int) : Bool := isC c && decide (0 ≤ a ∧ a < 512) && decide (a % cWords c = 0)
def plP (c a : Int) : Int := if plOk c a = true then a / 32 else 0
def plX (c a : Int) : Int := if plOk c a = true then a % 32 / cWords c else 0
theorem isC_blocks {c i : Int} (h0 : 0 ≤ i) (h : i < cBlocks c) : isC c = true := by
  cases e : isC c with
  | true => rfl
  | false => rw [(isC_no e).2.1] at h; omega
theorem ad_out {p c i : Int} (h : (p < 0 ∨ p ≥ 16 ∨ i < 0 ∨ i ≥ cBlocks c)) : Value.tuple #[.int .i64 0, .bool false] = .tuple #[.int .i64 (adI p c i), .bool (adOk p c i)] := by
  have : adOk p c i = false := by
    cases e : adOk p c i with
    | false => rfl
    | true => simp [adOk] at e; omega
  unfold adI; rw [this]; rfl
theorem ad_in0 {p c i : Int} (h1 : ¬ p < 0) (h2 : ¬ p ≥ 16) (h3 : ¬ i < 0) (h4 : ¬ i ≥ cBlocks c) : adOk p c i = true ∧ iMul .i64 p 32 = 32 * p ∧ iMul .i64 32 p = 32 * p ∧ iMul .i64 i (cWords c) = i * cWords c ∧ iAdd .i64 (32 * p) (i * cWords c) = 32 * p + i * cWords c := by
  have hc := isC_blocks (c := c) (i := i) (by omega) (by omega)
  refine ⟨by simp [adOk]; omega, ?_⟩
  rcases isC_cases hc with rfl | rfl | rfl | rfl <;> simp only [cWords, cBlocks] at * <;>
    refine ⟨?_, ?_, ?_, ?_⟩ <;> (simp only [iMul, iAdd, IntKind.wrap_i64]; simp at *; omega)
theorem ad_in' {p c i : Int} (h1 : ¬ p < 0) (h2 : ¬ p ≥ 16) (h3 : ¬ i < 0) (h4 : ¬ i ≥ cBlocks c) : Value.tuple #[.int .i64 (iAdd .i64 (iMul .i64 32 p) (iMul .i64 i (cWords c))), .bool true] = .tuple #[.int .i64 (adI p c i), .bool (adOk p c i)] := by
  obtain ⟨a, b, c', d, e⟩ := ad_in0 h1 h2 h3 h4
  unfold adI; rw [a, if_pos rfl, c', d, e]
theorem pl_out {c a : Int} (h : plOk c a = false) : Value.tuple #[.int .i64 0, .int .i64 0, .bool false] = .tuple #[.int .i64 (plP c a), .int .i64 (plX c a), .bool (plOk c a)] := by
  unfold plP plX; rw [h]; rfl
theorem words0 {c : Int} (h : (cWords c == 0) = true) : isC c = false := by
  cases e : isC c with
  | false => rfl
  | true => exact absurd (eq_of_beq h) (words_pos e).1
theorem wordsC {c : Int} (h : ¬ cWords c = 0) : isC c = true := by
  cases e : isC c with
  | true => rfl
  | false => exact absurd (isC_no e).1 h
theorem pl_no1 {c a : Int} (h : isC c = false) : plOk c a = false := by unfold plOk; rw [h]; rfl
theorem pl_no2 {c a : Int} (h : a < 0 ∨ a ≥ 512) : plOk c a = false := by
  unfold plOk; rw [decide_eq_false (show ¬ (0 ≤ a ∧ a < 512) by omega)]; simp
theorem pl_no3 {c a : Int} (h0 : ¬ a < 0) (h : Int.tmod a (cWords c) ≠ 0) : plOk c a = false := by
  rw [tmod_pos (by omega)] at h
  unfold plOk; rw [decide_eq_false h]; simp
theorem pl_in {c a : Int} (h : ¬ cWords c = 0) (h0 : ¬ a < 0) (h1 : ¬ a ≥ 512) (h2 : Int.tmod a (cWords c) = 0) : Value.tuple #[.int .i64 (iQuo .i64 a 32), .int .i64 (iQuo .i64 (Int.tmod a 32) (cWords c)), .bool true] = .tuple #[.int .i64 (plP c a), .int .i64 (plX c a), .bool (plOk c a)] := by
  have hc := wordsC h
  rw [tmod_pos (by omega)] at h2
  have e : plOk c a = true := by unfold plOk; rw [hc, decide_eq_true (show 0 ≤ a ∧ a < 512 by omega), decide_eq_true h2]; rfl
  have hp : 0 < cWords c := by rcases isC_cases hc with rfl | rfl | rfl | rfl <;> decide
  unfold plP plX
  rw [e, if_pos rfl, if_pos rfl, tmod_pos (show 0 ≤ a by omega), quo_i64 (by omega) (by omega) (by unfold in64; omega)]
  rw [quo_i64 (by omega) hp (by
    have h3 := Int.ediv_le_self (a := a % 32) (cWords c) (by omega)
    have h4 := Int.ediv_nonneg (a := a % 32) (b := cWords c) (by omega) (by omega)
    unfold in64; omega)]
/-- No block ahead of the i-th of page p begins there. -/
def NoBlk (c a : Int) (p i : Nat) : Prop := p ≤ 16 ∧ ∀ q j : Nat, q < 16 → ((j : Nat) : Int) < cBlocks c → (q < p ∨ (q = p ∧ j < i)) → 32 * ((q : Nat) : Int) + ((j : Nat) : Int) * cWords c ≠ a
theorem NoBlk.zero {c a : Int} : NoBlk c a 0 0 := ⟨by omega, fun q j _ _ h => by omega⟩
theorem adI_nat {c : Int} {q j : Nat} (h1 : q < 16) (h2 : ((j : Nat) : Int) < cBlocks c) : adI ((q : Nat) : Int) c ((j : Nat) : Int) = 32 * ((q : Nat) : Int) + ((j : Nat) : Int) * cWords c := by
  unfold adI; rw [(ad_in0 (p := ((q : Nat) : Int)) (i := ((j : Nat) : Int)) (c := c) (by omega) (by omega) (by omega) (by omega)).1, if_pos rfl]
theorem NoBlk.succ {c a : Int} {p i : Nat} (h : NoBlk c a p i) (hp : p < 16) (hi : ((i : Nat) : Int) < cBlocks c) (hn : adI ((p : Nat) : Int) c ((i : Nat) : Int) ≠ a) : NoBlk c a p (i + 1) := ⟨h.1, fun q j hq hj hl => by
  by_cases e : q = p ∧ j = i
  · obtain ⟨rfl, rfl⟩ := e; rw [← adI_nat hq hj]; exact hn
  · exact h.2 q j hq hj (by omega)⟩
theorem NoBlk.next {c a : Int} {p i : Nat} (h : NoBlk c a p i) (hp : p < 16) (hi : ¬ ((i : Nat) : Int) < cBlocks c) : NoBlk c a (p + 1) 0 := ⟨by omega, fun q j hq hj hl => h.2 q j hq hj (by omega)⟩
theorem ad_lt {c : Int} (hc : isC c = true) {q j : Nat} (h1 : q < 16) (h2 : ((j : Nat) : Int) < cBlocks c) : 0 ≤ 32 * ((q : Nat) : Int) + ((j : Nat) : Int) * cWords c ∧ 32 * ((q : Nat) : Int) + ((j : Nat) : Int) * cWords c < 512 ∧ (32 * ((q : Nat) : Int) + ((j : Nat) : Int) * cWords c) % cWords c = 0 ∧
    (32 * ((q : Nat) : Int) + ((j : Nat) : Int) * cWords c) / 32 = q ∧ (32 * ((q : Nat) : Int) + ((j : Nat) : Int) * cWords c) % 32 / cWords c = j := by
  rcases isC_cases hc with rfl | rfl | rfl | rfl <;> simp only [cWords, cBlocks] at * <;> simp at * <;> omega
theorem NoBlk.found {c a : Int} {p i : Nat} (hp : p < 16) (hi : ((i : Nat) : Int) < cBlocks c) (he : adI ((p : Nat) : Int) c ((i : Nat) : Int) = a) : Value.tuple #[.int .i64 ((p : Nat) : Int), .int .i64 ((i : Nat) : Int), .bool true] = .tuple #[.int .i64 (plP c a), .int .i64 (plX c a), .bool (plOk c a)] := by
  have hc := isC_blocks (c := c) (i := ((i : Nat) : Int)) (by omega) hi
  rw [adI_nat hp hi] at he
  obtain ⟨h1, h2, h3, h4, h5⟩ := ad_lt hc hp hi
  rw [he] at h1 h2 h3 h4 h5
  have e : plOk c a = true := by unfold plOk; rw [hc, decide_eq_true (show 0 ≤ a ∧ a < 512 from ⟨h1, h2⟩), decide_eq_true h3]; rfl
  unfold plP plX
  rw [e, if_pos rfl, if_pos rfl, h4, h5]
theorem pl_block {c a : Int} (h : plOk c a = true) : isC c = true ∧ 0 ≤ a ∧ a < 512 ∧ 0 ≤ a / 32 ∧ a / 32 < 16 ∧ 0 ≤ a % 32 / cWords c ∧ a % 32 / cWords c < cBlocks c ∧ 32 * (a / 32) + a % 32 / cWords c * cWords c = a := by
  unfold plOk at h
  simp only [Bool.and_eq_true, decide_eq_true_eq] at h
  obtain ⟨⟨hc, h0⟩, h1⟩ := h
  refine ⟨hc, h0.1, h0.2, ?_⟩
  rcases isC_cases hc with rfl | rfl | rfl | rfl <;> simp only [cWords, cBlocks] at * <;> simp at * <;> omega
theorem NoBlk.none {c a : Int} {p i : Nat} (h : NoBlk c a p i) (hp : ¬ ((p : Nat) : Int) < 16) : plOk c a = false := by
  cases e : plOk c a with
  | false => rfl
  | true =>
    obtain ⟨hc, h0, h1, h2, h3, h4, h5, h6⟩ := pl_block e
    exact absurd (show 32 * (((a / 32).toNat : Nat) : Int) + (((a % 32 / cWords c).toNat : Nat) : Int) * cWords c = a by rw [Int.toNat_of_nonneg h2, Int.toNat_of_nonneg h4]; exact h6)
      (h.2 (a / 32).toNat (a % 32 / cWords c).toNat (by omega) (by omega) (by omega))
def NotTo (a : Int) (n : Nat) : Prop := ∀ k : Nat, k < n → ((k : Nat) : Int) ≠ a
theorem NotTo.succ {a : Int} {n : Nat} (h : NotTo a n) (hn : (((n : Nat) : Int) == a) = false) : NotTo a (n + 1) := fun k hk => by
  have := ne_of_beq_false hn
  by_cases e : k = n
  · subst e; exact this
  · exact h k (by omega)
set_option maxRecDepth 20000 in
theorem arena_Place (c : Int) (a : Int) : CallOb P0 113 #[.int .i64 c, .int .i64 a] [some (.ro G)] (pureRec (.tuple #[.int .i64 (plP c a), .int .i64 (plX c a), .bool (plOk c a)])) :=
  sym_fn (fn := F113) (b := B113) (n := 32) mixed [(0, .int .i64 c), (1, .int .i64 a)] [.tmp 4, .tmp 5, .tmp 6] (.reg 1 ⟨0, [(1, .call [0] [] [] (pureRec (.int .i64 (cWords c))))], []⟩ (fun b2 g2 => .case 2 ((cWords c) == 0) (.reg 2 ⟨0, [(5, .dec true)], [(3, false), (4, false)]⟩ (fun b6 g6 => .ret [] [])) (.case 2 (decide (a < 0)) (.reg 2 ⟨0, [(5, .dec false), (9, .dec true)], [(3, true), (4, true), (7, false), (8, false)]⟩ (fun b13 g13 => .ret [] [])) (.case 2 (decide (a ≥ 512)) (.reg 2 ⟨0, [(5, .dec false), (9, .dec false), (15, .dec true)], [(3, true), (4, true), (7, true), (8, true), (11, false), (12, false), (13, false), (14, false)]⟩ (fun b20 g20 => .ret [] [])) (.reg 2 ⟨0, [(5, .dec false), (9, .dec false), (15, .dec false)], [(3, true), (4, true), (7, true), (8, true), (11, true), (12, true), (13, true), (14, true)]⟩ (fun b24 g24 => .br (.ret [] []) (.ret [] []))))))) (by kernel_rfl) (by kernel_rfl) (by kernel_rfl) (by kernel_rfl) (by kernel_rfl) (by kernel_rfl) fun R__ q__ => via (B := (AllG fun b2 g2 => (CallOb P0 62 #[.int .i64 c] [some (.ro G)] (pureRec (.int .i64 (cWords c))) ∧ ((((cWords c) == 0) = true → (AllG fun b6 g6 => ((((cWords c) == 0) == false) = false ∧ ((((cWords c) == 0) == false) = false ∧ (((cWords c) == 0) = true ∧ R__ (.tuple #[.int .i64 0, .int .i64 0, .bool false]) []))))) ∧ (((cWords c) == 0) = false → (((decide (a < 0)) = true → (AllG fun b13 g13 => ((((cWords c) == 0) == false) = true ∧ ((((cWords c) == 0) == false) = true ∧ (((cWords c) == 0) = false ∧ (((decide (a < 0)) == false) = false ∧ (((decide (a < 0)) == false) = false ∧ ((decide (a < 0)) = true ∧ R__ (.tuple #[.int .i64 0, .int .i64 0, .bool false]) [])))))))) ∧ ((decide (a < 0)) = false → (((decide (a ≥ 512)) = true → (AllG fun b20 g20 => ((((cWords c) == 0) == false) = true ∧ ((((cWords c) == 0) == false) = true ∧ (((cWords c) == 0) = false ∧ (((decide (a < 0)) == false) = true ∧ (((decide (a < 0)) == false) = true ∧ ((decide (a < 0)) = false ∧ (((decide (a ≥ 512)) == false) = false ∧ (((decide (a ≥ 512)) == false) = false ∧ (((decide (a ≥ 512)) == false) = false ∧ (((decide (a ≥ 512)) == false) = false ∧ ((decide (a ≥ 512)) = true ∧ R__ (.tuple #[.int .i64 0, .int .i64 0, .bool false]) []))))))))))))) ∧ ((decide (a ≥ 512)) = false → (AllG fun b24 g24 => ((((cWords c) == 0) == false) = true ∧ ((((cWords c) == 0) == false) = true ∧ (((cWords c) == 0) = false ∧ (((decide (a < 0)) == false) = true ∧ (((decide (a < 0)) == false) = true ∧ ((decide (a < 0)) = false ∧ (((decide (a ≥ 512)) == false) = true ∧ (((decide (a ≥ 512)) == false) = true ∧ (((decide (a ≥ 512)) == false) = true ∧ ((cWords c) ≠ (0 : Int) ∧ (((decide (a ≥ 512)) == false) = true ∧ ((decide (a ≥ 512)) = false ∧ ((((Int.tmod a (cWords c)) != 0) = true → R__ (.tuple #[.int .i64 0, .int .i64 0, .bool false]) []) ∧ (((Int.tmod a (cWords c)) != 0) = false → ((cWords c) ≠ (0 : Int) ∧ R__ (.tuple #[.int .i64 (iQuo .i64 a 32), .int .i64 (iQuo .i64 (Int.tmod a 32) (cWords c)), .bool true]) []))))))))))))))))))))))))) (by kernel_rfl)
    (by exact fun b2 g2 => ⟨(class_Words c ), ⟨fun h4 => have p5 := eq_of_beq h4; fun b6 g6 => ⟨(gd_tf h4), ⟨(gd_tf h4), ⟨h4, q__ _ _ (retQ_pure (by first | exact pl_out (pl_no1 (words0 (by first | assumption | exact beq_iff_eq.2 (by assumption)))) | exact pl_out (pl_no2 (by omega)) | exact pl_out (pl_no3 (by assumption) (by assumption)) | exact pl_in (by assumption) (by assumption) (by assumption) (by assumption)))⟩⟩⟩, fun h8 => have p9 := ne_of_beq_false h8; ⟨fun h11 => have p12 := of_decide_eq_true h11; fun b13 g13 => ⟨(gd_ff h8), ⟨(gd_ff h8), ⟨h8, ⟨(gd_tf h11), ⟨(gd_tf h11), ⟨h11, q__ _ _ (retQ_pure (by first | exact pl_out (pl_no1 (words0 (by first | assumption | exact beq_iff_eq.2 (by assumption)))) | exact pl_out (pl_no2 (by omega)) | exact pl_out (pl_no3 (by assumption) (by assumption)) | exact pl_in (by assumption) (by assumption) (by assumption) (by assumption)))⟩⟩⟩⟩⟩⟩, fun h15 => have p16 := of_decide_eq_false h15; ⟨fun h18 => have p19 := of_decide_eq_true h18; fun b20 g20 => ⟨(gd_ff h8), ⟨(gd_ff h8), ⟨h8, ⟨(gd_ff h15), ⟨(gd_ff h15), ⟨h15, ⟨(gd_tf h18), ⟨(gd_tf h18), ⟨(gd_tf h18), ⟨(gd_tf h18), ⟨h18, q__ _ _ (retQ_pure (by first | exact pl_out (pl_no1 (words0 (by first | assumption | exact beq_iff_eq.2 (by assumption)))) | exact pl_out (pl_no2 (by omega)) | exact pl_out (pl_no3 (by assumption) (by assumption)) | exact pl_in (by assumption) (by assumption) (by assumption) (by assumption)))⟩⟩⟩⟩⟩⟩⟩⟩⟩⟩⟩, fun h22 => have p23 := of_decide_eq_false h22; fun b24 g24 => ⟨(gd_ff h8), ⟨(gd_ff h8), ⟨h8, ⟨(gd_ff h15), ⟨(gd_ff h15), ⟨h15, ⟨(gd_ff h22), ⟨(gd_ff h22), ⟨(gd_ff h22), ⟨(by assumption), ⟨(gd_ff h22), ⟨h22, ⟨fun h25 => have p26 := bne_iff_ne.1 h25; q__ _ _ (retQ_pure (by first | exact pl_out (pl_no1 (words0 (by first | assumption | exact beq_iff_eq.2 (by assumption)))) | exact pl_out (pl_no2 (by omega)) | exact pl_out (pl_no3 (by assumption) (by assumption)) | exact pl_in (by assumption) (by assumption) (by assumption) (by assumption))), fun h28 => have p29 := bne_eq_false_iff_eq.1 h28; ⟨(by assumption), q__ _ _ (retQ_pure (by first | exact pl_out (pl_no1 (words0 (by first | assumption | exact beq_iff_eq.2 (by assumption)))) | exact pl_out (pl_no2 (by omega)) | exact pl_out (pl_no3 (by assumption) (by assumption)) | exact pl_in (by assumption) (by assumption) (by assumption) (by assumption)))⟩⟩⟩⟩⟩⟩⟩⟩⟩⟩⟩⟩⟩⟩⟩⟩⟩⟩)

set_option maxRecDepth 20000 in
theorem ref05_Address (p : Int) (c : Int) (i : Int) : CallOb P0 85 #[.int .i64 p, .int .i64 c, .int .i64 i] [some (.ro G)] (pureRec (.tuple #[.int .i64 (adI p c i), .bool (adOk p c i)])) :=
  sym_fn (fn := F85) (b := B85) (n := 31) mixed [(0, .int .i64 p), (1, .int .i64 c), (2, .int .i64 i)] [.tmp 6, .tmp 7] (.case 1 (decide (p < 0)) (.reg 1 ⟨0, [(5, .dec true)], [(3, false), (4, false)]⟩ (fun b5 g5 => .ret [] [])) (.case 1 (decide (p > 15)) (.reg 1 ⟨0, [(5, .dec false), (9, .dec true)], [(3, true), (4, true), (7, false), (8, false)]⟩ (fun b12 g12 => .ret [] [])) (.case 1 (decide (i < 0)) (.reg 1 ⟨0, [(5, .dec false), (9, .dec false), (15, .dec true)], [(3, true), (4, true), (7, true), (8, true), (11, false), (12, false), (13, false), (14, false)]⟩ (fun b19 g19 => .ret [] [])) (.reg 1 ⟨0, [(5, .dec false), (9, .dec false), (13, .call [0] [] [] (pureRec (.int .i64 (cBlocks c)))), (15, .dec false)], [(3, true), (4, true), (7, true), (8, true), (11, true), (12, true), (13, true), (14, true)]⟩ (fun b23 g23 => .br (.ret [] []) (.reg 3 ⟨0, [(4, .call [0] [] [] (pureRec (.int .i64 (cWords c))))], []⟩ (fun b29 g29 => .ret [] []))))))) (by kernel_rfl) (by kernel_rfl) (by kernel_rfl) (by kernel_rfl) (by kernel_rfl) (by kernel_rfl) fun R__ q__ => via (B := (((decide (p < 0)) = true → (AllG fun b5 g5 => (((decide (p < 0)) == false) = false ∧ (((decide (p < 0)) == false) = false ∧ ((decide (p < 0)) = true ∧ R__ (.tuple #[.int .i64 0, .bool false]) []))))) ∧ ((decide (p < 0)) = false → (((decide (p > 15)) = true → (AllG fun b12 g12 => (((decide (p < 0)) == false) = true ∧ (((decide (p < 0)) == false) = true ∧ ((decide (p < 0)) = false ∧ (((decide (p > 15)) == false) = false ∧ (((decide (p > 15)) == false) = false ∧ ((decide (p > 15)) = true ∧ R__ (.tuple #[.int .i64 0, .bool false]) [])))))))) ∧ ((decide (p > 15)) = false → (((decide (i < 0)) = true → (AllG fun b19 g19 => (((decide (p < 0)) == false) = true ∧ (((decide (p < 0)) == false) = true ∧ ((decide (p < 0)) = false ∧ (((decide (p > 15)) == false) = true ∧ (((decide (p > 15)) == false) = true ∧ ((decide (p > 15)) = false ∧ (((decide (i < 0)) == false) = false ∧ (((decide (i < 0)) == false) = false ∧ (((decide (i < 0)) == false) = false ∧ (((decide (i < 0)) == false) = false ∧ ((decide (i < 0)) = true ∧ R__ (.tuple #[.int .i64 0, .bool false]) []))))))))))))) ∧ ((decide (i < 0)) = false → (AllG fun b23 g23 => (((decide (p < 0)) == false) = true ∧ (((decide (p < 0)) == false) = true ∧ ((decide (p < 0)) = false ∧ (((decide (p > 15)) == false) = true ∧ (((decide (p > 15)) == false) = true ∧ ((decide (p > 15)) = false ∧ (((decide (i < 0)) == false) = true ∧ (((decide (i < 0)) == false) = true ∧ (((decide (i < 0)) == false) = true ∧ (CallOb P0 39 #[.int .i64 c] [some (.ro G)] (pureRec (.int .i64 (cBlocks c))) ∧ (((decide (i < 0)) == false) = true ∧ ((decide (i < 0)) = false ∧ (((decide (i ≥ (cBlocks c))) = true → R__ (.tuple #[.int .i64 0, .bool false]) []) ∧ ((decide (i ≥ (cBlocks c))) = false → (AllG fun b29 g29 => (CallOb P0 38 #[.int .i64 c] [some (.ro G)] (pureRec (.int .i64 (cWords c))) ∧ R__ (.tuple #[.int .i64 (iAdd .i64 (iMul .i64 32 p) (iMul .i64 i (cWords c))), .bool true]) [])))))))))))))))))))))))) (by kernel_rfl)
    (by exact ⟨fun h3 => have p4 := of_decide_eq_true h3; fun b5 g5 => ⟨(gd_tf h3), ⟨(gd_tf h3), ⟨h3, q__ _ _ (retQ_pure (by first | exact ad_out (by omega) | exact ad_in' (by omega) (by omega) (by assumption) (by assumption)))⟩⟩⟩, fun h7 => have p8 := of_decide_eq_false h7; ⟨fun h10 => have p11 := of_decide_eq_true h10; fun b12 g12 => ⟨(gd_ff h7), ⟨(gd_ff h7), ⟨h7, ⟨(gd_tf h10), ⟨(gd_tf h10), ⟨h10, q__ _ _ (retQ_pure (by first | exact ad_out (by omega) | exact ad_in' (by omega) (by omega) (by assumption) (by assumption)))⟩⟩⟩⟩⟩⟩, fun h14 => have p15 := of_decide_eq_false h14; ⟨fun h17 => have p18 := of_decide_eq_true h17; fun b19 g19 => ⟨(gd_ff h7), ⟨(gd_ff h7), ⟨h7, ⟨(gd_ff h14), ⟨(gd_ff h14), ⟨h14, ⟨(gd_tf h17), ⟨(gd_tf h17), ⟨(gd_tf h17), ⟨(gd_tf h17), ⟨h17, q__ _ _ (retQ_pure (by first | exact ad_out (by omega) | exact ad_in' (by omega) (by omega) (by assumption) (by assumption)))⟩⟩⟩⟩⟩⟩⟩⟩⟩⟩⟩, fun h21 => have p22 := of_decide_eq_false h21; fun b23 g23 => ⟨(gd_ff h7), ⟨(gd_ff h7), ⟨h7, ⟨(gd_ff h14), ⟨(gd_ff h14), ⟨h14, ⟨(gd_ff h21), ⟨(gd_ff h21), ⟨(gd_ff h21), ⟨(ref04_Blocks c ), ⟨(gd_ff h21), ⟨h21, ⟨fun h24 => have p25 := of_decide_eq_true h24; q__ _ _ (retQ_pure (by first | exact ad_out (by omega) | exact ad_in' (by omega) (by omega) (by assumption) (by assumption))), fun h27 => have p28 := of_decide_eq_false h27; fun b29 g29 => ⟨(ref04_Words c ), q__ _ _ (retQ_pure (by first | exact ad_out (by omega) | exact ad_in' (by omega) (by omega) (by assumption) (by assumption)))⟩⟩⟩⟩⟩⟩⟩⟩⟩⟩⟩⟩⟩⟩⟩⟩⟩)

theorem blocks_le (c : Int) : cBlocks c ≤ 16 := by unfold cBlocks; (repeat' split) <;> omega

set_option maxRecDepth 20000 in
theorem ref05_Same (ba : Nat) (oa : Nat) (ma : Nat) (xa : List Int) (bb : Nat) (ob : Nat) (mb : Nat) (xb : List Int) (hxa : xa.length ≤ 9223372036854775807) (hxb : xb.length ≤ 9223372036854775807) : CallOb P0 69 #[.slice (sb ba oa) xa.length ma, .slice (sb bb ob) xb.length mb] [some (.ro (seg ba oa (xa.flatMap (encI .u64)))), some (.ro (seg bb ob (xb.flatMap (encI .u64))))] (pureRec (.bool (decide (xa = xb)))) :=
  CallOb.of fun hE =>
  have hz0 : ba = 0 → xa.length = 0 := seg_pre encI_ok 0 rfl hE
  have hz1 : bb = 0 → xb.length = 0 := seg_pre encI_ok 1 rfl hE
  sym_fn (fn := F69) (b := B69) (n := 26) mixed [(0, .slice (sb ba oa) xa.length ma), (1, .slice (sb bb ob) xb.length mb)] [.tmp 4] (.br (.ret [] []) (.loop (Nat) (fun s9 => [(0, .slice (sb ba oa) xa.length ma), (1, .slice (sb bb ob) xb.length mb), (5, .int .i64 ((s9 : Nat) : Int))]) (fun s9 => [some (.ro (seg ba oa (xa.flatMap (encI .u64)))), some (.ro (seg bb ob (xb.flatMap (encI .u64))))]) (fun s9 => SameTo xa xb s9) (fun s9 => xa.length - s9) (fun s9 => .br (.reg 6 ⟨0, [(2, .ix (ba - 1) oa s9), (3, .rd 0 (.int .u64 (xa.getD s9 0))), (6, .ix (bb - 1) ob s9), (7, .rd 1 (.int .u64 (xb.getD s9 0)))], []⟩ (fun b14 g14 => .br (.ret [] []) (.dead))) (.ret [] [])))) (by kernel_rfl) (by kernel_rfl) (by kernel_rfl) (by kernel_rfl) (by kernel_rfl) (by kernel_rfl) fun R__ q__ => via (B := (((((xa.length : Nat) : Int) != ((xb.length : Nat) : Int)) = true → R__ (.bool false) []) ∧ ((((xa.length : Nat) : Int) != ((xb.length : Nat) : Int)) = false → ((∃ s10 : Nat, (((.slice (sb ba oa) xa.length ma : Value) = .slice (sb ba oa) xa.length ma) ∧ ((.slice (sb bb ob) xb.length mb : Value) = .slice (sb bb ob) xb.length mb) ∧ (0 = ((s10 : Nat) : Int)) ∧ True) ∧ Ent [some (.ro (seg ba oa (xa.flatMap (encI .u64)))), some (.ro (seg bb ob (xb.flatMap (encI .u64))))] [some (.ro (seg ba oa (xa.flatMap (encI .u64)))), some (.ro (seg bb ob (xb.flatMap (encI .u64))))] ∧ SameTo xa xb s10) ∧ ∀ s9 : Nat, SameTo xa xb s9 → (((decide (((s9 : Nat) : Int) < ((xa.length : Nat) : Int))) = true → (AllG fun b14 g14 => ((sb ba oa) = some ⟨(ba - 1), oa, none⟩ ∧ (((s9 : Nat) : Int) = ((s9 : Nat) : Int) ∧ (s9 < xa.length ∧ (Reads P0 (.ro (seg ba oa (xa.flatMap (encI .u64)))) 41 ⟨(ba - 1), (oa + s9 * 1), none⟩ (.int .u64 (xa.getD s9 0)) ∧ ((sb bb ob) = some ⟨(bb - 1), ob, none⟩ ∧ (((s9 : Nat) : Int) = ((s9 : Nat) : Int) ∧ (s9 < xb.length ∧ (Reads P0 (.ro (seg bb ob (xb.flatMap (encI .u64)))) 41 ⟨(bb - 1), (ob + s9 * 1), none⟩ (.int .u64 (xb.getD s9 0)) ∧ ((((xa.getD s9 0) != (xb.getD s9 0)) = true → R__ (.bool false) []) ∧ (((xa.getD s9 0) != (xb.getD s9 0)) = false → (∃ s21 : Nat, (((.slice (sb ba oa) xa.length ma : Value) = .slice (sb ba oa) xa.length ma) ∧ ((.slice (sb bb ob) xb.length mb : Value) = .slice (sb bb ob) xb.length mb) ∧ ((iAdd .i64 ((s9 : Nat) : Int) 1) = ((s21 : Nat) : Int)) ∧ True) ∧ Ent [some (.ro (seg ba oa (xa.flatMap (encI .u64)))), some (.ro (seg bb ob (xb.flatMap (encI .u64))))] [some (.ro (seg ba oa (xa.flatMap (encI .u64)))), some (.ro (seg bb ob (xb.flatMap (encI .u64))))] ∧ SameTo xa xb s21 ∧ xa.length - s21 < xa.length - s9))))))))))))) ∧ ((decide (((s9 : Nat) : Int) < ((xa.length : Nat) : Int))) = false → R__ (.bool true) [])))))) (by kernel_rfl)
    (by exact ⟨fun h3 => have p4 := bne_iff_ne.1 h3; q__ _ _ (retQ_pure (by first | exact congrArg Value.bool (decide_eq_false (fun e => by subst e; omega)).symm | exact congrArg Value.bool (decide_eq_false (ne_at (d := 0) (by assumption))).symm | exact congrArg Value.bool (decide_eq_true (SameTo.eq (by assumption) (by assumption) (by omega))).symm)), fun h6 => have p7 := bne_eq_false_iff_eq.1 h6; ⟨⟨0, ⟨rfl, rfl, (by omega), trivial⟩, (Ent.refl _), SameTo.zero⟩, fun s9 i9 => ⟨fun h12 => have p13 := of_decide_eq_true h12; fun b14 g14 => ⟨(sb_some (by omega)), ⟨rfl, ⟨(by omega), ⟨(reads_sb (by omega) (encI_ok.load1 ta41 tq41 (getD_some (by omega)) rfl) rfl), ⟨(sb_some (by omega)), ⟨rfl, ⟨(by omega), ⟨(reads_sb (by omega) (encI_ok.load1 ta41 tq41 (getD_some (by omega)) rfl) rfl), ⟨fun h15 => have p16 := bne_iff_ne.1 h15; q__ _ _ (retQ_pure (by first | exact congrArg Value.bool (decide_eq_false (fun e => by subst e; omega)).symm | exact congrArg Value.bool (decide_eq_false (ne_at (d := 0) (by assumption))).symm | exact congrArg Value.bool (decide_eq_true (SameTo.eq (by assumption) (by assumption) (by omega))).symm)), fun h18 => have p19 := bne_eq_false_iff_eq.1 h18; ⟨s9 + 1, ⟨rfl, rfl, (inc_nat (by omega)), trivial⟩, (Ent.refl _), (i9.succ (d := 0) (by omega) (by omega) (by assumption)), (by omega)⟩⟩⟩⟩⟩⟩⟩⟩⟩⟩, fun h22 => have p23 := of_decide_eq_false h22; q__ _ _ (retQ_pure (by first | exact congrArg Value.bool (decide_eq_false (fun e => by subst e; omega)).symm | exact congrArg Value.bool (decide_eq_false (ne_at (d := 0) (by assumption))).symm | exact congrArg Value.bool (decide_eq_true (SameTo.eq (by assumption) (by assumption) (by omega))).symm))⟩⟩⟩)
end Go.Proofs.YthadoehgmdageaaDoor.Fl
