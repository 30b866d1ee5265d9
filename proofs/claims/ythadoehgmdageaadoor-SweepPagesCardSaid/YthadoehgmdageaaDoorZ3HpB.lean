/- Contracts of packages heap and object. Conditions: each in its premises. -/
import Derived.Test.YthadoehgmdageaaDoorZ3HpA
set_option linter.unusedVariables false
set_option linter.unusedSimpArgs false
namespace Go.Proofs.YthadoehgmdageaaDoor.Fl
open Go.RowKit
abbrev Sp := Int × Int × Int
def spAt (sp : List Sp) (p : Int) : Sp := sp.getD p.toNat (0, 0, 0)
def stP (sp : List Sp) (p : Int) : Int := (spAt sp p).1
def clP (sp : List Sp) (p : Int) : Int := (spAt sp p).2.1
def frP (sp : List Sp) (p : Int) : Int := (spAt sp p).2.2
def rightS (s : Sp) : Bool := spR s.1 s.2.1 s.2.2
def formB (nw : Nat) (sp : List Sp) : Bool := !(sp.any fun s => !(rightS s)) && (decide (1 ≤ sp.length) && (decide (sp.length ≤ 16) && decide (nw = 32 * sp.length)))
theorem form_p {nw : Nat} {sp : List Sp} (h : formB nw sp = true) : (∀ s ∈ sp, rightS s = true) ∧ 1 ≤ sp.length ∧ sp.length ≤ 16 ∧ nw = 32 * sp.length := by
  unfold formB at h
  simp only [Bool.and_eq_true, decide_eq_true_eq, Bool.not_eq_true', List.any_eq_false] at h
  obtain ⟨h1, h2, h3, h4⟩ := h
  exact ⟨fun s hs => by have := h1 s hs; simpa using this, h2, h3, h4⟩
theorem form_of {nw : Nat} {sp : List Sp} (h1 : ∀ s ∈ sp, rightS s = true) (h2 : 1 ≤ sp.length) (h3 : sp.length ≤ 16) (h4 : nw = 32 * sp.length) : formB nw sp = true := by
  unfold formB
  rw [decide_eq_true h2, decide_eq_true h3, decide_eq_true h4]
  simp only [Bool.and_true, Bool.not_eq_true', List.any_eq_false]
  exact fun s hs => by rw [h1 s hs]; decide
def pgS (sp : List Sp) (p : Int) : Int := if inR sp.length p = true then (sp.getD p.toNat (0, 0, 0)).1 else 0
def pgC (sp : List Sp) (p : Int) : Int := if inR sp.length p = true then (sp.getD p.toNat (0, 0, 0)).2.1 else 0
def pgF (sp : List Sp) (p : Int) : Int := if inR sp.length p = true then (sp.getD p.toNat (0, 0, 0)).2.2 else 0
theorem pg_no {sp : List Sp} {p : Int} (h : inR sp.length p = false) : Value.tuple #[.agg #[.int .i64 0, .int .i64 0, .int .u32 0], .bool false] = .tuple #[.agg #[.int .i64 (pgS sp p), .int .i64 (pgC sp p), .int .u32 (pgF sp p)], .bool (inR sp.length p)] := by unfold pgS pgC pgF; rw [h]; rfl
theorem pg_yes {sp : List Sp} {p : Int} (h : inR sp.length p = true) : Value.tuple #[.agg #[.int .i64 (sp.getD p.toNat (0, 0, 0)).1, .int .i64 (sp.getD p.toNat (0, 0, 0)).2.1, .int .u32 (sp.getD p.toNat (0, 0, 0)).2.2], .bool true] = .tuple #[.agg #[.int .i64 (pgS sp p), .int .i64 (pgC sp p), .int .u32 (pgF sp p)], .bool (inR sp.length p)] := by unfold pgS pgC pgF; rw [h]; rfl
/-- Whether a block begins at an address. -/
def fnOk (sp : List Sp) (a : Int) : Bool := decide (0 ≤ a) && (decide (a / 32 < (sp.length : Int)) && (!(stP sp (a / 32) == 0) && plOk (clP sp (a / 32)) a))
def fnP (sp : List Sp) (a : Int) : Int := if fnOk sp a = true then a / 32 else 0
def fnX (sp : List Sp) (a : Int) : Int := if fnOk sp a = true then a % 32 / cWords (clP sp (a / 32)) else 0
theorem fn_no {sp : List Sp} {a : Int} (h : fnOk sp a = false) : Value.tuple #[.int .i64 0, .int .i64 0, .bool false] = .tuple #[.int .i64 (fnP sp a), .int .i64 (fnX sp a), .bool (fnOk sp a)] := by unfold fnP fnX; rw [h]; rfl
theorem fn_f1 {sp : List Sp} {a : Int} (h : a < 0) : fnOk sp a = false := by unfold fnOk; rw [decide_eq_false (by omega)]; rfl
theorem quo32 {a : Int} (h : 0 ≤ a) (h1 : a < 9223372036854775808) : iQuo .i64 a 32 = a / 32 := quo_i64 h (by decide) (by unfold in64; omega)
theorem in64_lt {a : Int} (h : in64 a) : a < 9223372036854775808 := by have := h.2; omega
theorem fn_f2 {sp : List Sp} {a : Int} (h0 : ¬ a < 0) (ha : in64 a) (h : inR sp.length (iQuo .i64 a 32) = false) : fnOk sp a = false := by
  rw [quo32 (by omega) (in64_lt ha)] at h
  have := inR_f h
  unfold fnOk; rw [decide_eq_false (show ¬ a / 32 < (sp.length : Int) by omega)]; simp
theorem fn_pg {sp : List Sp} {a : Int} (h0 : ¬ a < 0) (ha : in64 a) (h : inR sp.length (iQuo .i64 a 32) = true) : a / 32 < (sp.length : Int) ∧ pgS sp (iQuo .i64 a 32) = stP sp (a / 32) ∧ pgC sp (iQuo .i64 a 32) = clP sp (a / 32) := by
  have e := quo32 (a := a) (by omega) (in64_lt ha)
  have := inR_t h
  rw [e] at this
  refine ⟨this.2, ?_, ?_⟩
  · unfold pgS; rw [if_pos h, e]; rfl
  · unfold pgC; rw [if_pos h, e]; rfl
theorem fn_f3 {sp : List Sp} {a : Int} (h0 : ¬ a < 0) (ha : in64 a) (h : inR sp.length (iQuo .i64 a 32) = true) (h3 : pgS sp (iQuo .i64 a 32) = 0) : fnOk sp a = false := by
  rw [(fn_pg h0 ha h).2.1] at h3
  unfold fnOk; rw [h3]; simp
theorem fn_y {sp : List Sp} {a : Int} (h0 : ¬ a < 0) (ha : in64 a) (h : inR sp.length (iQuo .i64 a 32) = true) (h3 : ¬ pgS sp (iQuo .i64 a 32) = 0) : Value.tuple #[.int .i64 (plP (pgC sp (iQuo .i64 a 32)) a), .int .i64 (plX (pgC sp (iQuo .i64 a 32)) a), .bool (plOk (pgC sp (iQuo .i64 a 32)) a)] = .tuple #[.int .i64 (fnP sp a), .int .i64 (fnX sp a), .bool (fnOk sp a)] := by
  obtain ⟨e1, e2, e3⟩ := fn_pg h0 ha h
  rw [e2] at h3; rw [e3]
  have e : fnOk sp a = plOk (clP sp (a / 32)) a := by unfold fnOk; rw [decide_eq_true (show 0 ≤ a by omega), decide_eq_true e1, beq_eq_false_iff_ne.2 h3]; simp
  unfold fnP fnX plP plX; rw [e]
theorem fn_parts {sp : List Sp} {a : Int} (h : fnOk sp a = true) : 0 ≤ a ∧ a / 32 < (sp.length : Int) ∧ ¬ stP sp (a / 32) = 0 ∧ plOk (clP sp (a / 32)) a = true ∧ fnP sp a = a / 32 ∧ fnX sp a = a % 32 / cWords (clP sp (a / 32)) := by
  have h2 := h
  unfold fnOk at h2
  simp only [Bool.and_eq_true, decide_eq_true_eq, Bool.not_eq_true', beq_eq_false_iff_ne] at h2
  refine ⟨h2.1, h2.2.1, h2.2.2.1, h2.2.2.2, by unfold fnP; rw [if_pos h], by unfold fnX; rw [if_pos h]⟩
def wAt (ws : List Int) (a : Int) : Int := ws.getD a.toNat 0
def gtOk (ws : List Int) (sp : List Sp) (a : Int) : Bool := fnOk sp a && (hdGood (wAt ws a) && decide (a + hdN (wAt ws a) < 32 * (a / 32) + 32))
def gtB (ws : List Int) (sp : List Sp) (a : Int) : Bool := gtOk ws sp a && hdB (wAt ws a)
def gtC (ws : List Int) (sp : List Sp) (a : Int) : Int := if gtOk ws sp a = true then hdC (wAt ws a) else 0
def gtN (ws : List Int) (sp : List Sp) (a : Int) : Int := if gtOk ws sp a = true then hdN (wAt ws a) else 0
theorem gt_no {ws : List Int} {sp : List Sp} {a : Int} (h : gtOk ws sp a = false) : Value.tuple #[.agg #[.bool false, .bool false, .int .i64 0, .int .i64 0], .bool false] = .tuple #[.agg #[.bool (gtOk ws sp a), .bool (gtB ws sp a), .int .i64 (gtC ws sp a), .int .i64 (gtN ws sp a)], .bool (gtOk ws sp a)] := by unfold gtB gtC gtN; rw [h]; rfl
theorem gt_f1 {ws : List Int} {sp : List Sp} {a : Int} (h : fnOk sp a = false) : gtOk ws sp a = false := by unfold gtOk; rw [h]; rfl
theorem gU_of {w : Int} : gU w = hdGood w := by
  unfold gU hdOk
  cases hg : hdGood w with
  | true => rw [(good_range hg).2.2.2.2.2.1]; simp
  | false =>
    by_cases e : w = 0
    · subst e; rfl
    · rw [beq_eq_false_iff_ne.2 e]; rfl
theorem gt_f2 {ws : List Int} {sp : List Sp} {a : Int} (h : gU (wAt ws a) = false) : gtOk ws sp a = false := by rw [gU_of] at h; unfold gtOk; rw [h]; simp
theorem gt_f2' {ws : List Int} {sp : List Sp} {a : Int} (h : hdOk (wAt ws a) = false) : gtOk ws sp a = false := gt_f2 (by unfold gU; rw [h]; rfl)
theorem good_g {w : Int} (h : gU w = true) : hdGood w = true ∧ gB w = hdB w ∧ gC w = hdC w ∧ gN w = hdN w := by
  have hg := h
  rw [gU_of] at hg
  have ho : hdOk w = true := by unfold hdOk; rw [hg]; simp
  exact ⟨hg, by unfold gB; rw [ho]; rfl, by unfold gC; rw [if_pos ho], by unfold gN; rw [if_pos ho]⟩
theorem gt_add {sp : List Sp} {a w : Int} (h1 : fnOk sp a = true) (h2 : gU w = true) : iAdd .i64 a (gN w) = a + hdN w ∧ iMul .i64 (iAdd .i64 (fnP sp a) 1) 32 = 32 * (a / 32) + 32 ∧ iAdd .i64 (iMul .i64 32 (iQuo .i64 a 32)) 32 = 32 * (a / 32) + 32 := by
  obtain ⟨f1, f2, f3, f4, f5, f6⟩ := fn_parts h1
  obtain ⟨g1, g2, g3, g4⟩ := good_g h2
  obtain ⟨r1, r2, r3, r4, r5, _⟩ := good_range g1
  obtain ⟨q1, q2, q3, _⟩ := pl_block f4
  have hl := cW_le (hdC w)
  rw [f5, g4, add_i64 (by unfold in64; omega), add_i64 (x := a / 32) (by unfold in64; omega), mul_i64 (by unfold in64; omega), quo32 f1 (by omega), mul_i64 (by unfold in64; omega), add_i64 (by unfold in64; omega)]
  exact ⟨rfl, by omega, rfl⟩
theorem gt_f3 {ws : List Int} {sp : List Sp} {a : Int} (h1 : fnOk sp a = true) (h2 : gU (wAt ws a) = true) (h3 : iAdd .i64 a (gN (wAt ws a)) ≥ iMul .i64 (iAdd .i64 (fnP sp a) 1) 32) : gtOk ws sp a = false := by
  obtain ⟨e1, e2, e3⟩ := gt_add (w := wAt ws a) h1 h2
  rw [e1, e2] at h3
  unfold gtOk; rw [decide_eq_false (by omega)]; simp
theorem gt_f3' {ws : List Int} {sp : List Sp} {a : Int} (h1 : fnOk sp a = true) (h2 : gU (wAt ws a) = true) (h3 : iAdd .i64 a (gN (wAt ws a)) ≥ iAdd .i64 (iMul .i64 32 (iQuo .i64 a 32)) 32) : gtOk ws sp a = false := by
  obtain ⟨e1, e2, e3⟩ := gt_add (w := wAt ws a) h1 h2
  rw [e1, e3] at h3
  unfold gtOk; rw [decide_eq_false (by omega)]; simp
theorem gt_t {ws : List Int} {sp : List Sp} {a : Int} (h1 : fnOk sp a = true) (h2 : gU (wAt ws a) = true) (h3 : ¬ iAdd .i64 a (gN (wAt ws a)) ≥ iMul .i64 (iAdd .i64 (fnP sp a) 1) 32) : gtOk ws sp a = true := by
  obtain ⟨e1, e2, e3⟩ := gt_add (w := wAt ws a) h1 h2
  rw [e1, e2] at h3
  unfold gtOk; rw [h1, (good_g h2).1, decide_eq_true (by omega)]; rfl
theorem gt_t' {ws : List Int} {sp : List Sp} {a : Int} (h1 : fnOk sp a = true) (h2 : gU (wAt ws a) = true) (h3 : ¬ iAdd .i64 a (gN (wAt ws a)) ≥ iAdd .i64 (iMul .i64 32 (iQuo .i64 a 32)) 32) : gtOk ws sp a = true := by
  obtain ⟨e1, e2, e3⟩ := gt_add (w := wAt ws a) h1 h2
  rw [e1, e3] at h3
  unfold gtOk; rw [h1, (good_g h2).1, decide_eq_true (by omega)]; rfl
theorem gt_yes {ws : List Int} {sp : List Sp} {a : Int} (h : gtOk ws sp a = true) (h2 : gU (wAt ws a) = true) : Value.tuple #[.agg #[.bool (gU (wAt ws a)), .bool (gB (wAt ws a)), .int .i64 (gC (wAt ws a)), .int .i64 (gN (wAt ws a))], .bool true] = .tuple #[.agg #[.bool (gtOk ws sp a), .bool (gtB ws sp a), .int .i64 (gtC ws sp a), .int .i64 (gtN ws sp a)], .bool (gtOk ws sp a)] := by
  obtain ⟨g1, g2, g3, g4⟩ := good_g h2
  unfold gtB gtC gtN; rw [h, h2, g2, g3, g4]; rfl
theorem gt_parts {ws : List Int} {sp : List Sp} {a : Int} (h : gtOk ws sp a = true) : fnOk sp a = true ∧ hdGood (wAt ws a) = true ∧ gtN ws sp a = hdN (wAt ws a) ∧ gtC ws sp a = hdC (wAt ws a) ∧ a + gtN ws sp a < 32 * (a / 32) + 32 := by
  have h2 := h
  unfold gtOk at h2
  simp only [Bool.and_eq_true, decide_eq_true_eq] at h2
  refine ⟨h2.1, h2.2.1, by unfold gtN; rw [if_pos h], by unfold gtC; rw [if_pos h], by unfold gtN; rw [if_pos h]; exact h2.2.2⟩
theorem gt_range {ws : List Int} {sp : List Sp} {a : Int} : 0 ≤ gtN ws sp a ∧ gtN ws sp a ≤ 15 := by
  cases h : gtOk ws sp a with
  | false => unfold gtN; rw [h, if_neg (by decide)]; decide
  | true =>
    obtain ⟨_, g, e, _⟩ := gt_parts h
    have := good_range g; have := cW_le (hdC (wAt ws a))
    rw [e]; omega
theorem fn_lt {sp : List Sp} {a : Int} (h : fnOk sp a = true) {nw : Nat} (hn : nw = 32 * sp.length) : a.toNat < nw ∧ a = ((a.toNat : Nat) : Int) := by
  obtain ⟨f1, f2, _⟩ := fn_parts h
  omega
theorem getD_all {α : Type} {P : α → Prop} {l : List α} {d : α} (h : ∀ x ∈ l, P x) (hd : P d) (i : Nat) : P (l.getD i d) := by
  by_cases e : i < l.length
  · rw [show l.getD i d = l[i] by simp [List.getD, e]]; exact h _ (List.getElem_mem e)
  · rw [show l.getD i d = d by simp [List.getD, e]]; exact hd
theorem getD_u64 {ws : List Int} (h : ∀ x ∈ ws, inU64 x) (i : Nat) : inU64 (ws.getD i 0) := getD_all h ⟨by decide, by decide⟩ i
theorem getD_u32 {sp : List Sp} (h : ∀ s ∈ sp, inU32 s.2.2) (i : Nat) : inU32 (sp.getD i (0, 0, 0)).2.2 := getD_all (P := fun s : Sp => inU32 s.2.2) h ⟨by decide, by decide⟩ i
def NoFn (sp : List Sp) (a : Int) (p i : Nat) : Prop := ∀ q j : Nat, q < sp.length → ((j : Nat) : Int) < cBlocks (clP sp q) → ¬ stP sp q = 0 → (q < p ∨ (q = p ∧ j < i)) → 32 * ((q : Nat) : Int) + ((j : Nat) : Int) * cWords (clP sp q) ≠ a
theorem NoFn.zero {sp : List Sp} {a : Int} : NoFn sp a 0 0 := fun q j _ _ _ h => by omega
theorem NoFn.succ {sp : List Sp} {a : Int} {p i : Nat} (h : NoFn sp a p i) (hn : 32 * ((p : Nat) : Int) + ((i : Nat) : Int) * cWords (clP sp p) ≠ a) : NoFn sp a p (i + 1) := fun q j h1 h2 h3 h4 => by
  by_cases e : q = p ∧ j = i
  · obtain ⟨rfl, rfl⟩ := e; exact hn
  · exact h q j h1 h2 h3 (by omega)
theorem NoFn.next {sp : List Sp} {a : Int} {p i : Nat} (h : NoFn sp a p i) (hx : stP sp p = 0 ∨ ¬ ((i : Nat) : Int) < cBlocks (clP sp p)) : NoFn sp a (p + 1) 0 := fun q j h1 h2 h3 h4 => by
  by_cases e : q = p
  · subst e
    rcases hx with hx | hx
    · exact absurd hx h3
    · exact h q j h1 h2 h3 (by omega)
  · exact h q j h1 h2 h3 (by omega)
theorem NoFn.none {sp : List Sp} {a : Int} {p : Nat} (h : NoFn sp a p 0) (hp : ¬ ((p : Nat) : Int) < (sp.length : Int)) : fnOk sp a = false := by
  cases e : fnOk sp a with
  | false => rfl
  | true =>
    obtain ⟨f1, f2, f3, f4, f5, f6⟩ := fn_parts e
    obtain ⟨hc, h0, h1, h2, h3, h4, h5, h6⟩ := pl_block f4
    have hq : (((a / 32).toNat : Nat) : Int) = a / 32 := Int.toNat_of_nonneg h2
    have := h (a / 32).toNat (a % 32 / cWords (clP sp (a / 32))).toNat (by omega) (by rw [hq, Int.toNat_of_nonneg h4]; exact h5) (by rw [hq]; exact f3) (by omega)
    rw [hq, Int.toNat_of_nonneg h4] at this
    exact absurd h6 this
theorem NoFn.found {sp : List Sp} {a : Int} {p i : Nat} (hl : sp.length ≤ 16) (hp : p < sp.length) (hi : ((i : Nat) : Int) < cBlocks (clP sp p)) (hs : ¬ stP sp p = 0) (he : 32 * ((p : Nat) : Int) + ((i : Nat) : Int) * cWords (clP sp p) = a) : Value.tuple #[.int .i64 ((p : Nat) : Int), .int .i64 ((i : Nat) : Int), .bool true] = .tuple #[.int .i64 (fnP sp a), .int .i64 (fnX sp a), .bool (fnOk sp a)] := by
  have hc := isC_blocks (c := clP sp p) (i := ((i : Nat) : Int)) (by omega) hi
  obtain ⟨h1, h2, h3, h4, h5⟩ := ad_lt hc (q := p) (j := i) (by omega) hi
  rw [he] at h1 h2 h3 h4 h5
  have e : fnOk sp a = true := by
    unfold fnOk plOk
    rw [h4, decide_eq_true h1, decide_eq_true (show ((p : Nat) : Int) < (sp.length : Int) by omega), beq_eq_false_iff_ne.2 hs, hc, decide_eq_true (And.intro h1 h2), decide_eq_true h3]; rfl
  unfold fnP fnX; rw [e, if_pos rfl, if_pos rfl, h4, h5]
theorem at_add {p c i : Int} (hp : 0 ≤ p ∧ p < 16) (hi : 0 ≤ i ∧ i < cBlocks c) : iAdd .i64 (iMul .i64 32 p) (iMul .i64 i (cWords c)) = 32 * p + i * cWords c ∧ iAdd .i64 (iMul .i64 p 32) (iMul .i64 i (cWords c)) = 32 * p + i * cWords c := by
  obtain ⟨a, b, c', d, e⟩ := ad_in0 (p := p) (c := c) (i := i) (by omega) (by omega) (by omega) (by omega)
  rw [b, c', d, e]; exact ⟨rfl, rfl⟩


/-- Whether an object is there, and black. -/
def blB (ws : List Int) (sp : List Sp) (e : Bool) (a : Int) : Bool := gtOk ws sp a && (gtB ws sp a == e)
/-- To what the first i fields refer. -/
def refTo (ws : List Int) (a : Int) : Nat → List Int
  | 0 => []
  | i + 1 => if vK (wAt ws (a + 1 + ((i : Nat) : Int))) = 2 then refTo ws a i ++ [vN (wAt ws (a + 1 + ((i : Nat) : Int)))] else refTo ws a i
theorem ref_yes {ws : List Int} {a : Int} {i : Nat} (h : vK (wAt ws (a + 1 + ((i : Nat) : Int))) = 2) : refTo ws a i ++ [vN (wAt ws (a + 1 + ((i : Nat) : Int)))] = refTo ws a (i + 1) := by
  show _ = (if _ then _ else _); rw [if_pos h]
theorem ref_no {ws : List Int} {a : Int} {i : Nat} (h : ¬ vK (wAt ws (a + 1 + ((i : Nat) : Int))) = 2) : refTo ws a i = refTo ws a (i + 1) := by
  show _ = (if _ then _ else _); rw [if_neg h]
theorem ref_len (ws : List Int) (a : Int) : ∀ i, (refTo ws a i).length ≤ i
  | 0 => Nat.le_refl _
  | i + 1 => by
    have := ref_len ws a i
    unfold refTo; split
    · rw [List.length_append, List.length_singleton]; omega
    · omega
theorem gtN_pos {ws : List Int} {sp : List Sp} {a : Int} {i : Nat} (h : ((i : Nat) : Int) < gtN ws sp a) : gtOk ws sp a = true := by
  cases e : gtOk ws sp a with
  | true => rfl
  | false => unfold gtN at h; rw [e, if_neg (by decide)] at h; omega
theorem ref_ix {ws : List Int} {sp : List Sp} {a : Int} (hn : ws.length = 32 * sp.length) {i : Nat} (h : ((i : Nat) : Int) < gtN ws sp a) : iAdd .i64 (iAdd .i64 a 1) ((i : Nat) : Int) = ((Int.toNat (a + 1 + ((i : Nat) : Int)) : Nat) : Int) ∧ Int.toNat (a + 1 + ((i : Nat) : Int)) < ws.length := by
  obtain ⟨g1, g2, g3, g4, g5⟩ := gt_parts (gtN_pos h)
  obtain ⟨f1, f2, f3, f4, f5, f6⟩ := fn_parts g1
  obtain ⟨q1, q2, q3, _⟩ := pl_block f4
  rw [add_i64 (x := a) (by unfold in64; omega), add_i64 (by unfold in64; omega)]
  omega


set_option maxRecDepth 20000 in
theorem heap_page (bw : Nat) (ow : Nat) (mw : Nat) (xw : List Int) (bs : Nat) (os : Nat) (ms : Nat) (xs : List (Int × Int × Int)) (e : Bool) (p : Int) : CallOb P0 112 #[.agg #[.slice (sb bw ow) xw.length mw, .slice (sb bs os) xs.length ms, .bool e], .int .i64 p] [some (.ro (seg bw ow (xw.flatMap (encI .u64)))), some (.ro (seg bs os (xs.flatMap encIIW)))] (pureRec (.tuple #[.agg #[.int .i64 (pgS xs p), .int .i64 (pgC xs p), .int .u32 (pgF xs p)], .bool (inR xs.length p)])) :=
  CallOb.of fun hE =>
  have hz0 : bw = 0 → xw.length = 0 := seg_pre encI_ok 0 rfl hE
  have hz1 : bs = 0 → xs.length = 0 := seg_pre encIIW_ok 1 rfl hE
  sym_fn (fn := F112) (b := B112) (n := 21) mixed [(0, .agg #[.slice (sb bw ow) xw.length mw, .slice (sb bs os) xs.length ms, .bool e]), (1, .int .i64 p)] [.cell 4 39, .tmp 5] (.reg 0 ⟨2, [(0, .key 2), (1, .key 3)], []⟩ (fun b1 g1 => .case 1 (decide (p < 0)) (.reg 1 ⟨0, [(8, .dec true)], [(3, false), (4, false), (5, false), (6, false), (7, false)]⟩ (fun b5 g5 => .reg 2 ⟨0, [(1, .key 3)], []⟩ (fun b6 g6 => .ret [3] []))) (.reg 1 ⟨0, [(5, .key 2), (8, .dec false)], [(3, true), (4, true), (5, true), (6, true), (7, true)]⟩ (fun b9 g9 => .br (.reg 2 ⟨0, [(1, .key 3)], []⟩ (fun b12 g12 => .ret [3] [])) (.reg 3 ⟨0, [(1, .key 2), (3, .ix (bs - 1) os (Int.toNat p)), (4, .rd 1 (.agg #[.int .i64 ((xs.getD (Int.toNat p) (0, 0, 0)).1), .int .i64 ((xs.getD (Int.toNat p) (0, 0, 0)).2.1), .int .u32 ((xs.getD (Int.toNat p) (0, 0, 0)).2.2)])), (5, .key 3)], []⟩ (fun b15 g15 => .ret [3] [])))))) (by kernel_rfl) (by kernel_rfl) (by kernel_rfl) (by kernel_rfl) (by kernel_rfl) (by kernel_rfl) fun R__ q__ => via (B := (AllG fun b1 g1 => (((decide (p < 0)) = true → (AllG fun b5 g5 => (((decide (p < 0)) == false) = false ∧ (((decide (p < 0)) == false) = false ∧ (((decide (p < 0)) == false) = false ∧ (((decide (p < 0)) == false) = false ∧ (((decide (p < 0)) == false) = false ∧ ((decide (p < 0)) = true ∧ (AllG fun b6 g6 => ((b1 1) = (b1 1) ∧ ((b1 1) = (b1 1) ∧ R__ (.tuple #[.agg #[.int .i64 0, .int .i64 0, .int .u32 0], .bool false]) []))))))))))) ∧ ((decide (p < 0)) = false → (AllG fun b9 g9 => (((decide (p < 0)) == false) = true ∧ (((decide (p < 0)) == false) = true ∧ (((decide (p < 0)) == false) = true ∧ ((b1 0) = (b1 0) ∧ (((decide (p < 0)) == false) = true ∧ (((decide (p < 0)) == false) = true ∧ ((decide (p < 0)) = false ∧ (((decide (p ≥ ((xs.length : Nat) : Int))) = true → (AllG fun b12 g12 => ((b1 1) = (b1 1) ∧ ((b1 1) = (b1 1) ∧ R__ (.tuple #[.agg #[.int .i64 0, .int .i64 0, .int .u32 0], .bool false]) [])))) ∧ ((decide (p ≥ ((xs.length : Nat) : Int))) = false → (AllG fun b15 g15 => ((b1 0) = (b1 0) ∧ ((sb bs os) = some ⟨(bs - 1), os, none⟩ ∧ (p = ((Int.toNat p : Nat) : Int) ∧ ((Int.toNat p) < xs.length ∧ (Reads P0 (.ro (seg bs os (xs.flatMap encIIW))) 39 ⟨(bs - 1), (os + (Int.toNat p) * 3), none⟩ (.agg #[.int .i64 ((xs.getD (Int.toNat p) (0, 0, 0)).1), .int .i64 ((xs.getD (Int.toNat p) (0, 0, 0)).2.1), .int .u32 ((xs.getD (Int.toNat p) (0, 0, 0)).2.2)]) ∧ ((b1 1) = (b1 1) ∧ ((b1 1) = (b1 1) ∧ R__ (.tuple #[.agg #[.int .i64 ((xs.getD (Int.toNat p) (0, 0, 0)).1), .int .i64 ((xs.getD (Int.toNat p) (0, 0, 0)).2.1), .int .u32 ((xs.getD (Int.toNat p) (0, 0, 0)).2.2)], .bool true]) [])))))))))))))))))))))) (by kernel_rfl)
    (by exact fun b1 g1 => ⟨fun h3 => have p4 := of_decide_eq_true h3; fun b5 g5 => ⟨(gd_tf h3), ⟨(gd_tf h3), ⟨(gd_tf h3), ⟨(gd_tf h3), ⟨(gd_tf h3), ⟨h3, fun b6 g6 => ⟨rfl, ⟨rfl, q__ _ _ (retQ_pure (by first | exact pg_no (inR_not (by omega)) | exact pg_yes (inR_of (by omega) (by omega))))⟩⟩⟩⟩⟩⟩⟩⟩, fun h7 => have p8 := of_decide_eq_false h7; fun b9 g9 => ⟨(gd_ff h7), ⟨(gd_ff h7), ⟨(gd_ff h7), ⟨rfl, ⟨(gd_ff h7), ⟨(gd_ff h7), ⟨h7, ⟨fun h10 => have p11 := of_decide_eq_true h10; fun b12 g12 => ⟨rfl, ⟨rfl, q__ _ _ (retQ_pure (by first | exact pg_no (inR_not (by omega)) | exact pg_yes (inR_of (by omega) (by omega))))⟩⟩, fun h13 => have p14 := of_decide_eq_false h13; fun b15 g15 => ⟨rfl, ⟨(sb_some (by omega)), ⟨(inR_n (n := xs.length) (by first | assumption | exact inR_of (by omega) (by omega))).1, ⟨(by omega), ⟨(reads_sb (by omega) (encIIW_ok.loadA ta39 ti39 tk39 (getD_some (by omega))) rfl), ⟨rfl, ⟨rfl, q__ _ _ (retQ_pure (by first | exact pg_no (inR_not (by omega)) | exact pg_yes (inR_of (by omega) (by omega))))⟩⟩⟩⟩⟩⟩⟩⟩⟩⟩⟩⟩⟩⟩⟩⟩)

set_option maxRecDepth 20000 in
theorem heap_Find (bw : Nat) (ow : Nat) (mw : Nat) (xw : List Int) (bs : Nat) (os : Nat) (ms : Nat) (xs : List (Int × Int × Int)) (e : Bool) (a : Int) (ha : in64 a) : CallOb P0 90 #[.agg #[.slice (sb bw ow) xw.length mw, .slice (sb bs os) xs.length ms, .bool e], .int .i64 a] [some (.ro G), some (.ro (seg bw ow (xw.flatMap (encI .u64)))), some (.ro (seg bs os (xs.flatMap encIIW)))] (pureRec (.tuple #[.int .i64 (fnP xs a), .int .i64 (fnX xs a), .bool (fnOk xs a)])) :=
  CallOb.of fun hE =>
  have hz1 : bw = 0 → xw.length = 0 := seg_pre encI_ok 1 rfl hE
  have hz2 : bs = 0 → xs.length = 0 := seg_pre encIIW_ok 2 rfl hE
  sym_fn (fn := F90) (b := B90) (n := 34) mixed [(0, .agg #[.slice (sb bw ow) xw.length mw, .slice (sb bs os) xs.length ms, .bool e]), (1, .int .i64 a)] [.tmp 4, .tmp 5, .tmp 6] (.reg 0 ⟨1, [(0, .key 3)], []⟩ (fun b1 g1 => .reg 1 ⟨1, [(0, .key 3), (3, .call [1, 2] [] [] (pureRec (.tuple #[.agg #[.int .i64 (pgS xs (iQuo .i64 a 32)), .int .i64 (pgC xs (iQuo .i64 a 32)), .int .u32 (pgF xs (iQuo .i64 a 32))], .bool (inR xs.length (iQuo .i64 a 32))]))), (7, .key 4), (8, .key 4)], []⟩ (fun b2 g2 => .case 2 (decide (a < 0)) (.reg 2 ⟨0, [(5, .dec true)], [(3, false), (4, false)]⟩ (fun b6 g6 => .ret [] [])) (.case 2 (inR xs.length (iQuo .i64 a 32)) (.reg 2 ⟨0, [(5, .dec false), (8, .key 4), (10, .dec false)], [(3, true), (4, true), (7, true), (8, true), (9, true)]⟩ (fun b12 g12 => .br (.ret [] []) (.reg 4 ⟨0, [(1, .key 4), (3, .call [0] [] [] (pureRec (.tuple #[.int .i64 (plP (pgC xs (iQuo .i64 a 32)) a), .int .i64 (plX (pgC xs (iQuo .i64 a 32)) a), .bool (plOk (pgC xs (iQuo .i64 a 32)) a)])))], []⟩ (fun b18 g18 => .ret [] [])))) (.reg 2 ⟨0, [(5, .dec false), (10, .dec true)], [(3, true), (4, true), (7, false), (8, false), (9, false)]⟩ (fun b20 g20 => .ret [] [])))))) (by kernel_rfl) (by kernel_rfl) (by kernel_rfl) (by kernel_rfl) (by kernel_rfl) (by kernel_rfl) fun R__ q__ => via (B := (AllG fun b1 g1 => (AllG fun b2 g2 => ((b1 0) = (b1 0) ∧ (CallOb P0 112 #[.agg #[.slice (sb bw ow) xw.length mw, .slice (sb bs os) xs.length ms, .bool e], .int .i64 (iQuo .i64 a 32)] [some (.ro (seg bw ow (xw.flatMap (encI .u64)))), some (.ro (seg bs os (xs.flatMap encIIW)))] (pureRec (.tuple #[.agg #[.int .i64 (pgS xs (iQuo .i64 a 32)), .int .i64 (pgC xs (iQuo .i64 a 32)), .int .u32 (pgF xs (iQuo .i64 a 32))], .bool (inR xs.length (iQuo .i64 a 32))])) ∧ ((b2 7) = (b2 7) ∧ (((decide (a < 0)) = true → (AllG fun b6 g6 => (((decide (a < 0)) == false) = false ∧ (((decide (a < 0)) == false) = false ∧ ((decide (a < 0)) = true ∧ R__ (.tuple #[.int .i64 0, .int .i64 0, .bool false]) []))))) ∧ ((decide (a < 0)) = false → (((inR xs.length (iQuo .i64 a 32)) = true → (AllG fun b12 g12 => (((decide (a < 0)) == false) = true ∧ (((decide (a < 0)) == false) = true ∧ ((decide (a < 0)) = false ∧ (((!(inR xs.length (iQuo .i64 a 32))) == false) = true ∧ (((!(inR xs.length (iQuo .i64 a 32))) == false) = true ∧ ((b2 7) = (b2 7) ∧ (((!(inR xs.length (iQuo .i64 a 32))) == false) = true ∧ ((!(inR xs.length (iQuo .i64 a 32))) = false ∧ ((((pgS xs (iQuo .i64 a 32)) == 0) = true → R__ (.tuple #[.int .i64 0, .int .i64 0, .bool false]) []) ∧ (((pgS xs (iQuo .i64 a 32)) == 0) = false → (AllG fun b18 g18 => ((b2 7) = (b2 7) ∧ (CallOb P0 113 #[.int .i64 (pgC xs (iQuo .i64 a 32)), .int .i64 a] [some (.ro G)] (pureRec (.tuple #[.int .i64 (plP (pgC xs (iQuo .i64 a 32)) a), .int .i64 (plX (pgC xs (iQuo .i64 a 32)) a), .bool (plOk (pgC xs (iQuo .i64 a 32)) a)])) ∧ R__ (.tuple #[.int .i64 (plP (pgC xs (iQuo .i64 a 32)) a), .int .i64 (plX (pgC xs (iQuo .i64 a 32)) a), .bool (plOk (pgC xs (iQuo .i64 a 32)) a)]) []))))))))))))))) ∧ ((inR xs.length (iQuo .i64 a 32)) = false → (AllG fun b20 g20 => (((decide (a < 0)) == false) = true ∧ (((decide (a < 0)) == false) = true ∧ ((decide (a < 0)) = false ∧ (((!(inR xs.length (iQuo .i64 a 32))) == false) = false ∧ (((!(inR xs.length (iQuo .i64 a 32))) == false) = false ∧ (((!(inR xs.length (iQuo .i64 a 32))) == false) = false ∧ ((!(inR xs.length (iQuo .i64 a 32))) = true ∧ R__ (.tuple #[.int .i64 0, .int .i64 0, .bool false]) [])))))))))))))))))) (by kernel_rfl)
    (by exact fun b1 g1 => fun b2 g2 => ⟨rfl, ⟨(heap_page bw ow mw xw bs os ms xs e (iQuo .i64 a 32) ), ⟨rfl, ⟨fun h4 => have p5 := of_decide_eq_true h4; fun b6 g6 => ⟨(gd_tf h4), ⟨(gd_tf h4), ⟨h4, q__ _ _ (retQ_pure (by first | exact fn_no (fn_f1 (by omega)) | exact fn_no (fn_f2 (by omega) ha (by first | assumption | exact not_f (by assumption) | exact not_t (by assumption))) | exact fn_no (fn_f3 (by omega) ha (by first | assumption | exact not_f (by assumption) | exact not_t (by assumption)) (by assumption)) | exact fn_y (by omega) ha (by first | assumption | exact not_f (by assumption) | exact not_t (by assumption)) (by assumption)))⟩⟩⟩, fun h8 => have p9 := of_decide_eq_false h8; ⟨fun h11 => fun b12 g12 => ⟨(gd_ff h8), ⟨(gd_ff h8), ⟨h8, ⟨(gd_ff (not_of_t h11)), ⟨(gd_ff (not_of_t h11)), ⟨rfl, ⟨(gd_ff (not_of_t h11)), ⟨(not_of_t h11), ⟨fun h13 => have p14 := eq_of_beq h13; q__ _ _ (retQ_pure (by first | exact fn_no (fn_f1 (by omega)) | exact fn_no (fn_f2 (by omega) ha (by first | assumption | exact not_f (by assumption) | exact not_t (by assumption))) | exact fn_no (fn_f3 (by omega) ha (by first | assumption | exact not_f (by assumption) | exact not_t (by assumption)) (by assumption)) | exact fn_y (by omega) ha (by first | assumption | exact not_f (by assumption) | exact not_t (by assumption)) (by assumption))), fun h16 => have p17 := ne_of_beq_false h16; fun b18 g18 => ⟨rfl, ⟨(arena_Place (pgC xs (iQuo .i64 a 32)) a ), q__ _ _ (retQ_pure (by first | exact fn_no (fn_f1 (by omega)) | exact fn_no (fn_f2 (by omega) ha (by first | assumption | exact not_f (by assumption) | exact not_t (by assumption))) | exact fn_no (fn_f3 (by omega) ha (by first | assumption | exact not_f (by assumption) | exact not_t (by assumption)) (by assumption)) | exact fn_y (by omega) ha (by first | assumption | exact not_f (by assumption) | exact not_t (by assumption)) (by assumption)))⟩⟩⟩⟩⟩⟩⟩⟩⟩⟩⟩, fun h19 => fun b20 g20 => ⟨(gd_ff h8), ⟨(gd_ff h8), ⟨h8, ⟨(gd_tf (not_of_f h19)), ⟨(gd_tf (not_of_f h19)), ⟨(gd_tf (not_of_f h19)), ⟨(not_of_f h19), q__ _ _ (retQ_pure (by first | exact fn_no (fn_f1 (by omega)) | exact fn_no (fn_f2 (by omega) ha (by first | assumption | exact not_f (by assumption) | exact not_t (by assumption))) | exact fn_no (fn_f3 (by omega) ha (by first | assumption | exact not_f (by assumption) | exact not_t (by assumption)) (by assumption)) | exact fn_y (by omega) ha (by first | assumption | exact not_f (by assumption) | exact not_t (by assumption)) (by assumption)))⟩⟩⟩⟩⟩⟩⟩⟩⟩⟩⟩⟩)

set_option maxRecDepth 20000 in
theorem object_Get (bw : Nat) (ow : Nat) (mw : Nat) (xw : List Int) (bs : Nat) (os : Nat) (ms : Nat) (xs : List (Int × Int × Int)) (e : Bool) (a : Int) (hw : ∀ x ∈ xw, inU64 x) (hn : xw.length = 32 * xs.length) (ha : in64 a) : CallOb P0 63 #[.agg #[.slice (sb bw ow) xw.length mw, .slice (sb bs os) xs.length ms, .bool e], .int .i64 a] [some (.ro G), some (.ro (seg bw ow (xw.flatMap (encI .u64)))), some (.ro (seg bs os (xs.flatMap encIIW)))] (pureRec (.tuple #[.agg #[.bool (gtOk xw xs a), .bool (gtB xw xs a), .int .i64 (gtC xw xs a), .int .i64 (gtN xw xs a)], .bool (gtOk xw xs a)])) :=
  CallOb.of fun hE =>
  have hz1 : bw = 0 → xw.length = 0 := seg_pre encI_ok 1 rfl hE
  have hz2 : bs = 0 → xs.length = 0 := seg_pre encIIW_ok 2 rfl hE
  sym_fn (fn := F63) (b := B63) (n := 48) mixed [(0, .agg #[.slice (sb bw ow) xw.length mw, .slice (sb bs os) xs.length ms, .bool e]), (1, .int .i64 a)] [.cell 4 32, .tmp 5] (.reg 0 ⟨2, [(0, .key 3), (1, .key 4)], []⟩ (fun b1 g1 => .reg 1 ⟨0, [(0, .key 3), (2, .call [0, 1, 2] [] [] (pureRec (.tuple #[.int .i64 (fnP xs a), .int .i64 (fnX xs a), .bool (fnOk xs a)])))], []⟩ (fun b2 g2 => .br (.reg 3 ⟨0, [(1, .key 4)], []⟩ (fun b5 g5 => .ret [4] [])) (.reg 4 ⟨1, [(1, .key 3), (3, .ix (bw - 1) ow (Int.toNat a)), (4, .rd 1 (.int .u64 (xw.getD (Int.toNat a) 0))), (5, .call [] [] [] (pureRec (.tuple #[.agg #[.bool (gU (xw.getD (Int.toNat a) 0)), .bool (gB (xw.getD (Int.toNat a) 0)), .int .i64 (gC (xw.getD (Int.toNat a) 0)), .int .i64 (gN (xw.getD (Int.toNat a) 0))], .bool (hdOk (xw.getD (Int.toNat a) 0))]))), (9, .key 5), (10, .key 5)], []⟩ (fun b7 g7 => .case 5 (hdOk (xw.getD (Int.toNat a) 0)) (.case 5 (gU (xw.getD (Int.toNat a) 0)) (.reg 5 ⟨0, [(4, .key 5), (6, .dec false), (10, .key 5), (16, .dec false)], [(3, true), (4, true), (5, true), (8, true), (9, true), (10, true), (11, true), (12, true), (13, true), (14, true), (15, true)]⟩ (fun b12 g12 => .br (.reg 6 ⟨0, [(1, .key 4)], []⟩ (fun b15 g15 => .ret [4] [])) (.reg 7 ⟨0, [(0, .key 5), (1, .key 4)], []⟩ (fun b18 g18 => .ret [4] [])))) (.reg 5 ⟨0, [(4, .key 5), (6, .dec false), (16, .dec true)], [(3, true), (4, true), (5, true), (8, false), (9, false), (10, false), (11, false), (12, false), (13, false), (14, false), (15, false)]⟩ (fun b20 g20 => .reg 6 ⟨0, [(1, .key 4)], []⟩ (fun b21 g21 => .ret [4] [])))) (.reg 5 ⟨0, [(6, .dec true)], [(3, false), (4, false), (5, false)]⟩ (fun b23 g23 => .reg 6 ⟨0, [(1, .key 4)], []⟩ (fun b24 g24 => .ret [4] [])))))))) (by kernel_rfl) (by kernel_rfl) (by kernel_rfl) (by kernel_rfl) (by kernel_rfl) (by kernel_rfl) fun R__ q__ => via (B := (AllG fun b1 g1 => (AllG fun b2 g2 => ((b1 0) = (b1 0) ∧ (CallOb P0 90 #[.agg #[.slice (sb bw ow) xw.length mw, .slice (sb bs os) xs.length ms, .bool e], .int .i64 a] [some (.ro G), some (.ro (seg bw ow (xw.flatMap (encI .u64)))), some (.ro (seg bs os (xs.flatMap encIIW)))] (pureRec (.tuple #[.int .i64 (fnP xs a), .int .i64 (fnX xs a), .bool (fnOk xs a)])) ∧ (((!(fnOk xs a)) = true → (AllG fun b5 g5 => ((b1 1) = (b1 1) ∧ ((b1 1) = (b1 1) ∧ R__ (.tuple #[.agg #[.bool false, .bool false, .int .i64 0, .int .i64 0], .bool false]) [])))) ∧ ((!(fnOk xs a)) = false → (AllG fun b7 g7 => ((b1 0) = (b1 0) ∧ ((sb bw ow) = some ⟨(bw - 1), ow, none⟩ ∧ (a = ((Int.toNat a : Nat) : Int) ∧ ((Int.toNat a) < xw.length ∧ (Reads P0 (.ro (seg bw ow (xw.flatMap (encI .u64)))) 41 ⟨(bw - 1), (ow + (Int.toNat a) * 1), none⟩ (.int .u64 (xw.getD (Int.toNat a) 0)) ∧ (CallOb P0 91 #[.int .u64 (xw.getD (Int.toNat a) 0)] [] (pureRec (.tuple #[.agg #[.bool (gU (xw.getD (Int.toNat a) 0)), .bool (gB (xw.getD (Int.toNat a) 0)), .int .i64 (gC (xw.getD (Int.toNat a) 0)), .int .i64 (gN (xw.getD (Int.toNat a) 0))], .bool (hdOk (xw.getD (Int.toNat a) 0))])) ∧ ((b7 9) = (b7 9) ∧ (((hdOk (xw.getD (Int.toNat a) 0)) = true → (((gU (xw.getD (Int.toNat a) 0)) = true → (AllG fun b12 g12 => (((!(hdOk (xw.getD (Int.toNat a) 0))) == false) = true ∧ (((!(hdOk (xw.getD (Int.toNat a) 0))) == false) = true ∧ ((b7 9) = (b7 9) ∧ (((!(hdOk (xw.getD (Int.toNat a) 0))) == false) = true ∧ ((!(hdOk (xw.getD (Int.toNat a) 0))) = false ∧ (((!(gU (xw.getD (Int.toNat a) 0))) == false) = true ∧ (((!(gU (xw.getD (Int.toNat a) 0))) == false) = true ∧ (((!(gU (xw.getD (Int.toNat a) 0))) == false) = true ∧ ((b7 9) = (b7 9) ∧ (((!(gU (xw.getD (Int.toNat a) 0))) == false) = true ∧ (((!(gU (xw.getD (Int.toNat a) 0))) == false) = true ∧ (((!(gU (xw.getD (Int.toNat a) 0))) == false) = true ∧ (((!(gU (xw.getD (Int.toNat a) 0))) == false) = true ∧ (((!(gU (xw.getD (Int.toNat a) 0))) == false) = true ∧ ((!(gU (xw.getD (Int.toNat a) 0))) = false ∧ (((decide ((iAdd .i64 a (gN (xw.getD (Int.toNat a) 0))) ≥ (iMul .i64 (iAdd .i64 (fnP xs a) 1) 32))) = true → (AllG fun b15 g15 => ((b1 1) = (b1 1) ∧ ((b1 1) = (b1 1) ∧ R__ (.tuple #[.agg #[.bool false, .bool false, .int .i64 0, .int .i64 0], .bool false]) [])))) ∧ ((decide ((iAdd .i64 a (gN (xw.getD (Int.toNat a) 0))) ≥ (iMul .i64 (iAdd .i64 (fnP xs a) 1) 32))) = false → (AllG fun b18 g18 => ((b7 9) = (b7 9) ∧ ((b1 1) = (b1 1) ∧ ((b1 1) = (b1 1) ∧ R__ (.tuple #[.agg #[.bool (gU (xw.getD (Int.toNat a) 0)), .bool (gB (xw.getD (Int.toNat a) 0)), .int .i64 (gC (xw.getD (Int.toNat a) 0)), .int .i64 (gN (xw.getD (Int.toNat a) 0))], .bool true]) []))))))))))))))))))))))) ∧ ((gU (xw.getD (Int.toNat a) 0)) = false → (AllG fun b20 g20 => (((!(hdOk (xw.getD (Int.toNat a) 0))) == false) = true ∧ (((!(hdOk (xw.getD (Int.toNat a) 0))) == false) = true ∧ ((b7 9) = (b7 9) ∧ (((!(hdOk (xw.getD (Int.toNat a) 0))) == false) = true ∧ ((!(hdOk (xw.getD (Int.toNat a) 0))) = false ∧ (((!(gU (xw.getD (Int.toNat a) 0))) == false) = false ∧ (((!(gU (xw.getD (Int.toNat a) 0))) == false) = false ∧ (((!(gU (xw.getD (Int.toNat a) 0))) == false) = false ∧ (((!(gU (xw.getD (Int.toNat a) 0))) == false) = false ∧ (((!(gU (xw.getD (Int.toNat a) 0))) == false) = false ∧ (((!(gU (xw.getD (Int.toNat a) 0))) == false) = false ∧ (((!(gU (xw.getD (Int.toNat a) 0))) == false) = false ∧ (((!(gU (xw.getD (Int.toNat a) 0))) == false) = false ∧ ((!(gU (xw.getD (Int.toNat a) 0))) = true ∧ (AllG fun b21 g21 => ((b1 1) = (b1 1) ∧ ((b1 1) = (b1 1) ∧ R__ (.tuple #[.agg #[.bool false, .bool false, .int .i64 0, .int .i64 0], .bool false]) []))))))))))))))))))))) ∧ ((hdOk (xw.getD (Int.toNat a) 0)) = false → (AllG fun b23 g23 => (((!(hdOk (xw.getD (Int.toNat a) 0))) == false) = false ∧ (((!(hdOk (xw.getD (Int.toNat a) 0))) == false) = false ∧ (((!(hdOk (xw.getD (Int.toNat a) 0))) == false) = false ∧ ((!(hdOk (xw.getD (Int.toNat a) 0))) = true ∧ (AllG fun b24 g24 => ((b1 1) = (b1 1) ∧ ((b1 1) = (b1 1) ∧ R__ (.tuple #[.agg #[.bool false, .bool false, .int .i64 0, .int .i64 0], .bool false]) []))))))))))))))))))))))))) (by kernel_rfl)
    (by exact fun b1 g1 => fun b2 g2 => ⟨rfl, ⟨(heap_Find bw ow mw xw bs os ms xs e a ha), ⟨fun h4 => fun b5 g5 => ⟨rfl, ⟨rfl, q__ _ _ (retQ_pure (by first | exact gt_no (gt_f1 (by first | assumption | exact not_f (by assumption) | exact not_t (by assumption))) | exact gt_no (gt_f2' (by first | assumption | exact not_f (by assumption) | exact not_t (by assumption))) | exact gt_no (gt_f2 (by first | assumption | exact not_f (by assumption) | exact not_t (by assumption))) | exact gt_no (gt_f3 (by first | assumption | exact not_f (by assumption) | exact not_t (by assumption)) (by first | assumption | exact not_f (by assumption) | exact not_t (by assumption)) (by assumption)) | exact gt_yes (gt_t (by first | assumption | exact not_f (by assumption) | exact not_t (by assumption)) (by first | assumption | exact not_f (by assumption) | exact not_t (by assumption)) (by assumption)) (by first | assumption | exact not_f (by assumption) | exact not_t (by assumption))))⟩⟩, fun h6 => fun b7 g7 => ⟨rfl, ⟨(sb_some (by have h__ := fn_lt (sp := xs) (a := a) (by first | assumption | exact not_f (by assumption) | exact not_t (by assumption)) hn; omega)), ⟨(fn_lt (sp := xs) (by first | assumption | exact not_f (by assumption) | exact not_t (by assumption)) hn).2, ⟨(fn_lt (sp := xs) (by first | assumption | exact not_f (by assumption) | exact not_t (by assumption)) hn).1, ⟨(reads_sb (by have h__ := fn_lt (sp := xs) (a := a) (by first | assumption | exact not_f (by assumption) | exact not_t (by assumption)) hn; omega) (encI_ok.load1 ta41 tq41 (getD_some (fn_lt (sp := xs) (by first | assumption | exact not_f (by assumption) | exact not_t (by assumption)) hn).1) rfl) rfl), ⟨(header_Get (xw.getD (Int.toNat a) 0) (by first | assumption | exact getD_u64 (by assumption) _ | exact getD_u32 (by assumption) _ | omega | (simp only [in64, inU64, inU32, inU8] at *; omega))), ⟨rfl, ⟨fun h9 => ⟨fun h11 => fun b12 g12 => ⟨(gd_ff (not_of_t h9)), ⟨(gd_ff (not_of_t h9)), ⟨rfl, ⟨(gd_ff (not_of_t h9)), ⟨(not_of_t h9), ⟨(gd_ff (not_of_t h11)), ⟨(gd_ff (not_of_t h11)), ⟨(gd_ff (not_of_t h11)), ⟨rfl, ⟨(gd_ff (not_of_t h11)), ⟨(gd_ff (not_of_t h11)), ⟨(gd_ff (not_of_t h11)), ⟨(gd_ff (not_of_t h11)), ⟨(gd_ff (not_of_t h11)), ⟨(not_of_t h11), ⟨fun h13 => have p14 := of_decide_eq_true h13; fun b15 g15 => ⟨rfl, ⟨rfl, q__ _ _ (retQ_pure (by first | exact gt_no (gt_f1 (by first | assumption | exact not_f (by assumption) | exact not_t (by assumption))) | exact gt_no (gt_f2' (by first | assumption | exact not_f (by assumption) | exact not_t (by assumption))) | exact gt_no (gt_f2 (by first | assumption | exact not_f (by assumption) | exact not_t (by assumption))) | exact gt_no (gt_f3 (by first | assumption | exact not_f (by assumption) | exact not_t (by assumption)) (by first | assumption | exact not_f (by assumption) | exact not_t (by assumption)) (by assumption)) | exact gt_yes (gt_t (by first | assumption | exact not_f (by assumption) | exact not_t (by assumption)) (by first | assumption | exact not_f (by assumption) | exact not_t (by assumption)) (by assumption)) (by first | assumption | exact not_f (by assumption) | exact not_t (by assumption))))⟩⟩, fun h16 => have p17 := of_decide_eq_false h16; fun b18 g18 => ⟨rfl, ⟨rfl, ⟨rfl, q__ _ _ (retQ_pure (by first | exact gt_no (gt_f1 (by first | assumption | exact not_f (by assumption) | exact not_t (by assumption))) | exact gt_no (gt_f2' (by first | assumption | exact not_f (by assumption) | exact not_t (by assumption))) | exact gt_no (gt_f2 (by first | assumption | exact not_f (by assumption) | exact not_t (by assumption))) | exact gt_no (gt_f3 (by first | assumption | exact not_f (by assumption) | exact not_t (by assumption)) (by first | assumption | exact not_f (by assumption) | exact not_t (by assumption)) (by assumption)) | exact gt_yes (gt_t (by first | assumption | exact not_f (by assumption) | exact not_t (by assumption)) (by first | assumption | exact not_f (by assumption) | exact not_t (by assumption)) (by assumption)) (by first | assumption | exact not_f (by assumption) | exact not_t (by assumption))))⟩⟩⟩⟩⟩⟩⟩⟩⟩⟩⟩⟩⟩⟩⟩⟩⟩⟩⟩, fun h19 => fun b20 g20 => ⟨(gd_ff (not_of_t h9)), ⟨(gd_ff (not_of_t h9)), ⟨rfl, ⟨(gd_ff (not_of_t h9)), ⟨(not_of_t h9), ⟨(gd_tf (not_of_f h19)), ⟨(gd_tf (not_of_f h19)), ⟨(gd_tf (not_of_f h19)), ⟨(gd_tf (not_of_f h19)), ⟨(gd_tf (not_of_f h19)), ⟨(gd_tf (not_of_f h19)), ⟨(gd_tf (not_of_f h19)), ⟨(gd_tf (not_of_f h19)), ⟨(not_of_f h19), fun b21 g21 => ⟨rfl, ⟨rfl, q__ _ _ (retQ_pure (by first | exact gt_no (gt_f1 (by first | assumption | exact not_f (by assumption) | exact not_t (by assumption))) | exact gt_no (gt_f2' (by first | assumption | exact not_f (by assumption) | exact not_t (by assumption))) | exact gt_no (gt_f2 (by first | assumption | exact not_f (by assumption) | exact not_t (by assumption))) | exact gt_no (gt_f3 (by first | assumption | exact not_f (by assumption) | exact not_t (by assumption)) (by first | assumption | exact not_f (by assumption) | exact not_t (by assumption)) (by assumption)) | exact gt_yes (gt_t (by first | assumption | exact not_f (by assumption) | exact not_t (by assumption)) (by first | assumption | exact not_f (by assumption) | exact not_t (by assumption)) (by assumption)) (by first | assumption | exact not_f (by assumption) | exact not_t (by assumption))))⟩⟩⟩⟩⟩⟩⟩⟩⟩⟩⟩⟩⟩⟩⟩⟩⟩, fun h22 => fun b23 g23 => ⟨(gd_tf (not_of_f h22)), ⟨(gd_tf (not_of_f h22)), ⟨(gd_tf (not_of_f h22)), ⟨(not_of_f h22), fun b24 g24 => ⟨rfl, ⟨rfl, q__ _ _ (retQ_pure (by first | exact gt_no (gt_f1 (by first | assumption | exact not_f (by assumption) | exact not_t (by assumption))) | exact gt_no (gt_f2' (by first | assumption | exact not_f (by assumption) | exact not_t (by assumption))) | exact gt_no (gt_f2 (by first | assumption | exact not_f (by assumption) | exact not_t (by assumption))) | exact gt_no (gt_f3 (by first | assumption | exact not_f (by assumption) | exact not_t (by assumption)) (by first | assumption | exact not_f (by assumption) | exact not_t (by assumption)) (by assumption)) | exact gt_yes (gt_t (by first | assumption | exact not_f (by assumption) | exact not_t (by assumption)) (by first | assumption | exact not_f (by assumption) | exact not_t (by assumption)) (by assumption)) (by first | assumption | exact not_f (by assumption) | exact not_t (by assumption))))⟩⟩⟩⟩⟩⟩⟩⟩⟩⟩⟩⟩⟩⟩⟩⟩⟩)

set_option maxRecDepth 20000 in
theorem object_Black (bw : Nat) (ow : Nat) (mw : Nat) (xw : List Int) (bs : Nat) (os : Nat) (ms : Nat) (xs : List (Int × Int × Int)) (e : Bool) (a : Int) (hw : ∀ x ∈ xw, inU64 x) (hn : xw.length = 32 * xs.length) (ha : in64 a) : CallOb P0 64 #[.agg #[.slice (sb bw ow) xw.length mw, .slice (sb bs os) xs.length ms, .bool e], .int .i64 a] [some (.ro G), some (.ro (seg bw ow (xw.flatMap (encI .u64)))), some (.ro (seg bs os (xs.flatMap encIIW)))] (pureRec (.bool (blB xw xs e a))) :=
  CallOb.of fun hE =>
  have hz1 : bw = 0 → xw.length = 0 := seg_pre encI_ok 1 rfl hE
  have hz2 : bs = 0 → xs.length = 0 := seg_pre encIIW_ok 2 rfl hE
  sym_fn (fn := F64) (b := B64) (n := 21) mixed [(0, .agg #[.slice (sb bw ow) xw.length mw, .slice (sb bs os) xs.length ms, .bool e]), (1, .int .i64 a)] [.tmp 4] (.reg 0 ⟨1, [(0, .key 3)], []⟩ (fun b1 g1 => .reg 1 ⟨1, [(0, .key 3), (2, .call [0, 1, 2] [] [] (pureRec (.tuple #[.agg #[.bool (gtOk xw xs a), .bool (gtB xw xs a), .int .i64 (gtC xw xs a), .int .i64 (gtN xw xs a)], .bool (gtOk xw xs a)]))), (6, .key 4), (7, .key 4)], []⟩ (fun b2 g2 => .case 2 (gtOk xw xs a) (.reg 2 ⟨0, [(3, .key 4), (5, .key 3), (7, .dec true)], [(2, true), (3, true), (4, true), (5, true), (6, true)]⟩ (fun b5 g5 => .ret [] [])) (.reg 2 ⟨0, [(7, .dec false)], [(2, false), (3, false), (4, false), (5, false), (6, false)]⟩ (fun b7 g7 => .ret [] []))))) (by kernel_rfl) (by kernel_rfl) (by kernel_rfl) (by kernel_rfl) (by kernel_rfl) (by kernel_rfl) fun R__ q__ => via (B := (AllG fun b1 g1 => (AllG fun b2 g2 => ((b1 0) = (b1 0) ∧ (CallOb P0 63 #[.agg #[.slice (sb bw ow) xw.length mw, .slice (sb bs os) xs.length ms, .bool e], .int .i64 a] [some (.ro G), some (.ro (seg bw ow (xw.flatMap (encI .u64)))), some (.ro (seg bs os (xs.flatMap encIIW)))] (pureRec (.tuple #[.agg #[.bool (gtOk xw xs a), .bool (gtB xw xs a), .int .i64 (gtC xw xs a), .int .i64 (gtN xw xs a)], .bool (gtOk xw xs a)])) ∧ ((b2 6) = (b2 6) ∧ (((gtOk xw xs a) = true → (AllG fun b5 g5 => (((gtOk xw xs a) == true) = true ∧ (((gtOk xw xs a) == true) = true ∧ ((b2 6) = (b2 6) ∧ (((gtOk xw xs a) == true) = true ∧ (((gtOk xw xs a) == true) = true ∧ ((b1 0) = (b1 0) ∧ (((gtOk xw xs a) == true) = true ∧ ((gtOk xw xs a) = true ∧ R__ (.bool ((gtB xw xs a) == e)) [])))))))))) ∧ ((gtOk xw xs a) = false → (AllG fun b7 g7 => (((gtOk xw xs a) == true) = false ∧ (((gtOk xw xs a) == true) = false ∧ (((gtOk xw xs a) == true) = false ∧ (((gtOk xw xs a) == true) = false ∧ (((gtOk xw xs a) == true) = false ∧ ((gtOk xw xs a) = false ∧ R__ (.bool false) []))))))))))))))) (by kernel_rfl)
    (by exact fun b1 g1 => fun b2 g2 => ⟨rfl, ⟨(object_Get bw ow mw xw bs os ms xs e a hw hn ha), ⟨rfl, ⟨fun h4 => fun b5 g5 => ⟨(gd_tt h4), ⟨(gd_tt h4), ⟨rfl, ⟨(gd_tt h4), ⟨(gd_tt h4), ⟨rfl, ⟨(gd_tt h4), ⟨h4, q__ _ _ (retQ_pure (by refine congrArg Value.bool ?_; unfold blB; simp_all))⟩⟩⟩⟩⟩⟩⟩⟩, fun h6 => fun b7 g7 => ⟨(gd_ft h6), ⟨(gd_ft h6), ⟨(gd_ft h6), ⟨(gd_ft h6), ⟨(gd_ft h6), ⟨h6, q__ _ _ (retQ_pure (by refine congrArg Value.bool ?_; unfold blB; simp_all))⟩⟩⟩⟩⟩⟩⟩⟩⟩⟩)

end Go.Proofs.YthadoehgmdageaaDoor.Fl
