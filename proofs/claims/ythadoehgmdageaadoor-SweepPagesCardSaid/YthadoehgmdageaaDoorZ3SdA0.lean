/- Soundness: what its rules say. Plain lemmas; conditions: in each. -/
import Derived.Test.YthadoehgmdageaaDoorZ3HpC
set_option linter.unusedVariables false
set_option linter.unusedSimpArgs false
namespace Go.Proofs.YthadoehgmdageaaDoor.Fl
open Go.RowKit
def BlAt (sp : List Sp) (q j : Nat) : Prop := q < sp.length ∧ ¬ stP sp ((q : Nat) : Int) = 0 ∧ ((j : Nat) : Int) < cBlocks (clP sp ((q : Nat) : Int))
def adr (sp : List Sp) (q j : Nat) : Int := 32 * ((q : Nat) : Int) + ((j : Nat) : Int) * cWords (clP sp ((q : Nat) : Int))
def AtB (sp : List Sp) (p a : Int) : Prop := ∃ q j : Nat, p = ((q : Nat) : Int) ∧ BlAt sp q j ∧ a = adr sp q j
theorem blk_range {sp : List Sp} {q j : Nat} (hl : sp.length ≤ 16) (h : BlAt sp q j) : 0 ≤ adr sp q j ∧ adr sp q j + cWords (clP sp ((q : Nat) : Int)) ≤ 32 * ((q : Nat) : Int) + 32 ∧ adr sp q j / 32 = ((q : Nat) : Int) ∧ 2 ≤ cWords (clP sp ((q : Nat) : Int)) ∧ cWords (clP sp ((q : Nat) : Int)) ≤ 16 ∧ plOk (clP sp ((q : Nat) : Int)) (adr sp q j) = true := by
  obtain ⟨h1, h2, h3⟩ := h
  unfold adr
  generalize clP sp ((q : Nat) : Int) = c at *
  have hc := isC_blocks (c := c) (i := ((j : Nat) : Int)) (by omega) h3
  obtain ⟨a1, a2, a3, a4, a5⟩ := ad_lt hc (q := q) (j := j) (by omega) h3
  have hp : plOk c (32 * ((q : Nat) : Int) + ((j : Nat) : Int) * cWords c) = true := by unfold plOk; rw [hc, decide_eq_true (And.intro a1 a2), decide_eq_true a3]; rfl
  refine ⟨a1, ?_, a4, ?_, cW_le c, hp⟩
  · rcases isC_cases hc with rfl | rfl | rfl | rfl <;> simp only [cWords, cBlocks] at * <;> simp at * <;> omega
  · rcases isC_cases hc with rfl | rfl | rfl | rfl <;> decide
theorem blk_len {sp : List Sp} {q j : Nat} (hl : sp.length ≤ 16) (h : BlAt sp q j) {ws : List Int} (hn : ws.length = 32 * sp.length) : adr sp q j + cWords (clP sp ((q : Nat) : Int)) ≤ (ws.length : Int) := by
  have := blk_range hl h; have := h.1; omega
theorem blk_fn {sp : List Sp} {q j : Nat} (hl : sp.length ≤ 16) (h : BlAt sp q j) : fnOk sp (adr sp q j) = true := by
  obtain ⟨a1, a2, a3, a4, a5, a6⟩ := blk_range hl h
  unfold fnOk
  rw [a3, a6, decide_eq_true a1, decide_eq_true (show ((q : Nat) : Int) < (sp.length : Int) by have := h.1; omega), beq_eq_false_iff_ne.2 h.2.1]; rfl
theorem fn_blk {sp : List Sp} {a : Int} (h : fnOk sp a = true) : ∃ q j : Nat, BlAt sp q j ∧ a = adr sp q j ∧ a / 32 = ((q : Nat) : Int) := by
  obtain ⟨f1, f2, f3, f4, f5, f6⟩ := fn_parts h
  obtain ⟨hc, h0, h1, h2, h3, h4, h5, h6⟩ := pl_block f4
  have hq : (((a / 32).toNat : Nat) : Int) = a / 32 := Int.toNat_of_nonneg h2
  refine ⟨(a / 32).toNat, (a % 32 / cWords (clP sp (a / 32))).toNat, ⟨by omega, by rw [hq]; exact f3, by rw [hq, Int.toNat_of_nonneg h4]; exact h5⟩, ?_, hq.symm⟩
  unfold adr; rw [hq, Int.toNat_of_nonneg h4]; exact h6.symm
def blkB (sp : List Sp) (H : Int → Int → Bool → Bool) : Bool := (List.range sp.length).all fun q => (stP sp ((q : Nat) : Int) == 0) || (List.range (cBlocks (clP sp ((q : Nat) : Int))).toNat).all fun j => H ((q : Nat) : Int) (adr sp q j) (hasB (frP sp ((q : Nat) : Int)) ((j : Nat) : Int))
theorem blk_iff {sp : List Sp} {H : Int → Int → Bool → Bool} : blkB sp H = true ↔ ∀ q j : Nat, BlAt sp q j → H ((q : Nat) : Int) (adr sp q j) (hasB (frP sp ((q : Nat) : Int)) ((j : Nat) : Int)) = true := by
  unfold blkB
  simp only [List.all_eq_true, List.mem_range, Bool.or_eq_true, beq_iff_eq]
  constructor
  · intro h q j ⟨h1, h2, h3⟩
    rcases h q h1 with e | e
    · exact absurd e h2
    · exact e j (by omega)
  · intro h q h1
    by_cases e : stP sp ((q : Nat) : Int) = 0
    · exact .inl e
    · exact .inr fun j hj => h q j ⟨h1, e, by omega⟩
theorem blk_f {sp : List Sp} {H : Int → Int → Bool → Bool} {q j : Nat} (hb : BlAt sp q j) (h : H ((q : Nat) : Int) (adr sp q j) (hasB (frP sp ((q : Nat) : Int)) ((j : Nat) : Int)) = false) : blkB sp H = false := by
  cases e : blkB sp H with
  | false => rfl
  | true => rw [blk_iff.1 e q j hb] at h; cases h
def BlTo (sp : List Sp) (H : Int → Int → Bool → Bool) (p i : Nat) : Prop := ∀ q j : Nat, BlAt sp q j → (q < p ∨ (q = p ∧ j < i)) → H ((q : Nat) : Int) (adr sp q j) (hasB (frP sp ((q : Nat) : Int)) ((j : Nat) : Int)) = true
theorem BlTo.zero {sp : List Sp} {H : Int → Int → Bool → Bool} : BlTo sp H 0 0 := fun q j _ h => by omega
theorem BlTo.succ {sp : List Sp} {H : Int → Int → Bool → Bool} {p i : Nat} (h : BlTo sp H p i) (hx : BlAt sp p i → H ((p : Nat) : Int) (adr sp p i) (hasB (frP sp ((p : Nat) : Int)) ((i : Nat) : Int)) = true) : BlTo sp H p (i + 1) := fun q j hb hq => by
  by_cases e : q = p ∧ j = i
  · obtain ⟨rfl, rfl⟩ := e; exact hx hb
  · exact h q j hb (by omega)
theorem BlTo.next {sp : List Sp} {H : Int → Int → Bool → Bool} {p i : Nat} (h : BlTo sp H p i) (hx : stP sp ((p : Nat) : Int) = 0 ∨ ¬ ((i : Nat) : Int) < cBlocks (clP sp ((p : Nat) : Int))) : BlTo sp H (p + 1) 0 := fun q j hb hq => by
  by_cases e : q = p
  · subst e
    rcases hx with hx | hx
    · exact absurd hx hb.2.1
    · exact h q j hb (.inr ⟨rfl, by have := hb.2.2; omega⟩)
  · exact h q j hb (by omega)
theorem BlTo.all {sp : List Sp} {H : Int → Int → Bool → Bool} {p : Nat} (h : BlTo sp H p 0) (hp : ¬ ((p : Nat) : Int) < (sp.length : Int)) : true = blkB sp H := (blk_iff.2 fun q j hb => h q j hb (.inl (by have := hb.1; omega))).symm
theorem at_eq {sp : List Sp} {p i : Nat} (hl : sp.length ≤ 16) (hp : p < sp.length) (hi : ((i : Nat) : Int) < cBlocks (clP sp ((p : Nat) : Int))) : iAdd .i64 (iMul .i64 ((p : Nat) : Int) 32) (iMul .i64 ((i : Nat) : Int) (cWords (clP sp ((p : Nat) : Int)))) = adr sp p i ∧ iAdd .i64 (iMul .i64 32 ((p : Nat) : Int)) (iMul .i64 ((i : Nat) : Int) (cWords (clP sp ((p : Nat) : Int)))) = adr sp p i :=
  ⟨(at_add (by omega) (by omega)).2, (at_add (by omega) (by omega)).1⟩
theorem BlTo.bad {sp : List Sp} {H : Int → Int → Bool → Bool} {p i : Nat} (hx : H ((p : Nat) : Int) (iAdd .i64 (iMul .i64 ((p : Nat) : Int) 32) (iMul .i64 ((i : Nat) : Int) (cWords (clP sp ((p : Nat) : Int))))) (hasB (frP sp ((p : Nat) : Int)) ((i : Nat) : Int)) = false) (hl : sp.length ≤ 16) (hp : p < sp.length) (hs : ¬ stP sp ((p : Nat) : Int) = 0) (hi : ((i : Nat) : Int) < cBlocks (clP sp ((p : Nat) : Int))) : false = blkB sp H :=
  (blk_f (q := p) (j := i) ⟨hp, hs, hi⟩ (by rw [(at_eq hl hp hi).1] at hx; exact hx)).symm
theorem AtB.of {sp : List Sp} {p i : Nat} (hl : sp.length ≤ 16) (hi : ((i : Nat) : Int) < cBlocks (sp.getD p (0, 0, 0)).2.1) (hs : ¬ (sp.getD p (0, 0, 0)).1 = 0) (hp : ((p : Nat) : Int) < (sp.length : Int)) : AtB sp ((p : Nat) : Int) (iAdd .i64 (iMul .i64 ((p : Nat) : Int) 32) (iMul .i64 ((i : Nat) : Int) (cWords (sp.getD p (0, 0, 0)).2.1))) :=
  ⟨p, i, rfl, ⟨by omega, hs, hi⟩, (at_eq hl (by omega) hi).1⟩
theorem AtB.in64 {sp : List Sp} {p a : Int} (hl : sp.length ≤ 16) (h : AtB sp p a) : in64 a := by
  obtain ⟨q, j, rfl, hb, rfl⟩ := h
  have := blk_range hl hb; have := hb.1; unfold Fl.in64; omega
def filF (ws : List Int) (sp : List Sp) (p a : Int) (f : Bool) : Bool := if f = true then zeroB ws a.toNat (cWords (clP sp p)).toNat else gtOk ws sp a && (gtC ws sp a == clP sp p)
def behF (ws : List Int) (sp : List Sp) (p a : Int) (_ : Bool) : Bool := zeroB ws (a + 1 + gtN ws sp a).toNat (cWords (clP sp p) - 1 - gtN ws sp a).toNat
def refF (ws : List Int) (sp : List Sp) (e : Bool) (p a : Int) (_ : Bool) : Bool := !((stP sp p == 1) || blB ws sp e a) || !((refTo ws a (gtN ws sp a).toNat).any fun z => !(gtOk ws sp z))
def pgsB (ws : List Int) (sp : List Sp) : Bool := (List.range sp.length).all fun q => !(stP sp ((q : Nat) : Int) == 0) || zeroB ws (32 * q) 32
def filA (ws : List Int) (sp : List Sp) : Bool := pgsB ws sp && blkB sp (filF ws sp)
def behA (ws : List Int) (sp : List Sp) : Bool := blkB sp (behF ws sp)
def refA (ws : List Int) (sp : List Sp) (e : Bool) : Bool := blkB sp (refF ws sp e)
def chkI (ws : List Int) (sp : List Sp) (e : Bool) : Int := if formB ws.length sp = false then 1 else if filA ws sp = false then 2 else if behA ws sp = false then 3 else if refA ws sp e = false then 4 else 0
theorem chk_1 {ws : List Int} {sp : List Sp} {e : Bool} (h : formB ws.length sp = false) : 1 = chkI ws sp e := by unfold chkI; rw [if_pos h]
theorem chk_2 {ws : List Int} {sp : List Sp} {e : Bool} (h : formB ws.length sp = true) (h2 : filA ws sp = false) : 2 = chkI ws sp e := by unfold chkI; rw [if_neg (by rw [h]; decide), if_pos h2]
theorem chk_3 {ws : List Int} {sp : List Sp} {e : Bool} (h : formB ws.length sp = true) (h2 : filA ws sp = true) (h3 : behA ws sp = false) : 3 = chkI ws sp e := by unfold chkI; rw [if_neg (by rw [h]; decide), if_neg (by rw [h2]; decide), if_pos h3]
theorem chk_4 {ws : List Int} {sp : List Sp} {e : Bool} (h : formB ws.length sp = true) (h2 : filA ws sp = true) (h3 : behA ws sp = true) (h4 : refA ws sp e = false) : 4 = chkI ws sp e := by unfold chkI; rw [if_neg (by rw [h]; decide), if_neg (by rw [h2]; decide), if_neg (by rw [h3]; decide), if_pos h4]
theorem chk_0 {ws : List Int} {sp : List Sp} {e : Bool} (h : formB ws.length sp = true) (h2 : filA ws sp = true) (h3 : behA ws sp = true) (h4 : refA ws sp e = true) : 0 = chkI ws sp e := by unfold chkI; rw [if_neg (by rw [h]; decide), if_neg (by rw [h2]; decide), if_neg (by rw [h3]; decide), if_neg (by rw [h4]; decide)]
theorem AtB.beh {ws : List Int} {sp : List Sp} {p a : Int} (hl : sp.length ≤ 16) (hn : ws.length = 32 * sp.length) (h : AtB sp p a) : 0 ≤ iAdd .i64 (iAdd .i64 a 1) (gtN ws sp a) ∧ iAdd .i64 (iAdd .i64 a 1) (gtN ws sp a) ≤ (if iAdd .i64 (iAdd .i64 a 1) (gtN ws sp a) > iAdd .i64 a (cWords (clP sp p)) then iAdd .i64 (iAdd .i64 a 1) (gtN ws sp a) else iAdd .i64 a (cWords (clP sp p))) ∧ (if iAdd .i64 (iAdd .i64 a 1) (gtN ws sp a) > iAdd .i64 a (cWords (clP sp p)) then iAdd .i64 (iAdd .i64 a 1) (gtN ws sp a) else iAdd .i64 a (cWords (clP sp p))) ≤ ((ws.length : Nat) : Int) ∧ (∀ f, zeroB ws (iAdd .i64 (iAdd .i64 a 1) (gtN ws sp a)).toNat ((if iAdd .i64 (iAdd .i64 a 1) (gtN ws sp a) > iAdd .i64 a (cWords (clP sp p)) then iAdd .i64 (iAdd .i64 a 1) (gtN ws sp a) else iAdd .i64 a (cWords (clP sp p))).toNat - (iAdd .i64 (iAdd .i64 a 1) (gtN ws sp a)).toNat) = behF ws sp p a f) := by
  obtain ⟨q, j, rfl, hb, rfl⟩ := h
  have h0 := blk_range hl hb; have h1 := hb.1; have h2 := blk_len hl hb hn
  have hr := gt_range (ws := ws) (sp := sp) (a := adr sp q j)
  have hx : adr sp q j + 1 + gtN ws sp (adr sp q j) ≤ 32 * ((q : Nat) : Int) + 32 := by
    cases e : gtOk ws sp (adr sp q j) with
    | true => have := (gt_parts e).2.2.2.2; omega
    | false => unfold gtN; rw [if_neg (by rw [e]; decide)]; omega
  rw [add_i64 (x := adr sp q j) (y := 1) (by unfold Fl.in64; omega), add_i64 (x := adr sp q j) (by unfold Fl.in64; omega), add_i64 (by unfold Fl.in64; omega)]
  unfold behF
  refine ⟨by omega, by split <;> omega, by split <;> omega, fun _ => congrArg (zeroB ws _) (by split <;> omega)⟩
theorem rf_0 {ws : List Int} {sp : List Sp} {e : Bool} {p a : Int} {f : Bool} (h : (stP sp p == 1) = false) (hb : blB ws sp e a = false) : true = refF ws sp e p a f := by unfold refF; rw [h, hb]; rfl
theorem vN_in64 {w : Int} (h : inU64 w) : in64 (vN w) := by
  have h1 := h.1; have h2 := h.2
  unfold vN Fl.in64
  repeat' split
  all_goals omega
theorem ref_in64 {ws : List Int} (h : ∀ x ∈ ws, inU64 x) {a : Int} : ∀ n : Nat, ∀ z ∈ refTo ws a n, in64 z
  | 0 => fun z hz => by cases hz
  | n + 1 => fun z hz => by
    unfold refTo at hz
    split at hz
    · rcases List.mem_append.1 hz with hz | hz
      · exact ref_in64 h n z hz
      · rw [List.mem_singleton.1 hz]; exact vN_in64 (getD_u64 h _)
    · exact ref_in64 h n z hz
theorem getD_in64 {l : List Int} (h : ∀ z ∈ l, in64 z) (i : Nat) : in64 (l.getD i 0) := getD_all h ⟨by decide, by decide⟩ i
def PgTo (ws : List Int) (sp : List Sp) (p : Nat) : Prop := ∀ q : Nat, q < p → stP sp ((q : Nat) : Int) = 0 → zeroB ws (32 * q) 32 = true
theorem PgTo.zero {ws : List Int} {sp : List Sp} : PgTo ws sp 0 := fun q h => by omega
theorem PgTo.succ {ws : List Int} {sp : List Sp} {p : Nat} (h : PgTo ws sp p) (hx : stP sp ((p : Nat) : Int) = 0 → zeroB ws (32 * p) 32 = true) : PgTo ws sp (p + 1) := fun q hq => by
  by_cases e : q = p
  · subst e; exact hx
  · exact h q (by omega)
theorem pgs_iff {ws : List Int} {sp : List Sp} : pgsB ws sp = true ↔ PgTo ws sp sp.length := by
  unfold pgsB PgTo
  simp only [List.all_eq_true, List.mem_range, Bool.or_eq_true, Bool.not_eq_true', beq_eq_false_iff_ne]
  constructor
  · intro h q hq hs
    rcases h q hq with e | e
    · exact absurd hs e
    · exact e
  · intro h q hq
    by_cases e : stP sp ((q : Nat) : Int) = 0
    · exact .inr (h q hq e)
    · exact .inl e
theorem PgTo.bad {ws : List Int} {sp : List Sp} {p : Nat} (hp : p < sp.length) (hs : stP sp ((p : Nat) : Int) = 0) (hz : zeroB ws (32 * p) 32 = false) : false = filA ws sp := by
  unfold filA
  cases e : pgsB ws sp with
  | false => rfl
  | true => rw [pgs_iff.1 e p hp hs] at hz; cases hz
theorem fil_all {ws : List Int} {sp : List Sp} {p : Nat} (h : PgTo ws sp p) (hp : ¬ ((p : Nat) : Int) < (sp.length : Int)) : pgsB ws sp = true := pgs_iff.2 fun q hq => h q (by omega)
theorem fil_end {ws : List Int} {sp : List Sp} {p : Nat} (h : PgTo ws sp p) (hp : ¬ ((p : Nat) : Int) < (sp.length : Int)) : blkB sp (filF ws sp) = filA ws sp := by unfold filA; rw [fil_all h hp]; rfl
end Go.Proofs.YthadoehgmdageaaDoor.Fl
