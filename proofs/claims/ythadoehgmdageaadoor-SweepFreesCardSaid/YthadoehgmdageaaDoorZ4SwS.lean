/- Sweeping: what it does. Plain lemmas; conditions: in each. -/
import Derived.Test.YthadoehgmdageaaDoorZ4SwT
set_option linter.unusedVariables false
set_option linter.unusedSimpArgs false
namespace Go.Proofs.YthadoehgmdageaaDoor.Fl
open Go.RowKit
abbrev Cc := Int × Int × Int × Int
def inC (c : Cc) (p : Int) : Bool := [c.1, c.2.1, c.2.2.1, c.2.2.2].any fun z => p == z
def kpB (cs : List Cc) (p : Int) : Bool := decide (p ≥ 0) && cs.any fun c => inC c p
/-- What a sweep makes clean dirty: behind the first i pages. -/
def bgTo (sp : List Sp) : Nat → List Sp
  | 0 => sp
  | i + 1 => if ((bgTo sp i).getD i (0, 0, 0)).1 = 1 then (bgTo sp i).set i (2, ((bgTo sp i).getD i (0, 0, 0)).2.1, ((bgTo sp i).getD i (0, 0, 0)).2.2) else bgTo sp i
def bgS (sp : List Sp) : List Sp := bgTo sp sp.length
theorem bgTo_len (sp : List Sp) : ∀ i, (bgTo sp i).length = sp.length
  | 0 => rfl
  | i + 1 => by unfold bgTo; split; rw [List.length_set]; exact bgTo_len sp i; exact bgTo_len sp i
theorem bgS_len (sp : List Sp) : (bgS sp).length = sp.length := bgTo_len sp _
theorem bg_yes {sp : List Sp} {i : Nat} (h : ((bgTo sp i).getD i (0, 0, 0)).1 = 1) : (bgTo sp i).set i (2, ((bgTo sp i).getD i (0, 0, 0)).2.1, ((bgTo sp i).getD i (0, 0, 0)).2.2) = bgTo sp (i + 1) := by
  show _ = (if _ then _ else _); rw [if_pos h]
theorem bg_no {sp : List Sp} {i : Nat} (h : ¬ ((bgTo sp i).getD i (0, 0, 0)).1 = 1) : bgTo sp i = bgTo sp (i + 1) := by
  show _ = (if _ then _ else _); rw [if_neg h]
/-- How many pages are dirty. -/
def dyTo (sp : List Sp) : Nat → Nat
  | 0 => 0
  | i + 1 => if (sp.getD i (0, 0, 0)).1 = 2 then dyTo sp i + 1 else dyTo sp i
def dyN (sp : List Sp) : Nat := dyTo sp sp.length
theorem dy_le (sp : List Sp) : ∀ i, dyTo sp i ≤ i
  | 0 => Nat.le_refl _
  | i + 1 => by have := dy_le sp i; unfold dyTo; split <;> omega
theorem dy_yes {sp : List Sp} {i : Nat} (hi : i ≤ 1000000) (h : (sp.getD i (0, 0, 0)).1 = 2) : iAdd .i64 ((dyTo sp i : Nat) : Int) 1 = ((dyTo sp (i + 1) : Nat) : Int) := by
  have := dy_le sp i
  rw [add_i64 (by unfold in64; omega)]
  show _ = (((if _ then _ else _) : Nat) : Int); rw [if_pos h]; omega
theorem dy_no {sp : List Sp} {i : Nat} (h : ¬ (sp.getD i (0, 0, 0)).1 = 2) : ((dyTo sp i : Nat) : Int) = ((dyTo sp (i + 1) : Nat) : Int) := by
  show _ = (((if _ then _ else _) : Nat) : Int); rw [if_neg h]
theorem dy_end {sp : List Sp} {i : Nat} (h1 : i ≤ sp.length) (h : ¬ ((i : Nat) : Int) < ((sp.length : Nat) : Int)) : ((dyTo sp i : Nat) : Int) = ((dyN sp : Nat) : Int) := by
  rw [show i = sp.length by omega]; rfl
theorem pg_in {sp : List Sp} {p : Int} (h : inR sp.length p = true) : pgS sp p = stP sp p ∧ pgC sp p = clP sp p ∧ pgF sp p = frP sp p := by
  unfold pgS pgC pgF; rw [if_pos h, if_pos h, if_pos h]; exact ⟨rfl, rfl, rfl⟩
theorem pgF_u32 {sp : List Sp} (h : ∀ s ∈ sp, inU32 s.2.2) (p : Int) : inU32 (pgF sp p) := by unfold pgF; split; exact getD_u32 h _; exact ⟨by decide, by decide⟩
theorem bgv_yes {sp l : List Sp} {i : Nat} (e : l = bgTo sp i) (h : (l.getD i (0, 0, 0)).1 = 1) : l.set i (2, (l.getD i (0, 0, 0)).2.1, (l.getD i (0, 0, 0)).2.2) = bgTo sp (i + 1) := by subst e; exact bg_yes h
theorem bgv_no {sp l : List Sp} {i : Nat} (e : l = bgTo sp i) (h : ¬ (l.getD i (0, 0, 0)).1 = 1) : l = bgTo sp (i + 1) := e.trans (bg_no (by rw [← e]; exact h))
theorem bg_end {sp l : List Sp} {i : Nat} (hi : i ≤ sp.length) (e : l = bgTo sp i) (h : ¬ ((i : Nat) : Int) < ((sp.length : Nat) : Int)) : l = bgS sp := by
  rw [e, show i = sp.length by omega]; rfl
theorem re_lenW (ws : List Int) (sp : List Sp) (a : Int) : (reW ws sp a).length = ws.length := by unfold reW; split; exact zTo_len _ _ _; rfl
theorem re_lenS (sp : List Sp) (a : Int) : (reS sp a).length = sp.length := by unfold reS; split; exact stG_len _ _ _; rfl
def usTo (sp : List Sp) : Nat → Int
  | 0 => 0
  | i + 1 => if (sp.getD i (0, 0, 0)).1 = 0 then usTo sp i else usTo sp i + (cBlocks (sp.getD i (0, 0, 0)).2.1 - ((popN (sp.getD i (0, 0, 0)).2.2.toNat : Nat) : Int)) * cWords (sp.getD i (0, 0, 0)).2.1
def usS (sp : List Sp) : Int := usTo sp sp.length
theorem us_one (c f : Int) : -512 ≤ (cBlocks c - ((popN f.toNat : Nat) : Int)) * cWords c ∧ (cBlocks c - ((popN f.toNat : Nat) : Int)) * cWords c ≤ 512 := by
  have h1 := blocks_range c; have h2 := pop_range (m := f)
  unfold cWords; (repeat' split) <;> omega
theorem us_le (sp : List Sp) : ∀ i : Nat, -(512 * (i : Int)) ≤ usTo sp i ∧ usTo sp i ≤ 512 * (i : Int)
  | 0 => ⟨Int.le_refl _, Int.le_refl _⟩
  | i + 1 => by
    have := us_le sp i; have := us_one (sp.getD i (0, 0, 0)).2.1 (sp.getD i (0, 0, 0)).2.2
    unfold usTo; split <;> omega
theorem us_yes {sp : List Sp} {i : Nat} (hi : i < 1000) (h : ¬ (sp.getD i (0, 0, 0)).1 = 0) : iAdd .i64 (usTo sp i) (iMul .i64 (iSub .i64 (cBlocks (sp.getD i (0, 0, 0)).2.1) ((popN (sp.getD i (0, 0, 0)).2.2.toNat : Nat) : Int)) (cWords (sp.getD i (0, 0, 0)).2.1)) = usTo sp (i + 1) := by
  have h0 := us_le sp i
  show _ = (if _ then _ else _); rw [if_neg h]
  generalize (sp.getD i (0, 0, 0)).2.1 = c at *; generalize (sp.getD i (0, 0, 0)).2.2 = f at *
  have h1 := blocks_range c; have h2 := pop_range (m := f); have h3 := us_one c f
  rw [sub_i64 (by unfold in64; omega), mul_i64 (by unfold in64; omega), add_i64 (by unfold in64; omega)]
theorem us_no {sp : List Sp} {i : Nat} (h : (sp.getD i (0, 0, 0)).1 = 0) : usTo sp i = usTo sp (i + 1) := by
  show _ = (if _ then _ else _); rw [if_pos h]
theorem us_end {sp : List Sp} {i : Nat} (h1 : i ≤ sp.length) (h : ¬ ((i : Nat) : Int) < ((sp.length : Nat) : Int)) : usTo sp i = usS sp := by rw [show i = sp.length by omega]; rfl
theorem and_f2_of {a b : Bool} (h : (a && b) = false) (ha : a = true) : b = false := by rw [ha] at h; exact h
theorem re_in {sp : List Sp} {a : Int} (h : fnOk sp a = true) : inR sp.length (fnP sp a) = true := by have := fn_pi h; exact inR_of (by omega) (by omega)
theorem re_chE {sp : List Sp} {a : Int} (h : fnOk sp a = true) : (inR sp.length (fnP sp a) && gvOk (pgS sp (fnP sp a)) (pgC sp (fnP sp a)) (pgF sp (fnP sp a)) (fnX sp a)) = reB sp a := by
  have hp := pg_in (re_in h)
  unfold reB; rw [h, re_in h, hp.1, hp.2.1, hp.2.2]
theorem re_ch {sp : List Sp} {a : Int} (hb : reB sp a = true) : (inR sp.length (fnP sp a) && gvOk (pgS sp (fnP sp a)) (pgC sp (fnP sp a)) (pgF sp (fnP sp a)) (fnX sp a)) = true := by
  rw [re_chE (by unfold reB at hb; exact (Bool.and_eq_true_iff.1 hb).1), hb]
theorem re_chf {sp : List Sp} {a : Int} (hb : reB sp a = false) (h : fnOk sp a = true) : (inR sp.length (fnP sp a) && gvOk (pgS sp (fnP sp a)) (pgC sp (fnP sp a)) (pgF sp (fnP sp a)) (fnX sp a)) = false := by rw [re_chE h, hb]
theorem re_fn {sp : List Sp} {a : Int} (hb : reB sp a = true) : fnOk sp a = true := by unfold reB at hb; exact (Bool.and_eq_true_iff.1 hb).1
theorem re_set {sp : List Sp} {a : Int} (hb : reB sp a = true) : sp.set (Int.toNat (fnP sp a)) (pgS sp (fnP sp a), pgC sp (fnP sp a), gvF (pgS sp (fnP sp a)) (pgC sp (fnP sp a)) (pgF sp (fnP sp a)) (fnX sp a)) = reS sp a := by
  have h := re_fn hb
  have hp := pg_in (re_in h)
  unfold reS stG; rw [if_pos hb, if_pos (by have := fn_pi h; omega), hp.1, hp.2.1, hp.2.2]
theorem em_ch {sp : List Sp} {p : Int} {j : Nat} (hp : p = ((j : Nat) : Int)) (hj : j < sp.length) (h : emB (sp.getD j (0, 0, 0)).1 (sp.getD j (0, 0, 0)).2.1 (sp.getD j (0, 0, 0)).2.2 = true) : (inR sp.length p && emB (pgS sp p) (pgC sp p) (pgF sp p)) = true := by
  subst hp
  have hi : inR sp.length ((j : Nat) : Int) = true := inR_of (by omega) (by omega)
  have hp := pg_in hi
  rw [hi, hp.1, hp.2.1, hp.2.2]; exact h

end Go.Proofs.YthadoehgmdageaaDoor.Fl
