/- What the laws of sweep say. Plain lemmas; conditions: in each. -/
import Derived.Test.YthadoehgmdageaaDoorZ4SwP2
set_option linter.unusedVariables false
set_option linter.unusedSimpArgs false
namespace Go.Proofs.YthadoehgmdageaaDoor.Fl
open Go.RowKit
attribute [local irreducible] blkB zeroB
theorem getD_el {l : List Int} {m : Nat} (h : m < l.length) : l.getD m 0 = l[m] := by simp [List.getD, h]
theorem chk_e0 {ws : List Int} {sp : List Sp} {e : Bool} (h : (chkI ws sp e != 0) = false) : (chkI ws sp e == 0) = true := beq_iff_eq.2 (bne_eq_false_iff_eq.1 h)
def stB (e : Bool) (ws : List Int) (sp : List Sp) (a : Int) : Bool := blB ws sp e a || ((spAt sp (a / 32)).1 != 2)
theorem al_st {cs : List Cc} {e : Bool} {ws : List Int} {sp : List Sp} (h : FmI ws sp) (q : Nat) : stP (alX cs e ws sp).2.1 ((q : Nat) : Int) ≠ 2 := dy_none (dy_zero (alX_fm h cs e).2.2.1) q
theorem us_b {ws : List Int} {sp : List Sp} (h : FmI ws sp) : -8192 ≤ usS sp ∧ usS sp ≤ 8192 := by
  have h1 := us_le sp sp.length; have h2 := (form_p h.form).2.2.1
  unfold usS; omega
theorem al_used {cs : List Cc} {e : Bool} {ws : List Int} {sp : List Sp} (h : FbI ws sp) : iSub .i64 (usS sp) (usS (alX cs e ws sp).2.1) = (alX cs e ws sp).2.2 := by
  have Q := alX_Q (cs := cs) (e := e) h
  have h1 := us_b h.fm; have h2 := us_b Q.fb.fm; have h3 := Q.us
  rw [sub_i64 (by unfold in64; omega)]; omega
theorem al_gt {cs : List Cc} {e : Bool} {ws : List Int} {sp : List Sp} (h : FbI ws sp) (a : Int) : gtOk (alX cs e ws sp).1 (alX cs e ws sp).2.1 a = (gtOk ws sp a && stB e ws sp a) := by
  have Q := alX_Q (cs := cs) (e := e) h
  have hs := al_st (cs := cs) (e := e) h.fm
  by_cases ha : 0 ≤ a
  · have hq : a / 32 = (((a / 32).toNat : Nat) : Int) := by omega
    generalize (a / 32).toNat = q at hq
    unfold stB; rw [hq]
    by_cases e1 : stP sp ((q : Nat) : Int) = 2
    · rw [Q.gt q e1 (hs q) a hq, show (spAt sp ((q : Nat) : Int)).1 = 2 from e1]; simp
    · have hc := Q.cl q (.inl e1)
      rw [(page_same Q.len hc.1 hc.2 hq).1, show ((spAt sp ((q : Nat) : Int)).1 != 2) = true from bne_iff_ne.2 e1]; simp
  · have : ∀ (w : List Int) (s : List Sp), gtOk w s a = false := fun w s => by unfold gtOk fnOk; rw [decide_eq_false ha]; rfl
    rw [this, this]; rfl
theorem al_wd {cs : List Cc} {e : Bool} {ws : List Int} {sp : List Sp} (h : FbI ws sp) {a : Int} (hg : gtOk (alX cs e ws sp).1 (alX cs e ws sp).2.1 a = true) : ∀ w : Nat, a ≤ ((w : Nat) : Int) → ((w : Nat) : Int) ≤ a + gtN ws sp a → (alX cs e ws sp).1.getD w 0 = ws.getD w 0 := fun w h1 h2 => by
  have Q := alX_Q (cs := cs) (e := e) h
  have hs := al_st (cs := cs) (e := e) h.fm
  have hw : gtOk ws sp a = true := by rw [al_gt h] at hg; exact (Bool.and_eq_true_iff.1 hg).1
  have hp := gt_parts hw
  have h0 := (fn_parts hp.1).1; have h3 := hp.2.2.2.2
  have hq : a / 32 = (((a / 32).toNat : Nat) : Int) := by omega
  generalize (a / 32).toNat = q at hq
  by_cases e1 : stP sp ((q : Nat) : Int) = 2
  · exact Q.gw q e1 (hs q) a hg hq w h1 h2
  · exact (Q.cl q (.inl e1)).2 w (by omega)
theorem al_hd {cs : List Cc} {e : Bool} {ws : List Int} {sp : List Sp} (h : FbI ws sp) {a : Int} (hg : gtOk (alX cs e ws sp).1 (alX cs e ws sp).2.1 a = true) : gtOk ws sp a = true ∧ gtB (alX cs e ws sp).1 (alX cs e ws sp).2.1 a = gtB ws sp a ∧ gtC (alX cs e ws sp).1 (alX cs e ws sp).2.1 a = gtC ws sp a ∧ gtN (alX cs e ws sp).1 (alX cs e ws sp).2.1 a = gtN ws sp a ∧ refTo (alX cs e ws sp).1 a (gtN (alX cs e ws sp).1 (alX cs e ws sp).2.1 a).toNat = refTo ws a (gtN ws sp a).toNat := by
  have hw : gtOk ws sp a = true := by rw [al_gt h] at hg; exact (Bool.and_eq_true_iff.1 hg).1
  have hwd := al_wd h hg
  have hr := gt_range (ws := ws) (sp := sp) (a := a)
  have hp := gt_parts hw; have hp' := gt_parts hg
  have h0 := (fn_parts hp.1).1
  have e1 : wAt (alX cs e ws sp).1 a = wAt ws a := hwd a.toNat (by omega) (by omega)
  have e2 : gtN (alX cs e ws sp).1 (alX cs e ws sp).2.1 a = gtN ws sp a := by rw [hp'.2.2.1, hp.2.2.1, e1]
  refine ⟨hw, by unfold gtB; rw [hg, hw, e1], by rw [hp'.2.2.2.1, hp.2.2.2.1, e1], e2, ?_⟩
  rw [e2]
  exact ref_same _ fun i hi => hwd _ (by omega) (by omega)
theorem al_hdB {cs : List Cc} {e : Bool} {ws : List Int} {sp : List Sp} (h : FbI ws sp) {a : Int} (hg : gtOk (alX cs e ws sp).1 (alX cs e ws sp).2.1 a = true) : ((gtOk ws sp a == gtOk (alX cs e ws sp).1 (alX cs e ws sp).2.1 a) && ((gtB ws sp a == gtB (alX cs e ws sp).1 (alX cs e ws sp).2.1 a) && ((gtC ws sp a == gtC (alX cs e ws sp).1 (alX cs e ws sp).2.1 a) && ((gtN ws sp a == gtN (alX cs e ws sp).1 (alX cs e ws sp).2.1 a) && true)))) = true := by
  obtain ⟨h1, h2, h3, h4, _⟩ := al_hd h hg
  rw [hg, h1, h2, h3, h4]; simp
theorem al_refs {cs : List Cc} {e : Bool} {ws : List Int} {sp : List Sp} (h : FbI ws sp) {a : Int} (hg : gtOk (alX cs e ws sp).1 (alX cs e ws sp).2.1 a = true) : decide (refTo ws a (gtN ws sp a).toNat = refTo (alX cs e ws sp).1 a (gtN (alX cs e ws sp).1 (alX cs e ws sp).2.1 a).toNat) = true := decide_eq_true (al_hd h hg).2.2.2.2.symm
/-- All that stays refers, to black objects alone: of the first i objects. -/
def ClTo (e : Bool) (ws : List Int) (sp : List Sp) (i : Nat) : Prop := ∀ j : Nat, j < i → stB e ws sp ((lsA ws sp).getD j 0) = true → ∀ z ∈ refTo ws ((lsA ws sp).getD j 0) (gtN ws sp ((lsA ws sp).getD j 0)).toNat, blB ws sp e z = true
theorem al_chk {cs : List Cc} {e : Bool} {ws : List Int} {sp : List Sp} (h : FbI ws sp) {i : Nat} (hc : ClTo e ws sp i) (hi : ¬ ((i : Nat) : Int) < ((lsA ws sp).length : Int)) : (chkI (alX cs e ws sp).1 (alX cs e ws sp).2.1 e == 0) = true := by
  have Q := alX_Q (cs := cs) (e := e) h
  refine chk_eq Q.fb.fm.form Q.fb.fil Q.fb.beh (blk_iff.2 fun q j hb => ?_)
  obtain ⟨_, f3, f4⟩ := h.frm
  cases hg : gtOk (alX cs e ws sp).1 (alX cs e ws sp).2.1 (adr (alX cs e ws sp).2.1 q j) with
  | false => unfold refF; rw [gtN_no hg]; simp [refTo]
  | true =>
    generalize adr (alX cs e ws sp).2.1 q j = a at *
    obtain ⟨h1, _, _, _, h5⟩ := al_hd h hg
    have hst : stB e ws sp a = true := by rw [al_gt h] at hg; exact (Bool.and_eq_true_iff.1 hg).2
    have hm : a ∈ lsA ws sp := ls_mem.2 ⟨by have := fn_lt (gt_parts h1).1 f4; omega, h1⟩
    obtain ⟨m, hm1, hm2⟩ := List.getElem_of_mem hm
    have hm3 : (lsA ws sp).getD m 0 = a := by rw [← hm2]; simp [List.getD, hm1]
    have hall := hc m (by omega) (by rw [hm3]; exact hst)
    rw [hm3] at hall
    have hany : ((refTo (alX cs e ws sp).1 a (gtN (alX cs e ws sp).1 (alX cs e ws sp).2.1 a).toNat).any fun z => !(gtOk (alX cs e ws sp).1 (alX cs e ws sp).2.1 z)) = false := by
      rw [h5, List.any_eq_false]
      intro z hz
      have hbz := hall z hz
      have hgz : gtOk ws sp z = true := by unfold blB at hbz; exact (Bool.and_eq_true_iff.1 hbz).1
      rw [al_gt h, hgz]; unfold stB; rw [hbz]; simp
    unfold refF; rw [hany]; simp
theorem ClTo.zero {e : Bool} {ws : List Int} {sp : List Sp} : ClTo e ws sp 0 := fun j h => by omega
theorem ClTo.succ {e : Bool} {ws : List Int} {sp : List Sp} {i : Nat} (h : ClTo e ws sp i) (hx : stB e ws sp ((lsA ws sp).getD i 0) = true → ∀ z ∈ refTo ws ((lsA ws sp).getD i 0) (gtN ws sp ((lsA ws sp).getD i 0)).toNat, blB ws sp e z = true) : ClTo e ws sp (i + 1) := fun j hj => by
  by_cases e1 : j = i
  · subst e1; exact hx
  · exact h j (by omega)
/-- The state of the two loops: what 'closed' says. -/
def CcI (e : Bool) (ws : List Int) (sp : List Sp) (i : Nat) (c : Bool) : Prop := c = true → ClTo e ws sp i
def CkI2 (e : Bool) (ws : List Int) (sp : List Sp) (i k : Nat) (c : Bool) : Prop := c = true → ClTo e ws sp i ∧ ∀ m : Nat, m < k → blB ws sp e ((refTo ws ((lsA ws sp).getD i 0) (gtN ws sp ((lsA ws sp).getD i 0)).toNat).getD m 0) = true
theorem CkI2.zero {e : Bool} {ws : List Int} {sp : List Sp} {i : Nat} {c : Bool} (h : CcI e ws sp i c) : CkI2 e ws sp i 0 c := fun hc => ⟨h hc, fun m hm => by omega⟩
theorem CkI2.step {e : Bool} {ws : List Int} {sp : List Sp} {i k : Nat} {c c' : Bool} (h : CkI2 e ws sp i k c) (hc : c' = true → c = true ∧ blB ws sp e ((refTo ws ((lsA ws sp).getD i 0) (gtN ws sp ((lsA ws sp).getD i 0)).toNat).getD k 0) = true) : CkI2 e ws sp i (k + 1) c' := fun h1 => by
  obtain ⟨a, b⟩ := hc h1
  refine ⟨(h a).1, fun m hm => ?_⟩
  by_cases e1 : m = k
  · subst e1; exact b
  · exact (h a).2 m (by omega)
theorem CkI2.fin {e : Bool} {ws : List Int} {sp : List Sp} {i k : Nat} {c : Bool} (h : CkI2 e ws sp i k c) (hx : ¬ ((k : Nat) : Int) < ((refTo ws ((lsA ws sp).getD i 0) (gtN ws sp ((lsA ws sp).getD i 0)).toNat).length : Int) ∨ stB e ws sp ((lsA ws sp).getD i 0) = false) : CcI e ws sp (i + 1) c := fun hc => by
  obtain ⟨a, b⟩ := h hc
  refine a.succ fun hs z hz => ?_
  rcases hx with hx | hx
  · obtain ⟨m, hm1, hm2⟩ := List.getElem_of_mem hz
    have := b m (by omega)
    rwa [getD_el hm1, hm2] at this
  · rw [hx] at hs; cases hs
theorem stB_b {e : Bool} {ws : List Int} {sp : List Sp} {a : Int} (h : blB ws sp e a = true) : stB e ws sp a = true := by unfold stB; rw [h]; rfl
theorem stB_s {e : Bool} {ws : List Int} {sp : List Sp} {a : Int} (h : blB ws sp e a = false) : stB e ws sp a = ((spAt sp (a / 32)).1 != 2) := by unfold stB; rw [h]; rfl
theorem FmI.bg {ws : List Int} {sp : List Sp} (h : FmI ws sp) : ∀ i, i ≤ sp.length → FmI ws (bgTo sp i)
  | 0, _ => h
  | i + 1, hi => by
    have ih := h.bg i (by omega)
    unfold bgTo
    split
    · rename_i h1
      have hlt : i < (bgTo sp i).length := by rw [bgTo_len]; omega
      have hr := ih.right hlt
      refine ih.set i rfl ih.u64 ?_ (getD_u32 ih.u32 i)
      have hr2 : spR ((bgTo sp i).getD i (0, 0, 0)).1 ((bgTo sp i).getD i (0, 0, 0)).2.1 ((bgTo sp i).getD i (0, 0, 0)).2.2 = true := hr
      rw [h1] at hr2; exact hr2
    · exact ih
def BkTo (e : Bool) (ws : List Int) (sp : List Sp) (i : Nat) : Prop := ∀ j : Nat, j < i → blB ws sp e ((lsA ws sp).getD j 0) = true
theorem BkTo.zero {e : Bool} {ws : List Int} {sp : List Sp} : BkTo e ws sp 0 := fun j h => by omega
theorem BkTo.succ {e : Bool} {ws : List Int} {sp : List Sp} {i : Nat} (h : BkTo e ws sp i) (hx : blB ws sp e ((lsA ws sp).getD i 0) = true) : BkTo e ws sp (i + 1) := fun j hj => by
  by_cases e1 : j = i
  · subst e1; exact hx
  · exact h j (by omega)
end Go.Proofs.YthadoehgmdageaaDoor.Fl
