/- Page by page; pages' ends; the small heap. Plain lemmas; conditions: in each. -/
import Derived.Test.YthadoehgmdageaaDoorZ4SwP3
import Derived.Test.YthadoehgmdageaaDoorZ4SwC
set_option linter.unusedVariables false
set_option linter.unusedSimpArgs false
namespace Go.Proofs.YthadoehgmdageaaDoor.Fl
open Go.RowKit
attribute [local irreducible] blkB zeroB
def StI (cs : List Cc) (e : Bool) (ws : List Int) (sp : List Sp) (s : SW) (l : Int) : Prop := AlI cs e ws sp s ∧ -1 ≤ l ∧ l < ((sp.length : Nat) : Int) ∧ ∀ q : Nat, stP s.xs ((q : Nat) : Int) = 2 → stP sp ((q : Nat) : Int) = 2 ∧ l < ((q : Nat) : Int)
theorem StI.zero {cs : List Cc} {e : Bool} {ws : List Int} {sp : List Sp} {bw ow mw bs os ms : Nat} (h1 : ws.length ≤ mw) (h2 : sp.length ≤ ms) (h3 : bw = 0 → ws.length = 0) (h4 : bs = 0 → sp.length = 0) : StI cs e ws sp (SW.mk 0 bw ow mw ws bs os ms sp 0) (-1) := ⟨AlI.zero h1 h2 h3 h4, by omega, by omega, fun q hq => ⟨hq, by omega⟩⟩
theorem StI.page {cs : List Cc} {e : Bool} {ws : List Int} {sp : List Sp} {s : SW} {l : Int} (h : StI cs e ws sp s l) (hm : FmI ws sp) (ho : onOk s.xs = true) : onP s.xs = ((Int.toNat (dyI s.xs) : Nat) : Int) ∧ Int.toNat (dyI s.xs) < sp.length ∧ l < onP s.xs ∧ (sp.getD (Int.toNat (dyI s.xs)) (0, 0, 0)).1 = 2 := by
  have hd := on_ok ho
  obtain ⟨hp, hlt, hst, _⟩ := dy_ix hd
  have hP : onP s.xs = dyI s.xs := (on_pt hd).1.symm
  have hl := (h.1.parts hm).2.1
  rw [hp] at hst
  have := h.2.2.2 _ hst
  exact ⟨hP.trans hp, by omega, by omega, this.1⟩
theorem StI.next {cs : List Cc} {e : Bool} {ws : List Int} {sp : List Sp} {s : SW} {l : Int} (h : StI cs e ws sp s l) (hm : FmI ws sp) (ho : onOk s.xs = true) {bw ow mw bs os ms : Nat} (l1 : (onX cs e s.xw s.xs).1.length ≤ mw) (l2 : (onX cs e s.xw s.xs).2.1.length ≤ ms) (b1 : bw = 0 → (onX cs e s.xw s.xs).1.length = 0) (b2 : bs = 0 → (onX cs e s.xw s.xs).2.1.length = 0) : StI cs e ws sp (SW.mk (s.i + 1) bw ow mw (onX cs e s.xw s.xs).1 bs os ms (onX cs e s.xw s.xs).2.1 (s.f + (onX cs e s.xw s.xs).2.2)) (onP s.xs) := by
  have hpg := h.page hm ho
  have hd := on_ok ho
  obtain ⟨hp, hlt, hst, hfst⟩ := dy_ix hd
  have hx := onX_fm (h.1.parts hm).1 cs e hd
  refine ⟨(h.1.next hm ho l1 l2 b1 b2).1, by omega, by omega, fun q hq => ?_⟩
  have hq' : stP (onX cs e s.xw s.xs).2.1 ((q : Nat) : Int) = 2 := hq
  have hne : q ≠ Int.toNat (dyI s.xs) := fun e1 => hx.2.2.2.2.1 (by rw [hp, ← e1]; exact hq')
  rw [hx.2.2.2.1 q hne] at hq'
  have hge : ¬ q < Int.toNat (dyI s.xs) := fun h1 => hfst q h1 hq'
  exact ⟨(h.2.2.2 q hq').1, by rw [hpg.1]; omega⟩
theorem StI.done {cs : List Cc} {e : Bool} {ws : List Int} {sp : List Sp} {s : SW} {l : Int} (h : StI cs e ws sp s l) (hm : FmI ws sp) (ho : onOk s.xs = false) : (((s.i : Nat) : Int) == ((dyN sp : Nat) : Int)) = true ∧ ((alX cs e ws sp).2.2 == s.f) = true ∧ (alX cs e ws sp).1 = s.xw ∧ (alX cs e ws sp).2.1 = s.xs := by
  have hd := h.1.done hm ho
  have hp := h.1.parts hm
  have h0 : dyN s.xs = 0 := dyTo_none (dy_none (on_nok ho)) _
  refine ⟨beq_iff_eq.2 (by have := hp.2.2.2.1; omega), beq_iff_eq.2 hd.2.2.symm, hd.1.symm, hd.2.1.symm⟩
/-- Are two heaps alike? -/
def smB (ws : List Int) (sp : List Sp) (e : Bool) (ws' : List Int) (sp' : List Sp) (e' : Bool) : Bool := decide (e = e') && (decide (ws = ws') && decide (sp = sp'))
theorem sm_refl (ws : List Int) (sp : List Sp) (e : Bool) : smB ws sp e ws sp e = true := by unfold smB; simp
theorem sm_f {ws : List Int} {sp : List Sp} {e : Bool} {ws' : List Int} {sp' : List Sp} {e' : Bool} (h : ¬ e = e' ∨ ¬ ws = ws' ∨ ¬ sp = sp') : false = smB ws sp e ws' sp' e' := by
  unfold smB
  rcases h with h | h | h <;> rw [decide_eq_false h] <;> simp
theorem sm_t {ws : List Int} {sp : List Sp} {e : Bool} {ws' : List Int} {sp' : List Sp} {e' : Bool} (h1 : e = e') (h2 : ws = ws') (h3 : sp = sp') : true = smB ws sp e ws' sp' e' := by rw [h1, h2, h3]; exact (sm_refl _ _ _).symm
theorem sp_eqB {a b : Sp} (h : ((a.1 == b.1) && ((a.2.1 == b.2.1) && ((a.2.2 == b.2.2) && true))) = true) : a = b := by
  simp only [Bool.and_eq_true, beq_iff_eq] at h
  exact Prod.ext h.1 (Prod.ext h.2.1 h.2.2.1)
theorem sp_neB {a b : Sp} (h : ((a.1 == b.1) && ((a.2.1 == b.2.1) && ((a.2.2 == b.2.2) && true))) = false) : ¬ a = b := fun e => by rw [e] at h; simp at h
def smD : List (Int × Int × Int) := [(0, 0, 3), (1, 0, 9), (5, 0, 0), (1, 0, 8)]
def smW : List Int := (mdH 1 smD 4).1
def smP : List Sp := (mdH 1 smD 4).2.1
def smS : List Sp := bgS smP
def smE : Bool := (mdH 1 smD 4).2.2
theorem u32_of {sp : List Sp} (h : (sp.all fun s => decide (0 ≤ s.2.2) && decide (s.2.2 < 4294967296)) = true) : ∀ s ∈ sp, inU32 s.2.2 := fun s hs => by
  have := List.all_eq_true.1 h s hs
  simp only [Bool.and_eq_true, decide_eq_true_eq] at this
  unfold inU32; omega
theorem u64_of {ws : List Int} (h : (ws.all fun x => decide (0 ≤ x) && decide (x < 18446744073709551616)) = true) : ∀ x ∈ ws, inU64 x := fun x hx => by
  have := List.all_eq_true.1 h x hx
  simp only [Bool.and_eq_true, decide_eq_true_eq] at this
  unfold inU64; omega
theorem smp_fm : FmI smW smP := ⟨by decide +kernel, u32_of (by decide +kernel), u64_of (by decide +kernel)⟩
theorem sm_fm : FmI smW smS := smp_fm.bg _ (Nat.le_refl _)



theorem al_eqB {cs : List Cc} {e : Bool} {ws : List Int} {sp : List Sp} (h : FbI ws sp) {a : Int} (hg : gtOk ws sp a = true) : (gtOk (alX cs e ws sp).1 (alX cs e ws sp).2.1 a == stB e ws sp a) = true := by rw [al_gt h, hg]; simp
theorem al_chkC {cs : List Cc} {e : Bool} {ws : List Int} {sp : List Sp} (h : FbI ws sp) {i n : Nat} {c : Bool} (hc : i ≤ n ∧ CcI e ws sp i c) (ht : c = true) (hi : ¬ ((i : Nat) : Int) < ((lsA ws sp).length : Int)) : (chkI (alX cs e ws sp).1 (alX cs e ws sp).2.1 e == 0) = true := al_chk h (hc.2 ht) hi
theorem al_nu {cs : List Cc} {e : Bool} {ws : List Int} {sp : List Sp} (h : FbI ws sp) : (iSub .i64 (usS sp) (usS (alX cs e ws sp).2.1) != (alX cs e ws sp).2.2) = false := bne_eq_false_iff_eq.2 (al_used h)
theorem al_nd {cs : List Cc} {e : Bool} {ws : List Int} {sp : List Sp} (h : FmI ws sp) : (((dyN (alX cs e ws sp).2.1 : Nat) : Int) != 0) = false := by rw [(alX_fm h cs e).2.2.1]; rfl
theorem al_lw {cs : List Cc} {e : Bool} {ws : List Int} {sp : List Sp} (h : FmI ws sp) : (alX cs e ws sp).1.length = ws.length ∧ (alX cs e ws sp).2.1.length = sp.length := by
  have h1 := alX_fm h cs e
  have h2 := (form_p h1.1.form).2.2.2; have h3 := (form_p h.form).2.2.2; have h4 := h1.2.1
  exact ⟨by omega, h4⟩
theorem ref_big (ws ws' : List Int) (sp : List Sp) (a c : Int) : (refTo ws a (gtN ws' sp c).toNat).length ≤ 9223372036854775807 := by
  have h1 := ref_len ws a (gtN ws' sp c).toNat; have h2 := gt_range (ws := ws') (sp := sp) (a := c); omega
end Go.Proofs.YthadoehgmdageaaDoor.Fl
