/- What deeds make of a heap of free pages. Plain lemmas; conditions: in each. -/
import Derived.Test.YthadoehgmdageaaDoorZ3SdV
set_option linter.unusedVariables false
set_option linter.unusedSimpArgs false
namespace Go.Proofs.YthadoehgmdageaaDoor.Fl
open Go.RowKit
abbrev Hp := List Int × List Sp × Bool
def mdStep (d : Int × Int × Int) (h : Hp) : Hp :=
  if d.1 = 0 then (h.1, opS h.2.1 d.2.1 d.2.2, h.2.2)
  else if d.1 = 1 ∨ d.1 = 2 then (lyW h.1 h.2.1 h.2.2 d.2.1 d.2.2, lyS h.2.1 d.2.1 d.2.2, h.2.2)
  else if d.1 = 3 then (reW h.1 h.2.1 d.2.1, reS h.2.1 d.2.1, h.2.2)
  else if d.1 = 4 then (h.1, clS h.2.1 d.2.1, h.2.2)
  else (h.1, h.2.1, !h.2.2)
def mdH (pg : Nat) (l : List (Int × Int × Int)) : Nat → Hp
  | 0 => (List.replicate (32 * pg) 0, List.replicate pg (0, 0, 0), false)
  | i + 1 => mdStep (l.getD i (0, 0, 0)) (mdH pg l i)
theorem opS_len (sp : List Sp) (p c : Int) : (opS sp p c).length = sp.length := by unfold opS; split; exact stG_len _ _ _; rfl
theorem clS_len (sp : List Sp) (p : Int) : (clS sp p).length = sp.length := by unfold clS; split; exact stG_len _ _ _; rfl
theorem lyS_len (sp : List Sp) (p c : Int) : (lyS sp p c).length = sp.length := by unfold lyS; split; exact stG_len _ _ _; rfl
theorem reS_len (sp : List Sp) (a : Int) : (reS sp a).length = sp.length := by unfold reS; split; exact stG_len _ _ _; rfl
theorem mdStep_ok {d : Int × Int × Int} {h : Hp} (hm : MadeI h.1 h.2.1) : MadeI (mdStep d h).1 (mdStep d h).2.1 ∧ (mdStep d h).2.1.length = h.2.1.length := by
  unfold mdStep
  repeat' split
  · exact ⟨hm.open _ _, opS_len _ _ _⟩
  · exact ⟨hm.lay _ _ _, lyS_len _ _ _⟩
  · exact ⟨hm.free _, reS_len _ _⟩
  · exact ⟨hm.close _, clS_len _ _⟩
  · exact ⟨hm, rfl⟩
theorem mdH_ok {pg : Nat} (h1 : 1 ≤ pg) (h2 : pg ≤ 16) (l : List (Int × Int × Int)) : ∀ i, MadeI (mdH pg l i).1 (mdH pg l i).2.1 ∧ (mdH pg l i).2.1.length = pg
  | 0 => ⟨MadeI.zero pg h1 h2, List.length_replicate⟩
  | i + 1 => by
    have ih := mdH_ok h1 h2 l i
    have := mdStep_ok (d := l.getD i (0, 0, 0)) ih.1
    exact ⟨this.1, this.2.trans ih.2⟩
structure HV where
  i : Nat
  bw : Nat
  ow : Nat
  mw : Nat
  xw : List Int
  bs : Nat
  os : Nat
  ms : Nat
  xs : List Sp
  e : Bool
def HInv (pg : Nat) (l : List (Int × Int × Int)) (s : HV) : Prop := s.i ≤ l.length ∧ (s.xw, s.xs, s.e) = mdH pg l s.i ∧ s.xw.length ≤ s.mw ∧ s.xs.length ≤ s.ms
theorem HInv.parts {pg : Nat} {l : List (Int × Int × Int)} {s : HV} (h : HInv pg l s) (h1 : 1 ≤ pg) (h2 : pg ≤ 16) : MadeI s.xw s.xs ∧ s.xs.length = pg ∧ s.xw.length = 32 * pg := by
  have hk := mdH_ok h1 h2 l s.i
  rw [← h.2.1] at hk
  exact ⟨hk.1, hk.2, by rw [(form_p hk.1.form).2.2.2, hk.2]⟩
theorem HInv.mk {pg : Nat} {l : List (Int × Int × Int)} {i bw ow mw : Nat} {xw : List Int} {bs os ms : Nat} {xs : List Sp} {e : Bool} (h1 : i + 1 ≤ l.length) (h2 : (xw, xs, e) = mdH pg l (i + 1)) (h3 : xw.length ≤ mw) (h4 : xs.length ≤ ms) : HInv pg l (HV.mk (i + 1) bw ow mw xw bs os ms xs e) := ⟨h1, h2, h3, h4⟩
theorem HInv.zero {pg : Nat} {l : List (Int × Int × Int)} {bw ow mw bs os ms : Nat} (h3 : (List.replicate (32 * pg) (0 : Int)).length ≤ mw) (h4 : (List.replicate pg ((0, 0, 0) : Sp)).length ≤ ms) : HInv pg l (HV.mk 0 bw ow mw (List.replicate (32 * pg) 0) bs os ms (List.replicate pg (0, 0, 0)) false) := ⟨Nat.zero_le _, rfl, h3, h4⟩
theorem HInv.done {pg : Nat} {l : List (Int × Int × Int)} {s : HV} (h : HInv pg l s) (hi : ¬ ((s.i : Nat) : Int) < ((l.length : Nat) : Int)) : s.xw = (mdH pg l l.length).1 ∧ s.xs = (mdH pg l l.length).2.1 ∧ s.e = (mdH pg l l.length).2.2 := by
  have e : s.i = l.length := by have := h.1; omega
  rw [← e, ← h.2.1]; exact ⟨rfl, rfl, rfl⟩

end Go.Proofs.YthadoehgmdageaaDoor.Fl
