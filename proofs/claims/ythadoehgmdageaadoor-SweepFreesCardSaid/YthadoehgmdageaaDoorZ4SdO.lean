/- Contracts of heap's reference that makes heaps: a block freed. Conditions: each in its premises. -/
import Derived.Test.YthadoehgmdageaaDoorZ4SdN
set_option linter.unusedVariables false
set_option linter.unusedSimpArgs false
namespace Go.Proofs.YthadoehgmdageaaDoor.Fl
open Go.RowKit
def reB (sp : List Sp) (a : Int) : Bool := fnOk sp a && gvOk (stP sp (fnP sp a)) (clP sp (fnP sp a)) (frP sp (fnP sp a)) (fnX sp a)
def reS (sp : List Sp) (a : Int) : List Sp := if reB sp a = true then stG sp (fnP sp a) (stP sp (fnP sp a), clP sp (fnP sp a), gvF (stP sp (fnP sp a)) (clP sp (fnP sp a)) (frP sp (fnP sp a)) (fnX sp a)) else sp
def reW (ws : List Int) (sp : List Sp) (a : Int) : List Int := if reB sp a = true then zTo ws (Int.toNat a) (Int.toNat (cWords (clP sp (fnP sp a)))) else ws
theorem re_no {ws : List Int} {sp : List Sp} {a : Int} (h : reB sp a = false) : sp = reS sp a ∧ ws = reW ws sp a := by unfold reS reW; rw [h]; exact ⟨rfl, rfl⟩
theorem re_lw {ws : List Int} {sp : List Sp} {a : Int} {v : Nat} (h : reB sp a = true) (hv : v = Int.toNat (cWords (clP sp (fnP sp a)))) : zTo ws (Int.toNat a) v = reW ws sp a := by unfold reW; rw [if_pos h, hv]
theorem fn_pi {sp : List Sp} {a : Int} (h : fnOk sp a = true) : fnP sp a = ((Int.toNat (fnP sp a) : Nat) : Int) ∧ Int.toNat (fnP sp a) < sp.length := by
  have := fn_parts h; omega
theorem re_ix {ws : List Int} {sp : List Sp} (h : formB ws.length sp = true) {a : Int} (hb : fnOk sp a = true) : 0 ≤ a ∧ a + cWords (clP sp (fnP sp a)) ≤ (ws.length : Int) ∧ ws.length ≤ 512 := by
  have hl := (form_p h).2.2.1; have hn := (form_p h).2.2.2
  obtain ⟨q, j, hq, e1, e2⟩ := fn_blk hb
  have := blk_range hl hq; have hlen := blk_len hl hq hn
  rw [(fn_parts hb).2.2.2.2.1, e2, e1]; omega


end Go.Proofs.YthadoehgmdageaaDoor.Fl
