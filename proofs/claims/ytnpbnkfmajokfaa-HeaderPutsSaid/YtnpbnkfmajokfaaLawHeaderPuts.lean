/- HeaderPuts: for every input the law returns true, and each argument reads behind the call as it read before. -/
import Derived.Test.YtnpbnkfmajokfaaRowKit
import Derived.Test.YtnpbnkfmajokfaaHeadLaws
set_option linter.unusedVariables false
namespace Go.Proofs.Ytnpbnkfmajokfaa.RowsOf.headerPuts
open Go.ChangeShapes Go.WideShapes Go.ChangeAt Go.RowKit Go.Joins
open Go.ChangeMaps (open_string shut_string)
set_option maxRecDepth 100000 in
theorem lifted (os : Os) (started : os.Started) (H : Type) (enc : TypeId × Value → H) :
    ReturnsInHanded {} Try.checked os 3 .any (Rows.headerPutsSpec.pre6 enc Try.prog Try.f3 Rows.headerPutsRow.domain false) (Rows.headerPutsSpec.post enc Try.prog Try.f3 false true false false) := by
  refine returnsInHanded_of_change_sized (C := Try.checked) own started (by kernel_rfl) Try.func3
    (ChangeSpec.witness6 (enc := enc) (C := Try.checked) false ⟨#[], #[.agg #[.bool false, .bool false, .int .i64 0, .int .i64 0]], []⟩ 8 (by kernel_rfl) (by kernel_rfl) (by kernel_rfl) (by kernel_rfl)) ?_
  intro W base args ds gs before hval0 hW hcnd hsz0 _
  have hval : ∀ (j : Nat) t v, Try.f3.params[j]? = some t → args[j]? = some v → Value.okWide Try.prog W .any base t v := hval0
  have hW' := hW
  obtain ⟨p, q, hA0, hV, rfl, hfz, hnd⟩ := hW
  have hA : DataW.TrodAll enc Try.prog W 0 (fun _ => true) true Try.f3.params.toList args.toList ds p := hA0
  rw [Try.params3] at hA hval
  obtain ⟨rfl, rfl⟩ := trodVars_none hV
  have hlt : ∀ x ∈ p, x.block < W.heap.size := fun x hx => by simpa using hW'.lt x (by simpa using hx)
  have hstay := fun (W' : World) (hb : Below W.heap.size W W') => trodAll_stays laidOut hb hA (by kernel_rfl) hlt
  obtain ⟨v0, vs0, d0, ds0, p0, q0, hargs, rfl, rfl, h0, r0⟩ := trodAll_cons hA
  obtain ⟨rfl, rfl, rfl⟩ := trodAll_nil r0
  obtain rfl : args = #[v0] := by cases args; simp_all
  obtain ⟨c0_0, c0_1, c0_2, c0_3, y0_0, y0_1, y0_2, y0_3, n0, rfl, rfl, rfl, t0_0, t0_1, t0_2, t0_3⟩ := open_agg4 Try.underlying23 (by kernel_rfl) (show Try.prog.cellsOf 23 = 4 by kernel_rfl) (hval 0 23 v0 rfl rfl) h0
  obtain ⟨a0_0, rfl⟩ := cell_bool Try.underlying4 t0_0
  obtain ⟨a0_1, rfl⟩ := cell_bool Try.underlying4 t0_1
  obtain ⟨a0_2, rfl, w0_2⟩ := cell_int Try.underlying3 t0_2
  obtain ⟨a0_3, rfl, w0_3⟩ := cell_int Try.underlying3 t0_3
  clear hA0 hval0 hsz0
  refine (Fl.law_HeaderPuts a0_0 a0_1 a0_2 a0_3 (Fl.wf_i64 w0_2) (Fl.wf_i64 w0_3) W trivial).mono fun e W' ⟨he, bel⟩ => ?_
  subst he
  exact ⟨_, rfl, _, _, _, [], _, [], hW', trodAll_mk1 (shut_bool Try.underlying4 _), hstay W' bel, rfl, bel.frame _, fun h => by cases h⟩
theorem over : Rows.headerPutsRow.holds Try.pinned (OpenSpec.ofChange Rows.headerPutsSpec) :=
  OpenClaim.holds_of_wide 3 Try.f3 rfl rfl rfl rfl rfl rfl rfl ⟨rfl, rfl, rfl, rfl, rfl⟩ rfl rfl rfl rfl rfl (by kernel_rfl) Try.func3 (by kernel_rfl)
    (of_decide_eq_true (by kernel_rfl)) (by unfold Func.isWrapper; first | (rw [if_pos (by decide +kernel)]; kernel_rfl) | (rw [if_neg (by decide +kernel)]; exact ⟨rfl, rfl⟩))
    (fun os started H enc _ => lifted os started H enc)
end Go.Proofs.Ytnpbnkfmajokfaa.RowsOf.headerPuts
namespace Go.Proofs.Ytnpbnkfmajokfaa
/-- The row. -/
theorem headerPuts_holds : Rows.HeaderPutsSaid := RowsOf.headerPuts.over
#print axioms headerPuts_holds
end Go.Proofs.Ytnpbnkfmajokfaa
