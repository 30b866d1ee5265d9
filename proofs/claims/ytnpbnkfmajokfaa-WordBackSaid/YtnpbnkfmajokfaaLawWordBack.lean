/- WordBack: for every input the law returns true, and each argument reads behind the call as it read before. -/
import Derived.Test.YtnpbnkfmajokfaaRowKit
import Derived.Test.YtnpbnkfmajokfaaWordLaws
set_option linter.unusedVariables false
namespace Go.Proofs.Ytnpbnkfmajokfaa.RowsOf.wordBack
open Go.ChangeShapes Go.WideShapes Go.ChangeAt Go.RowKit Go.Joins
open Go.ChangeMaps (open_string shut_string)
set_option maxRecDepth 100000 in
theorem lifted (os : Os) (started : os.Started) (H : Type) (enc : TypeId × Value → H) :
    ReturnsInHanded {} Try.checked os 9 .any (Rows.wordBackSpec.pre6 enc Try.prog Try.f9 Rows.wordBackRow.domain false) (Rows.wordBackSpec.post enc Try.prog Try.f9 false true false false) := by
  refine returnsInHanded_of_change_sized (C := Try.checked) own started (by kernel_rfl) Try.func9
    (ChangeSpec.witness6 (enc := enc) (C := Try.checked) false ⟨#[], #[.int .u64 0, .agg #[.int .i64 0, .int .i64 0], .agg #[.int .i64 0, .int .i64 0]], []⟩ 8 (by kernel_rfl) (by kernel_rfl) (by kernel_rfl) (by kernel_rfl)) ?_
  intro W base args ds gs before hval0 hW hcnd hsz0 _
  have hval : ∀ (j : Nat) t v, Try.f9.params[j]? = some t → args[j]? = some v → Value.okWide Try.prog W .any base t v := hval0
  have hW' := hW
  obtain ⟨p, q, hA0, hV, rfl, hfz, hnd⟩ := hW
  have hA : DataW.TrodAll enc Try.prog W 0 (fun _ => true) true Try.f9.params.toList args.toList ds p := hA0
  rw [Try.params9] at hA hval
  obtain ⟨rfl, rfl⟩ := trodVars_none hV
  have hlt : ∀ x ∈ p, x.block < W.heap.size := fun x hx => by simpa using hW'.lt x (by simpa using hx)
  have hstay := fun (W' : World) (hb : Below W.heap.size W W') => trodAll_stays laidOut hb hA (by kernel_rfl) hlt
  obtain ⟨v0, vs0, d0, ds0, p0, q0, hargs, rfl, rfl, h0, r0⟩ := trodAll_cons hA
  obtain ⟨v1, vs1, d1, ds1, p1, q1, rfl, rfl, rfl, h1, r1⟩ := trodAll_cons r0
  obtain ⟨v2, vs2, d2, ds2, p2, q2, rfl, rfl, rfl, h2, r2⟩ := trodAll_cons r1
  obtain ⟨rfl, rfl, rfl⟩ := trodAll_nil r2
  obtain rfl : args = #[v0, v1, v2] := by cases args; simp_all
  obtain ⟨a0, rfl, rfl, rfl, w0⟩ := open_int Try.underlying25 (hval 0 25 v0 rfl rfl) h0
  obtain ⟨c1_0, c1_1, y1_0, y1_1, n1, rfl, rfl, rfl, t1_0, t1_1⟩ := open_agg2 Try.underlying35 (by kernel_rfl) (show Try.prog.cellsOf 35 = 2 by kernel_rfl) (hval 1 35 v1 rfl rfl) h1
  obtain ⟨a1_0, rfl, w1_0⟩ := cell_int Try.underlying3 t1_0
  obtain ⟨a1_1, rfl, w1_1⟩ := cell_int Try.underlying3 t1_1
  obtain ⟨c2_0, c2_1, y2_0, y2_1, n2, rfl, rfl, rfl, t2_0, t2_1⟩ := open_agg2 Try.underlying35 (by kernel_rfl) (show Try.prog.cellsOf 35 = 2 by kernel_rfl) (hval 2 35 v2 rfl rfl) h2
  obtain ⟨a2_0, rfl, w2_0⟩ := cell_int Try.underlying3 t2_0
  obtain ⟨a2_1, rfl, w2_1⟩ := cell_int Try.underlying3 t2_1
  clear hA0 hval0 hsz0
  refine (Fl.law_WordBack a0 a1_0 a1_1 a2_0 a2_1 (Fl.wf_u64 w0) (Fl.wf_i64 w1_1) (Fl.wf_i64 w2_1) W trivial).mono fun e W' ⟨he, bel⟩ => ?_
  subst he
  exact ⟨_, rfl, _, _, _, [], _, [], hW', trodAll_mk1 (shut_bool Try.underlying4 _), hstay W' bel, rfl, bel.frame _, fun h => by cases h⟩
theorem over : Rows.wordBackRow.holds Try.pinned (OpenSpec.ofChange Rows.wordBackSpec) :=
  OpenClaim.holds_of_wide 9 Try.f9 rfl rfl rfl rfl rfl rfl rfl ⟨rfl, rfl, rfl, rfl, rfl⟩ rfl rfl rfl rfl rfl (by kernel_rfl) Try.func9 (by kernel_rfl)
    (of_decide_eq_true (by kernel_rfl)) (by unfold Func.isWrapper; first | (rw [if_pos (by decide +kernel)]; kernel_rfl) | (rw [if_neg (by decide +kernel)]; exact ⟨rfl, rfl⟩))
    (fun os started H enc _ => lifted os started H enc)
end Go.Proofs.Ytnpbnkfmajokfaa.RowsOf.wordBack
namespace Go.Proofs.Ytnpbnkfmajokfaa
/-- The row. -/
theorem wordBack_holds : Rows.WordBackSaid := RowsOf.wordBack.over
#print axioms wordBack_holds
end Go.Proofs.Ytnpbnkfmajokfaa
