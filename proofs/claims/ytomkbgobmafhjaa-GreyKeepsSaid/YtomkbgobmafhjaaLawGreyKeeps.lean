/- GreyKeeps: for every input the law returns true, and each argument reads behind the call as it read before. -/
import Derived.Test.YtomkbgobmafhjaaOpen
import Derived.Test.YtomkbgobmafhjaaGreyKeep
set_option linter.unusedVariables false
set_option linter.unusedSimpArgs false
namespace Go.Proofs.Ytomkbgobmafhjaa.RowsOf.greyKeeps
open Go.ChangeShapes Go.WideShapes Go.ChangeAt Go.RowKit Go.Joins
open Go.ChangeMaps (open_string shut_string)
open Go.Proofs.Ytomkbgobmafhjaa.Fl (sb seg)
set_option maxRecDepth 100000 in
theorem lifted (os : Os) (started : os.Started) (H : Type) (enc : TypeId × Value → H) :
    ReturnsInHanded {} Try.checked os 5 .any (Rows.greyKeepsSpec.pre6 enc Try.prog Try.f5 Rows.greyKeepsRow.domain false) (Rows.greyKeepsSpec.post enc Try.prog Try.f5 false true false false) := by
  refine returnsInHanded_of_change_sized (C := Try.checked) own started (by kernel_rfl) Try.func5
    (ChangeSpec.witness6 (enc := enc) (C := Try.checked) false ⟨#[], #[.agg #[.int .i64 0, .slice none 0 0], .int .i64 0], []⟩ 8 (by kernel_rfl) (by kernel_rfl) (by kernel_rfl) (by kernel_rfl)) ?_
  intro W base args ds gs before hval0 hW hcnd hsz0 _
  have hval : ∀ (j : Nat) t v, Try.f5.params[j]? = some t → args[j]? = some v → Value.okWide Try.prog W .any base t v := hval0
  have hW' := hW
  obtain ⟨p, q, hA0, hV, rfl, hfz, hnd⟩ := hW
  have hA : DataW.TrodAll enc Try.prog W 0 (fun _ => true) true Try.f5.params.toList args.toList ds p := hA0
  rw [Try.params5] at hA hval
  obtain ⟨rfl, rfl⟩ := trodVars_none hV
  have hlt : ∀ x ∈ p, x.block < W.heap.size := fun x hx => by simpa using hW'.lt x (by simpa using hx)
  have hstay := fun (W' : World) (hb : Below W.heap.size W W') => trodAll_stays laidOut hb hA (by kernel_rfl) hlt
  obtain ⟨v0, vs0, d0, ds0, p0, q0, hargs, rfl, rfl, h0, r0⟩ := trodAll_cons hA
  obtain ⟨v1, vs1, d1, ds1, p1, q1, rfl, rfl, rfl, h1, r1⟩ := trodAll_cons r0
  obtain ⟨rfl, rfl, rfl⟩ := trodAll_nil r1
  obtain rfl : args = #[v0, v1] := by cases args; simp_all
  have hv0 := (hval 0 24 v0 rfl rfl)
  obtain ⟨c0_0, c0_1, y0_0, y0_1, n0, rfl, rfl, rfl, t0_0, t0_1⟩ := open_agg2 Try.underlying24 (by kernel_rfl) (show Try.prog.cellsOf 24 = 2 by kernel_rfl) hv0 h0
  have k0_1 := okWide_cell (i := 1) (ts := #[3, 22]) Try.underlying24 hv0 (by kernel_rfl) rfl rfl
  obtain ⟨a0_0, rfl, w0_0⟩ := cell_int Try.underlying3 t0_0
  obtain ⟨b0_1, o0_1, _, m0_1, x0_1, rfl, rfl, lc0_1, mc0_1, z0_1, s0_1, g0_1⟩ := open_seg (enc := Fl.encI .i64) (Good := fun x => (Lit.int .i64 x).wf = true) (k := 1) Try.underlying22 (by kernel_rfl) (by decide) (fun _ => rfl) (fun f cs z h1 h2 => dec_int Try.underlying3 f cs z h1 h2) k0_1 t0_1
  obtain ⟨a1, rfl, rfl, rfl, w1⟩ := open_int Try.underlying3 (hval 1 3 v1 rfl rfl) h1
  clear hA0 hval0 hsz0 hval
  have hpre : Fl.PreOk W (([seg b0_1 o0_1 (x0_1.flatMap (Fl.encI .i64))] : List Fl.Ro).map fun g => some (Fl.Res.ro g)) := preOk_ro (by simp only [List.forall_mem_cons, List.not_mem_nil, false_imp_iff, implies_true, and_true]; exact s0_1)
  refine (Fl.law_GreyKeeps a0_0 b0_1 o0_1 m0_1 x0_1 a1 z0_1 lc0_1 (big_len lc0_1 mc0_1) W hpre).mono fun e W' ⟨_, he, _, how⟩ => ?_
  subst he
  have bel : Below W.heap.size W W' := below_of how.below (by exact exFp_ro (gs := [seg b0_1 o0_1 (x0_1.flatMap (Fl.encI .i64))]))
  exact ⟨_, rfl, _, _, _, [], _, [], hW', trodAll_mk1 (shut_bool Try.underlying4 _), hstay W' bel, rfl, bel.frame _, fun h => by cases h⟩
theorem over : Rows.greyKeepsRow.holds Try.pinned (OpenSpec.ofChange Rows.greyKeepsSpec) :=
  OpenClaim.holds_of_wide 5 Try.f5 rfl rfl rfl rfl rfl rfl rfl ⟨rfl, rfl, rfl, rfl, rfl⟩ rfl rfl rfl rfl rfl (by kernel_rfl) Try.func5 (by kernel_rfl)
    (of_decide_eq_true (by kernel_rfl)) (by unfold Func.isWrapper; first | (rw [if_pos (by decide +kernel)]; kernel_rfl) | (rw [if_neg (by decide +kernel)]; exact ⟨rfl, rfl⟩))
    (fun os started H enc _ => lifted os started H enc)
end Go.Proofs.Ytomkbgobmafhjaa.RowsOf.greyKeeps
namespace Go.Proofs.Ytomkbgobmafhjaa
/-- The row. -/
theorem greyKeeps_holds : Rows.GreyKeepsSaid := RowsOf.greyKeeps.over
#print axioms greyKeeps_holds
end Go.Proofs.Ytomkbgobmafhjaa
