/- RootsKeeps: for every input the law returns true, and each argument reads behind the call as it read before. -/
import Derived.Test.YtomkbgobmafhjaaOpen
import Derived.Test.YtomkbgobmafhjaaRootKeep
set_option linter.unusedVariables false
set_option linter.unusedSimpArgs false
namespace Go.Proofs.Ytomkbgobmafhjaa.RowsOf.rootsKeeps
open Go.ChangeShapes Go.WideShapes Go.ChangeAt Go.RowKit Go.Joins
open Go.ChangeMaps (open_string shut_string)
open Go.Proofs.Ytomkbgobmafhjaa.Fl (sb seg)
set_option maxRecDepth 100000 in
theorem lifted (os : Os) (started : os.Started) (H : Type) (enc : TypeId × Value → H) :
    ReturnsInHanded {} Try.checked os 9 .any (Rows.rootsKeepsSpec.pre6 enc Try.prog Try.f9 Rows.rootsKeepsRow.domain false) (Rows.rootsKeepsSpec.post enc Try.prog Try.f9 false true false false) := by
  refine returnsInHanded_of_change_sized (C := Try.checked) own started (by kernel_rfl) Try.func9
    (ChangeSpec.witness6 (enc := enc) (C := Try.checked) false ⟨#[], #[.slice none 0 0, .agg #[.int .i64 0, .int .i64 0]], []⟩ 8 (by kernel_rfl) (by kernel_rfl) (by kernel_rfl) (by kernel_rfl)) ?_
  intro W base args ds gs before hval0 hW hcnd hsz0 _
  have hval : ∀ (j : Nat) t v, Try.f9.params[j]? = some t → args[j]? = some v → Value.okWide Try.prog W .any base t v := hval0
  have hW' := hW
  obtain ⟨p, q, hA0, hV, rfl, hfz, hnd⟩ := hW
  have hA : DataW.TrodAll enc Try.prog W 0 (fun _ => true) true Try.f9.params.toList args.toList ds p := hA0
  rw [Try.params9] at hA hval
  obtain ⟨rfl, rfl⟩ := trodVars_none hV
  have hlt : ∀ x ∈ p, x.block < W.heap.size := fun x hx => by simpa using hW'.lt x (by simpa using hx)
  have hstay := fun (W' : World) (hb : Below W.heap.size W W') => trodAll_stays laidOut hb hA (by kernel_rfl) hlt
  obtain ⟨v0, vs0, d0, ds0, p0, q0, hargs, rfl, rfl, h0, r0⟩ := trodAll_cons hA
  obtain ⟨v1, vs1, d1, ds1, p1, q1, rfl, rfl, rfl, h1, r1⟩ := trodAll_cons r0
  obtain ⟨rfl, rfl, rfl⟩ := trodAll_nil r1
  obtain rfl : args = #[v0, v1] := by cases args; simp_all
  obtain ⟨fu0, hf0⟩ := h0
  obtain ⟨c0, cl0, cc0, rfl⟩ := okWide_slice Try.underlying38 (hval 0 38 v0 rfl rfl)
  have hs0 : DataW.trod enc Try.prog W 0 (fun _ => true) true fu0 38 [.slice c0 cl0 cc0] = _ := hf0
  have ho0 := okWide_top Try.underlying38 (hval 0 38 _ rfl rfl)
  generalize hg0 : Value.slice c0 cl0 cc0 = vv0 at *
  obtain ⟨b0, o0, _, m0, x0, rfl, rfl, lc0, mc0, z0, s0, g0⟩ := open_seg (enc := Fl.encII) (Good := fun _ => True) (k := 2) Try.underlying38 (by kernel_rfl) (by decide) (fun _ => rfl) (fun f cs z h1 h2 => dec_II Try.underlying40 rfl rfl (by kernel_rfl) (by kernel_rfl) Try.underlying3 Try.underlying3 f cs z h1 h2) ho0 hs0
  have hv1 := (hval 1 40 v1 rfl rfl)
  obtain ⟨c1_0, c1_1, y1_0, y1_1, n1, rfl, rfl, rfl, t1_0, t1_1⟩ := open_agg2 Try.underlying40 (by kernel_rfl) (show Try.prog.cellsOf 40 = 2 by kernel_rfl) hv1 h1
  obtain ⟨a1_0, rfl, w1_0⟩ := cell_int Try.underlying3 t1_0
  obtain ⟨a1_1, rfl, w1_1⟩ := cell_int Try.underlying3 t1_1
  clear hA0 hval0 hsz0 hval
  have hpre : Fl.PreOk W (([seg b0 o0 (x0.flatMap (Fl.encII))] : List Fl.Ro).map fun g => some (Fl.Res.ro g)) := preOk_ro (by simp only [List.forall_mem_cons, List.not_mem_nil, false_imp_iff, implies_true, and_true]; exact s0)
  refine (Fl.law_RootsKeeps b0 o0 m0 x0 a1_0 a1_1 z0 lc0 (big_len lc0 mc0) W hpre).mono fun e W' ⟨_, he, _, how⟩ => ?_
  subst he
  have bel : Below W.heap.size W W' := below_of how.below (by exact exFp_ro (gs := [seg b0 o0 (x0.flatMap (Fl.encII))]))
  exact ⟨_, rfl, _, _, _, [], _, [], hW', trodAll_mk1 (shut_bool Try.underlying4 _), hstay W' bel, rfl, bel.frame _, fun h => by cases h⟩
theorem over : Rows.rootsKeepsRow.holds Try.pinned (OpenSpec.ofChange Rows.rootsKeepsSpec) :=
  OpenClaim.holds_of_wide 9 Try.f9 rfl rfl rfl rfl rfl rfl rfl ⟨rfl, rfl, rfl, rfl, rfl⟩ rfl rfl rfl rfl rfl (by kernel_rfl) Try.func9 (by kernel_rfl)
    (of_decide_eq_true (by kernel_rfl)) (by unfold Func.isWrapper; first | (rw [if_pos (by decide +kernel)]; kernel_rfl) | (rw [if_neg (by decide +kernel)]; exact ⟨rfl, rfl⟩))
    (fun os started H enc _ => lifted os started H enc)
end Go.Proofs.Ytomkbgobmafhjaa.RowsOf.rootsKeeps
namespace Go.Proofs.Ytomkbgobmafhjaa
/-- The row. -/
theorem rootsKeeps_holds : Rows.RootsKeepsSaid := RowsOf.rootsKeeps.over
#print axioms rootsKeeps_holds
end Go.Proofs.Ytomkbgobmafhjaa
