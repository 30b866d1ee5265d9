/- QueueSorts: for every input the law returns true, and each argument reads behind the call as it read before. -/
import Derived.Test.YtemfcbgmgfcjeaaOpen
import Derived.Test.YtemfcbgmgfcjeaaQueLaws
set_option linter.unusedVariables false
set_option linter.unusedSimpArgs false
namespace Go.Proofs.Ytemfcbgmgfcjeaa.RowsOf.queueSorts
open Go.ChangeShapes Go.WideShapes Go.ChangeAt Go.RowKit Go.Joins
open Go.ChangeMaps (open_string shut_string)
open Go.Proofs.Ytemfcbgmgfcjeaa.Fl (sb seg)
set_option maxRecDepth 100000 in
theorem lifted (os : Os) (started : os.Started) (H : Type) (enc : TypeId × Value → H) :
    ReturnsInHanded {} Try.checked os 4 .any (Rows.queueSortsSpec.pre6 enc Try.prog Try.f4 Rows.queueSortsRow.domain false) (Rows.queueSortsSpec.post enc Try.prog Try.f4 false true false false) := by
  refine returnsInHanded_of_change_sized (C := Try.checked) own started (by kernel_rfl) Try.func4
    (ChangeSpec.witness6 (enc := enc) (C := Try.checked) false ⟨#[], #[.slice none 0 0], []⟩ 8 (by kernel_rfl) (by kernel_rfl) (by kernel_rfl) (by kernel_rfl)) ?_
  intro W base args ds gs before hval0 hW hcnd hsz0 _
  have hval : ∀ (j : Nat) t v, Try.f4.params[j]? = some t → args[j]? = some v → Value.okWide Try.prog W .any base t v := hval0
  have hW' := hW
  obtain ⟨p, q, hA0, hV, rfl, hfz, hnd⟩ := hW
  have hA : DataW.TrodAll enc Try.prog W 0 (fun _ => true) true Try.f4.params.toList args.toList ds p := hA0
  rw [Try.params4] at hA hval
  obtain ⟨rfl, rfl⟩ := trodVars_none hV
  have hlt : ∀ x ∈ p, x.block < W.heap.size := fun x hx => by simpa using hW'.lt x (by simpa using hx)
  have hstay := fun (W' : World) (hb : Below W.heap.size W W') => trodAll_stays laidOut hb hA (by kernel_rfl) hlt
  obtain ⟨v0, vs0, d0, ds0, p0, q0, hargs, rfl, rfl, h0, r0⟩ := trodAll_cons hA
  obtain ⟨rfl, rfl, rfl⟩ := trodAll_nil r0
  obtain rfl : args = #[v0] := by cases args; simp_all
  obtain ⟨fu0, hf0⟩ := h0
  obtain ⟨c0, cl0, cc0, rfl⟩ := okWide_slice Try.underlying22 (hval 0 22 v0 rfl rfl)
  have hs0 : DataW.trod enc Try.prog W 0 (fun _ => true) true fu0 22 [.slice c0 cl0 cc0] = _ := hf0
  have ho0 := okWide_top Try.underlying22 (hval 0 22 _ rfl rfl)
  generalize hg0 : Value.slice c0 cl0 cc0 = vv0 at *
  obtain ⟨b0, o0, _, m0, x0, rfl, rfl, lc0, mc0, z0, s0, g0⟩ := open_seg (enc := Fl.encI .i64) (Good := fun x => (Lit.int .i64 x).wf = true) (k := 1) Try.underlying22 (by kernel_rfl) (by decide) (fun _ => rfl) (fun f cs z h1 h2 => dec_int Try.underlying3 f cs z h1 h2) ho0 hs0
  clear hA0 hval0 hsz0 hval
  have hpre : Fl.PreOk W (([seg b0 o0 (x0.flatMap (Fl.encI .i64))] : List Fl.Ro).map fun g => some (Fl.Res.ro g)) := preOk_ro (by simp only [List.forall_mem_cons, List.not_mem_nil, false_imp_iff, implies_true, and_true]; exact s0)
  refine (Fl.law_QueueSorts b0 o0 m0 x0  W hpre).mono fun e W' ⟨_, he, _, how⟩ => ?_
  subst he
  have bel : Below W.heap.size W W' := below_of how.below (by exact exFp_ro (gs := [seg b0 o0 (x0.flatMap (Fl.encI .i64))]))
  exact ⟨_, rfl, _, _, _, [], _, [], hW', trodAll_mk1 (shut_bool Try.underlying4 _), hstay W' bel, rfl, bel.frame _, fun h => by cases h⟩
theorem over : Rows.queueSortsRow.holds Try.pinned (OpenSpec.ofChange Rows.queueSortsSpec) :=
  OpenClaim.holds_of_wide 4 Try.f4 rfl rfl rfl rfl rfl rfl rfl ⟨rfl, rfl, rfl, rfl, rfl⟩ rfl rfl rfl rfl rfl (by kernel_rfl) Try.func4 (by kernel_rfl)
    (of_decide_eq_true (by kernel_rfl)) (by unfold Func.isWrapper; first | (rw [if_pos (by decide +kernel)]; kernel_rfl) | (rw [if_neg (by decide +kernel)]; exact ⟨rfl, rfl⟩))
    (fun os started H enc _ => lifted os started H enc)
end Go.Proofs.Ytemfcbgmgfcjeaa.RowsOf.queueSorts
namespace Go.Proofs.Ytemfcbgmgfcjeaa
/-- The row. -/
theorem queueSorts_holds : Rows.QueueSortsSaid := RowsOf.queueSorts.over
#print axioms queueSorts_holds
end Go.Proofs.Ytemfcbgmgfcjeaa
