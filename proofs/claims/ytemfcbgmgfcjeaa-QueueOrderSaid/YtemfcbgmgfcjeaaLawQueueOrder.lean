/- QueueOrder: for every input the law returns true, and each argument reads behind the call as it read before. -/
import Derived.Test.YtemfcbgmgfcjeaaOpen
import Derived.Test.YtemfcbgmgfcjeaaQueOrder
set_option linter.unusedVariables false
set_option linter.unusedSimpArgs false
namespace Go.Proofs.Ytemfcbgmgfcjeaa.RowsOf.queueOrder
open Go.ChangeShapes Go.WideShapes Go.ChangeAt Go.RowKit Go.Joins
open Go.ChangeMaps (open_string shut_string)
open Go.Proofs.Ytemfcbgmgfcjeaa.Fl (sb seg)
set_option maxRecDepth 100000 in
theorem lifted (os : Os) (started : os.Started) (H : Type) (enc : TypeId × Value → H) :
    ReturnsInHanded {} Try.checked os 5 .any (Rows.queueOrderSpec.pre6 enc Try.prog Try.f5 Rows.queueOrderRow.domain false) (Rows.queueOrderSpec.post enc Try.prog Try.f5 false true false false) := by
  refine returnsInHanded_of_change_sized (C := Try.checked) own started (by kernel_rfl) Try.func5
    (ChangeSpec.witness6 (enc := enc) (C := Try.checked) false ⟨#[], #[.slice none 0 0, .slice none 0 0, .int .i64 0], []⟩ 8 (by kernel_rfl) (by kernel_rfl) (by kernel_rfl) (by kernel_rfl)) ?_
  intro W base args ds gs before hval0 hW hcnd hsz0 _
  have hval : ∀ (j : Nat) t v, Try.f5.params[j]? = some t → args[j]? = some v → Value.okWide Try.prog W .any base t v := hval0
  have hW' := hW
  obtain ⟨p, q, hA0, hV, rfl, hfz, hnd⟩ := hW
  have hA : DataW.TrodAll enc Try.prog W 0 (fun _ => true) true Try.f5.params.toList args.toList ds p := hA0
  rw [Try.params5] at hA hval
  obtain ⟨rfl, rfl⟩ := trodVars_none hV
  have hlt : ∀ x ∈ p, x.block < W.heap.size := fun x hx => by simpa using hW'.lt x (by simpa using hx)
  have hstay := fun (W' : World) (hb : Below W.heap.size W W') => trodAll_stays laidOut hb hA (by kernel_rfl) hlt
  obtain ⟨v0, vs0, d0, ds0, p0, q0, hargs, rfl, rfl, h0, r0⟩ := trodAll_cons hA
  obtain ⟨v1, vs1, d1, ds1, p1, q1, rfl, rfl, rfl, h1, r1⟩ := trodAll_cons r0
  obtain ⟨v2, vs2, d2, ds2, p2, q2, rfl, rfl, rfl, h2, r2⟩ := trodAll_cons r1
  obtain ⟨rfl, rfl, rfl⟩ := trodAll_nil r2
  obtain rfl : args = #[v0, v1, v2] := by cases args; simp_all
  obtain ⟨fu0, hf0⟩ := h0
  obtain ⟨c0, cl0, cc0, rfl⟩ := okWide_slice Try.underlying22 (hval 0 22 v0 rfl rfl)
  have hs0 : DataW.trod enc Try.prog W 0 (fun _ => true) true fu0 22 [.slice c0 cl0 cc0] = _ := hf0
  have ho0 := okWide_top Try.underlying22 (hval 0 22 _ rfl rfl)
  generalize hg0 : Value.slice c0 cl0 cc0 = vv0 at *
  obtain ⟨b0, o0, _, m0, x0, rfl, rfl, lc0, mc0, z0, s0, g0⟩ := open_seg (enc := Fl.encI .i64) (Good := fun x => (Lit.int .i64 x).wf = true) (k := 1) Try.underlying22 (by kernel_rfl) (by decide) (fun _ => rfl) (fun f cs z h1 h2 => dec_int Try.underlying3 f cs z h1 h2) ho0 hs0
  obtain ⟨fu1, hf1⟩ := h1
  obtain ⟨c1, cl1, cc1, rfl⟩ := okWide_slice Try.underlying22 (hval 1 22 v1 rfl rfl)
  have hs1 : DataW.trod enc Try.prog W 0 (fun _ => true) true fu1 22 [.slice c1 cl1 cc1] = _ := hf1
  have ho1 := okWide_top Try.underlying22 (hval 1 22 _ rfl rfl)
  generalize hg1 : Value.slice c1 cl1 cc1 = vv1 at *
  obtain ⟨b1, o1, _, m1, x1, rfl, rfl, lc1, mc1, z1, s1, g1⟩ := open_seg (enc := Fl.encI .i64) (Good := fun x => (Lit.int .i64 x).wf = true) (k := 1) Try.underlying22 (by kernel_rfl) (by decide) (fun _ => rfl) (fun f cs z h1 h2 => dec_int Try.underlying3 f cs z h1 h2) ho1 hs1
  obtain ⟨a2, rfl, rfl, rfl, w2⟩ := open_int Try.underlying3 (hval 2 3 v2 rfl rfl) h2
  clear hA0 hval0 hsz0 hval
  have hpre : Fl.PreOk W (([seg b0 o0 (x0.flatMap (Fl.encI .i64)), seg b1 o1 (x1.flatMap (Fl.encI .i64))] : List Fl.Ro).map fun g => some (Fl.Res.ro g)) := preOk_ro (by simp only [List.forall_mem_cons, List.not_mem_nil, false_imp_iff, implies_true, and_true]; exact ⟨s0, s1⟩)
  refine (Fl.law_QueueOrder b0 o0 m0 x0 b1 o1 m1 x1 a2 lc0 lc1 W hpre).mono fun e W' ⟨_, he, _, how⟩ => ?_
  subst he
  have bel : Below W.heap.size W W' := below_of how.below (by exact exFp_ro (gs := [seg b0 o0 (x0.flatMap (Fl.encI .i64)), seg b1 o1 (x1.flatMap (Fl.encI .i64))]))
  exact ⟨_, rfl, _, _, _, [], _, [], hW', trodAll_mk1 (shut_bool Try.underlying4 _), hstay W' bel, rfl, bel.frame _, fun h => by cases h⟩
theorem over : Rows.queueOrderRow.holds Try.pinned (OpenSpec.ofChange Rows.queueOrderSpec) :=
  OpenClaim.holds_of_wide 5 Try.f5 rfl rfl rfl rfl rfl rfl rfl ⟨rfl, rfl, rfl, rfl, rfl⟩ rfl rfl rfl rfl rfl (by kernel_rfl) Try.func5 (by kernel_rfl)
    (of_decide_eq_true (by kernel_rfl)) (by unfold Func.isWrapper; first | (rw [if_pos (by decide +kernel)]; kernel_rfl) | (rw [if_neg (by decide +kernel)]; exact ⟨rfl, rfl⟩))
    (fun os started H enc _ => lifted os started H enc)
end Go.Proofs.Ytemfcbgmgfcjeaa.RowsOf.queueOrder
namespace Go.Proofs.Ytemfcbgmgfcjeaa
/-- The row. -/
theorem queueOrder_holds : Rows.QueueOrderSaid := RowsOf.queueOrder.over
#print axioms queueOrder_holds
end Go.Proofs.Ytemfcbgmgfcjeaa
