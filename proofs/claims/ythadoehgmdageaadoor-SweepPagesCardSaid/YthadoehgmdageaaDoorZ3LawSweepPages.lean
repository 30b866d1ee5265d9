/- SweepPages: for every input the law returns true, and each argument reads behind the call as it read before. -/
import Derived.Test.YthadoehgmdageaaDoorZ3Open
import Derived.Test.YthadoehgmdageaaDoorZ3SwSweepPages
import Derived.Test.YthadoehgmdageaaDoorZ3Open4
import Derived.Test.YthadoehgmdageaaDoorCards
import Derived.Test.YthadoehgmdageaaDoorTie
import Derived.LaidMore
import Derived.SevenTiedAt
import Derived.MakeChecks
set_option linter.unusedVariables false
set_option linter.unusedSimpArgs false
namespace Go.Proofs.YthadoehgmdageaaDoor.RowsOf.sweepPages
open Go.ChangeShapes Go.WideShapes Go.ChangeAt Go.RowKit Go.Joins
open Go.ChangeMaps (open_string shut_string)
open Go.Proofs.YthadoehgmdageaaDoor.Fl (sb seg)
theorem door_met (os : Os) (args : Array Value) : laidMetH Tryd.prog [("flotsam/class.words", Rows.laid_flotsam_class_words)] ((World.doorLaid Tryd.prog 14 os).forCall (fun _ _ => 0) ⟨#[], args, []⟩).memory :=
  laidMetH_of_parts3 (fuel := 8) (laidMet_of_run' 8 (by kernel_rfl) (by kernel_rfl)) (by kernel_rfl) (by kernel_rfl)
theorem of_laid0 {W : World} (h : laidMetH Tryd.prog [("flotsam/class.words", Rows.laid_flotsam_class_words)] W) : Fl.G.ok W := by
  rw [MakeChecks.laidMetH_plain _ _ _ (by kernel_rfl)] at h
  have hT := Lib.tabIs_of_head (k := .i64) (zs := [2, 4, 8, 16]) (show Tryd.prog.globalNamed "flotsam/class.words" = some 0 by kernel_rfl) (show (Tryd.prog.globals[0]?).map (·.type) = some 62 by kernel_rfl) Tryd.underlying62 Tryd.underlying3 (by kernel_rfl) (by kernel_rfl) h
  refine seg_of_cells fun i hi => ?_
  rw [Nat.zero_add]
  exact (hT.cell (show Tryd.prog.globalNamed "flotsam/class.words" = some 0 by kernel_rfl) i hi).trans (flat_getD (zs := [2, 4, 8, 16]) hi)
set_option maxRecDepth 100000 in
theorem lifted (os : Os) (started : os.Started) (H : Type) (enc : TypeId × Value → H) :
    ReturnsInHanded {} Tryd.checked os 10 .any (fun w args => (Rows.sweepPagesSpec.pre enc Tryd.prog Tryd.f10 [] false w args ∧ laidMetH Tryd.prog [("flotsam/class.words", Rows.laid_flotsam_class_words)] w) ∧ sizedMet enc Tryd.prog Tryd.f10 (OpenSpec.ofChange Rows.sweepPagesSpec) false w args) (Rows.sweepPagesSpec.post enc Tryd.prog Tryd.f10 false true false false) := by
  refine returnsInHanded_of_change_and (C := Tryd.checked) (X := fun w _ => laidMetH Tryd.prog [("flotsam/class.words", Rows.laid_flotsam_class_words)] w) (fun _ _ _ hh h => h.of_heap hh) own started (by kernel_rfl) Tryd.func10
    (ChangeSpec.witness_shaped (enc := enc) (C := Tryd.checked) (os := os) (X := fun w _ => laidMetH Tryd.prog [("flotsam/class.words", Rows.laid_flotsam_class_words)] w) false (World.doorLaid Tryd.prog 14 os) #[.agg #[.slice none 0 0, .slice none 0 0, .bool false], .slice none 0 0] 8 rfl (World.shaped_of_RefB (by kernel_rfl) (by kernel_rfl)) (by kernel_rfl) (by kernel_rfl) (by kernel_rfl) (door_met os _)) ?_
  intro W base args ds gs before hval0 hW hcnd hsz0 hL _
  have hG0 := of_laid0 hL
  have hval : ∀ (j : Nat) t v, Tryd.f10.params[j]? = some t → args[j]? = some v → Value.okWide Tryd.prog W .any base t v := hval0
  have hW' := hW
  obtain ⟨p, q, hA0, hV, rfl, hfz, hnd⟩ := hW
  have hA : DataW.TrodAll enc Tryd.prog W 0 (fun _ => true) true Tryd.f10.params.toList args.toList ds p := hA0
  rw [Tryd.params10] at hA hval
  obtain ⟨rfl, rfl⟩ := trodVars_none hV
  have hlt : ∀ x ∈ p, x.block < W.heap.size := fun x hx => by simpa using hW'.lt x (by simpa using hx)
  have hstay := fun (W' : World) (hb : Below W.heap.size W W') => trodAll_stays laidOut hb hA (by kernel_rfl) hlt
  obtain ⟨v0, vs0, d0, ds0, p0, q0, hargs, rfl, rfl, h0, r0⟩ := trodAll_cons hA
  obtain ⟨v1, vs1, d1, ds1, p1, q1, rfl, rfl, rfl, h1, r1⟩ := trodAll_cons r0
  obtain ⟨rfl, rfl, rfl⟩ := trodAll_nil r1
  obtain rfl : args = #[v0, v1] := by cases args; simp_all
  have hv0 := (hval 0 25 v0 rfl rfl)
  obtain ⟨c0_0, c0_1, c0_2, y0_0, y0_1, y0_2, n0, rfl, rfl, rfl, t0_0, t0_1, t0_2⟩ := open_agg3 Tryd.underlying25 (by kernel_rfl) (show Tryd.prog.cellsOf 25 = 3 by kernel_rfl) hv0 h0
  have k0_0 := okWide_cell (i := 0) (ts := #[22, 23, 4]) Tryd.underlying25 hv0 (by kernel_rfl) rfl rfl
  have k0_1 := okWide_cell (i := 1) (ts := #[22, 23, 4]) Tryd.underlying25 hv0 (by kernel_rfl) rfl rfl
  obtain ⟨b0_0, o0_0, _, m0_0, x0_0, rfl, rfl, lc0_0, mc0_0, z0_0, s0_0, g0_0⟩ := open_seg (enc := Fl.encI .u64) (Good := fun x => (Lit.int .u64 x).wf = true) (k := 1) Tryd.underlying22 (by kernel_rfl) (by decide) (fun _ => rfl) (fun f cs z h1 h2 => dec_int Tryd.underlying41 f cs z h1 h2) k0_0 t0_0
  obtain ⟨b0_1, o0_1, _, m0_1, x0_1, rfl, rfl, lc0_1, mc0_1, z0_1, s0_1, g0_1⟩ := open_seg (enc := Fl.encIIW) (Good := fun x => (Lit.int .u32 x.2.2).wf = true) (k := 3) Tryd.underlying23 (by kernel_rfl) (by decide) (fun _ => rfl) (fun f cs z h1 h2 => dec_IIW Tryd.underlying39 rfl rfl rfl (by kernel_rfl) (by kernel_rfl) (by kernel_rfl) Tryd.underlying3 Tryd.underlying3 Tryd.underlying37 f cs z h1 h2) k0_1 t0_1
  obtain ⟨a0_2, rfl⟩ := cell_bool Tryd.underlying4 t0_2
  obtain ⟨fu1, hf1⟩ := h1
  obtain ⟨c1, cl1, cc1, rfl⟩ := okWide_slice Tryd.underlying53 (hval 1 53 v1 rfl rfl)
  have hs1 : DataW.trod enc Tryd.prog W 0 (fun _ => true) true fu1 53 [.slice c1 cl1 cc1] = _ := hf1
  have ho1 := okWide_top Tryd.underlying53 (hval 1 53 _ rfl rfl)
  generalize hg1 : Value.slice c1 cl1 cc1 = vv1 at *
  obtain ⟨b1, o1, _, m1, x1, rfl, rfl, lc1, mc1, z1, s1, g1⟩ := open_seg (enc := Fl.encIIII) (Good := fun _ => True) (k := 4) Tryd.underlying53 (by kernel_rfl) (by decide) (fun _ => rfl) (fun f cs z h1 h2 => dec_IIII Tryd.underlying62 (by kernel_rfl) Tryd.underlying3 f cs z h1 h2) ho1 hs1
  clear hA0 hval0 hsz0 hval
  have hpre : Fl.PreOk W (([Fl.G, seg b0_0 o0_0 (x0_0.flatMap (Fl.encI .u64)), seg b0_1 o0_1 (x0_1.flatMap (Fl.encIIW)), seg b1 o1 (x1.flatMap (Fl.encIIII))] : List Fl.Ro).map fun g => some (Fl.Res.ro g)) := preOk_ro (by simp only [List.forall_mem_cons, List.not_mem_nil, false_imp_iff, implies_true, and_true]; exact ⟨hG0, s0_0, s0_1, s1⟩)
  refine (Fl.law_SweepPages b0_0 o0_0 m0_0 x0_0 b0_1 o0_1 m0_1 x0_1 a0_2 b1 o1 m1 x1 (fun x hx => Fl.wf_u64 (g0_0 x hx)) (fun x hx => Fl.wf_u32 (g0_1 x hx)) lc0_0 lc0_1 (big_len lc0_0 mc0_0) (big_len lc0_1 mc0_1) (big_len lc1 mc1) W hpre).mono fun e W' ⟨_, he, _, how⟩ => ?_
  subst he
  have bel : Below W.heap.size W W' := below_of how.below (by exact exFp_ro (gs := [Fl.G, seg b0_0 o0_0 (x0_0.flatMap (Fl.encI .u64)), seg b0_1 o0_1 (x0_1.flatMap (Fl.encIIW)), seg b1 o1 (x1.flatMap (Fl.encIIII))]))
  exact ⟨_, rfl, _, _, _, [], _, [], hW', trodAll_mk1 (shut_bool Tryd.underlying4 _), hstay W' bel, rfl, bel.frame _, fun h => by cases h⟩
theorem over : Rows.sweepPagesRow.holds Tryd.pinned (OpenSpec.ofChange Rows.sweepPagesSpec) :=
  OpenClaim.holds_of_wide 10 Tryd.f10 rfl rfl rfl rfl rfl rfl rfl ⟨rfl, rfl, rfl, rfl, rfl⟩ rfl rfl rfl rfl rfl (by kernel_rfl) Tryd.func10 (by kernel_rfl)
    (of_decide_eq_true (by kernel_rfl)) (by unfold Func.isWrapper; first | (rw [if_pos (by decide +kernel)]; kernel_rfl) | (rw [if_neg (by decide +kernel)]; exact ⟨rfl, rfl⟩))
    (fun os started H enc _ => lifted os started H enc)
end Go.Proofs.YthadoehgmdageaaDoor.RowsOf.sweepPages
namespace Go.Proofs.YthadoehgmdageaaDoor
/-- The tied card: the law's row, its listed variables tied to the program's text. -/
theorem sweepPages_holds : Rows.SweepPagesCardSaid :=
  Claim7.holds_tied_plain_at .later [] [.data] true (true, "b71d9c27a41e6640cf01659349255da73907b3ecb65240ac5ab6ea3772b16fe8") false
    RowsOf.sweepPages.over (fun _ h => by cases h) (by kernel_rfl) (fun _ h => by cases h) sweepPages_row_tie rfl ⟨rfl, rfl⟩ (by kernel_rfl) rfl
    (fun f fn hf hfn => by
      obtain rfl : f = 10 := Option.some.inj ((show Tryd.prog.funcNamed "flotsam/flotsamlaw12.SweepPages" = some 10 by kernel_rfl).symm.trans hf) |>.symm
      obtain rfl : fn = Tryd.f10 := (Option.some.inj (Tryd.func10.symm.trans hfn)).symm
      exact ⟨by kernel_rfl, fun j t ht => by
        have hall : (Tryd.f10.params.toList.all fun t => !Tryd.prog.wantsStandIn t) = true := by kernel_rfl
        have hm := List.all_eq_true.1 hall t (by simpa using Array.mem_of_getElem? ht)
        show Tryd.prog.wantsStandIn t = false
        simpa using hm⟩)
    (by kernel_rfl)
#print axioms sweepPages_holds
end Go.Proofs.YthadoehgmdageaaDoor
