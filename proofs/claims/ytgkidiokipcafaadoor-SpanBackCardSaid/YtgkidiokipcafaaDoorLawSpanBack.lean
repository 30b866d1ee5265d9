/- SpanBack: for every input the law returns true, and each argument reads behind the call as it read before. -/
import Derived.Test.YtgkidiokipcafaaDoorOpen
import Derived.Test.YtgkidiokipcafaaDoorSpanLaws
import Derived.Test.YtgkidiokipcafaaDoorCards
import Derived.Test.YtgkidiokipcafaaDoorTie
import Derived.LaidMore
import Derived.SevenTiedAt
import Derived.MakeChecks
set_option linter.unusedVariables false
set_option linter.unusedSimpArgs false
namespace Go.Proofs.YtgkidiokipcafaaDoor.RowsOf.spanBack
open Go.ChangeShapes Go.WideShapes Go.ChangeAt Go.RowKit Go.Joins
open Go.ChangeMaps (open_string shut_string)
open Go.Proofs.YtgkidiokipcafaaDoor.Fl (sb seg)
theorem door_met (os : Os) (args : Array Value) : laidMetH Tryd.prog [("flotsam/class.words", Rows.laid_flotsam_class_words), ("math/bits.deBruijn32tab", Rows.laid_math_bits_deBruijn32tab)] ((World.doorLaid Tryd.prog 19 os).forCall (fun _ _ => 0) ⟨#[], args, []⟩).memory :=
  laidMetH_of_parts3 (fuel := 8) (laidMet_of_run' 8 (by kernel_rfl) (by kernel_rfl)) (by kernel_rfl) (by kernel_rfl)
theorem of_laid0 {W : World} (h : laidMetH Tryd.prog [("flotsam/class.words", Rows.laid_flotsam_class_words), ("math/bits.deBruijn32tab", Rows.laid_math_bits_deBruijn32tab)] W) : Fl.G.ok W := by
  rw [MakeChecks.laidMetH_plain _ _ _ (by kernel_rfl)] at h
  have hT := Lib.tabIs_of_head (k := .i64) (zs := [2, 4, 8, 16]) (show Tryd.prog.globalNamed "flotsam/class.words" = some 0 by kernel_rfl) (show (Tryd.prog.globals[0]?).map (·.type) = some 68 by kernel_rfl) Tryd.underlying68 Tryd.underlying3 (by kernel_rfl) (by kernel_rfl) h
  refine seg_of_cells fun i hi => ?_
  rw [Nat.zero_add]
  exact (hT.cell (show Tryd.prog.globalNamed "flotsam/class.words" = some 0 by kernel_rfl) i hi).trans (flat_getD (zs := [2, 4, 8, 16]) hi)
theorem of_laid1 {W : World} (h : laidMetH Tryd.prog [("flotsam/class.words", Rows.laid_flotsam_class_words), ("math/bits.deBruijn32tab", Rows.laid_math_bits_deBruijn32tab)] W) : Fl.GB.ok W := by
  rw [MakeChecks.laidMetH_plain _ _ _ (by kernel_rfl)] at h
  have h := laidMet_tail h
  have hT := Lib.tabIs_of_head (k := .u8) (zs := [0, 1, 28, 2, 29, 14, 24, 3, 30, 22, 20, 15, 25, 17, 4, 8, 31, 27, 13, 23, 21, 19, 16, 7, 26, 12, 18, 6, 11, 5, 10, 9]) (show Tryd.prog.globalNamed "math/bits.deBruijn32tab" = some 1 by kernel_rfl) (show (Tryd.prog.globals[1]?).map (·.type) = some 70 by kernel_rfl) Tryd.underlying70 Tryd.underlying5 (by kernel_rfl) (by kernel_rfl) h
  refine seg_of_cells fun i hi => ?_
  rw [Nat.zero_add]
  exact (hT.cell (show Tryd.prog.globalNamed "math/bits.deBruijn32tab" = some 1 by kernel_rfl) i hi).trans (flat_getD (zs := [0, 1, 28, 2, 29, 14, 24, 3, 30, 22, 20, 15, 25, 17, 4, 8, 31, 27, 13, 23, 21, 19, 16, 7, 26, 12, 18, 6, 11, 5, 10, 9]) hi)
set_option maxRecDepth 100000 in
theorem lifted (os : Os) (started : os.Started) (H : Type) (enc : TypeId × Value → H) :
    ReturnsInHanded {} Tryd.checked os 12 .any (fun w args => (Rows.spanBackSpec.pre enc Tryd.prog Tryd.f12 [] false w args ∧ laidMetH Tryd.prog [("flotsam/class.words", Rows.laid_flotsam_class_words), ("math/bits.deBruijn32tab", Rows.laid_math_bits_deBruijn32tab)] w) ∧ sizedMet enc Tryd.prog Tryd.f12 (OpenSpec.ofChange Rows.spanBackSpec) false w args) (Rows.spanBackSpec.post enc Tryd.prog Tryd.f12 false true false false) := by
  refine returnsInHanded_of_change_and (C := Tryd.checked) (X := fun w _ => laidMetH Tryd.prog [("flotsam/class.words", Rows.laid_flotsam_class_words), ("math/bits.deBruijn32tab", Rows.laid_math_bits_deBruijn32tab)] w) (fun _ _ _ hh h => h.of_heap hh) own started (by kernel_rfl) Tryd.func12
    (ChangeSpec.witness_shaped (enc := enc) (C := Tryd.checked) (os := os) (X := fun w _ => laidMetH Tryd.prog [("flotsam/class.words", Rows.laid_flotsam_class_words), ("math/bits.deBruijn32tab", Rows.laid_math_bits_deBruijn32tab)] w) false (World.doorLaid Tryd.prog 19 os) #[.agg #[.int .i64 0, .int .i64 0, .int .u32 0], .int .i64 0, .int .i64 0] 8 rfl (World.shaped_of_RefB (by kernel_rfl) (by kernel_rfl)) (by kernel_rfl) (by kernel_rfl) (by kernel_rfl) (door_met os _)) ?_
  intro W base args ds gs before hval0 hW hcnd hsz0 hL _
  have hG0 := of_laid0 hL
  have hG1 := of_laid1 hL
  have hval : ∀ (j : Nat) t v, Tryd.f12.params[j]? = some t → args[j]? = some v → Value.okWide Tryd.prog W .any base t v := hval0
  have hW' := hW
  obtain ⟨p, q, hA0, hV, rfl, hfz, hnd⟩ := hW
  have hA : DataW.TrodAll enc Tryd.prog W 0 (fun _ => true) true Tryd.f12.params.toList args.toList ds p := hA0
  rw [Tryd.params12] at hA hval
  obtain ⟨rfl, rfl⟩ := trodVars_none hV
  have hlt : ∀ x ∈ p, x.block < W.heap.size := fun x hx => by simpa using hW'.lt x (by simpa using hx)
  have hstay := fun (W' : World) (hb : Below W.heap.size W W') => trodAll_stays laidOut hb hA (by kernel_rfl) hlt
  obtain ⟨v0, vs0, d0, ds0, p0, q0, hargs, rfl, rfl, h0, r0⟩ := trodAll_cons hA
  obtain ⟨v1, vs1, d1, ds1, p1, q1, rfl, rfl, rfl, h1, r1⟩ := trodAll_cons r0
  obtain ⟨v2, vs2, d2, ds2, p2, q2, rfl, rfl, rfl, h2, r2⟩ := trodAll_cons r1
  obtain ⟨rfl, rfl, rfl⟩ := trodAll_nil r2
  obtain rfl : args = #[v0, v1, v2] := by cases args; simp_all
  have hv0 := (hval 0 46 v0 rfl rfl)
  obtain ⟨c0_0, c0_1, c0_2, y0_0, y0_1, y0_2, n0, rfl, rfl, rfl, t0_0, t0_1, t0_2⟩ := open_agg3 Tryd.underlying46 (by kernel_rfl) (show Tryd.prog.cellsOf 46 = 3 by kernel_rfl) hv0 h0
  obtain ⟨a0_0, rfl, w0_0⟩ := cell_int Tryd.underlying3 t0_0
  obtain ⟨a0_1, rfl, w0_1⟩ := cell_int Tryd.underlying3 t0_1
  obtain ⟨a0_2, rfl, w0_2⟩ := cell_int Tryd.underlying44 t0_2
  obtain ⟨a1, rfl, rfl, rfl, w1⟩ := open_int Tryd.underlying3 (hval 1 3 v1 rfl rfl) h1
  obtain ⟨a2, rfl, rfl, rfl, w2⟩ := open_int Tryd.underlying3 (hval 2 3 v2 rfl rfl) h2
  clear hA0 hval0 hsz0 hval
  have hpre : Fl.PreOk W (([Fl.G, Fl.GB] : List Fl.Ro).map fun g => some (Fl.Res.ro g)) := preOk_ro (by simp only [List.forall_mem_cons, List.not_mem_nil, false_imp_iff, implies_true, and_true]; exact ⟨hG0, hG1⟩)
  refine (Fl.law_SpanBack a0_0 a0_1 a0_2 a1 a2 (Fl.wf_u32 w0_2) W hpre).mono fun e W' ⟨_, he, _, how⟩ => ?_
  subst he
  have bel : Below W.heap.size W W' := below_of how.below (by exact exFp_ro (gs := [Fl.G, Fl.GB]))
  exact ⟨_, rfl, _, _, _, [], _, [], hW', trodAll_mk1 (shut_bool Tryd.underlying4 _), hstay W' bel, rfl, bel.frame _, fun h => by cases h⟩
theorem over : Rows.spanBackRow.holds Tryd.pinned (OpenSpec.ofChange Rows.spanBackSpec) :=
  OpenClaim.holds_of_wide 12 Tryd.f12 rfl rfl rfl rfl rfl rfl rfl ⟨rfl, rfl, rfl, rfl, rfl⟩ rfl rfl rfl rfl rfl (by kernel_rfl) Tryd.func12 (by kernel_rfl)
    (of_decide_eq_true (by kernel_rfl)) (by unfold Func.isWrapper; first | (rw [if_pos (by decide +kernel)]; kernel_rfl) | (rw [if_neg (by decide +kernel)]; exact ⟨rfl, rfl⟩))
    (fun os started H enc _ => lifted os started H enc)
end Go.Proofs.YtgkidiokipcafaaDoor.RowsOf.spanBack
namespace Go.Proofs.YtgkidiokipcafaaDoor
/-- The tied card: the law's row, its listed variables tied to the program's text. -/
theorem spanBack_holds : Rows.SpanBackCardSaid :=
  Claim7.holds_tied_plain_at .later [] [.data, .data] true (true, "8ac78f60ca734d83840b904d7c3fbdf962440b627584ee5839c9f5986008a1f9") false
    RowsOf.spanBack.over (fun _ h => by cases h) (by kernel_rfl) (fun _ h => by cases h) spanBack_row_tie rfl ⟨rfl, rfl⟩ (by kernel_rfl) rfl
    (fun f fn hf hfn => by
      obtain rfl : f = 12 := Option.some.inj ((show Tryd.prog.funcNamed "flotsam/flotsamlaw06.SpanBack" = some 12 by kernel_rfl).symm.trans hf) |>.symm
      obtain rfl : fn = Tryd.f12 := (Option.some.inj (Tryd.func12.symm.trans hfn)).symm
      exact ⟨by kernel_rfl, fun j t ht => by
        have hall : (Tryd.f12.params.toList.all fun t => !Tryd.prog.wantsStandIn t) = true := by kernel_rfl
        have hm := List.all_eq_true.1 hall t (by simpa using Array.mem_of_getElem? ht)
        show Tryd.prog.wantsStandIn t = false
        simpa using hm⟩)
    (by kernel_rfl)
#print axioms spanBack_holds
end Go.Proofs.YtgkidiokipcafaaDoor
