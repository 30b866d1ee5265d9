/- ReportCuts: for every input the law returns true, and each argument reads behind the call as it read before. -/
import Derived.Test.YtemfcbgmgfcjeaaDoorOpen
import Derived.Test.YtemfcbgmgfcjeaaDoorRpJ
import Derived.Test.YtemfcbgmgfcjeaaDoorRpR
import Derived.Test.YtemfcbgmgfcjeaaDoorOpen5
import Derived.Test.YtemfcbgmgfcjeaaDoorCards
import Derived.Test.YtemfcbgmgfcjeaaDoorTie
import Derived.LaidMore
import Derived.SevenTiedAt
import Derived.MakeChecks
set_option linter.unusedVariables false
set_option linter.unusedSimpArgs false
namespace Go.Proofs.YtemfcbgmgfcjeaaDoor.RowsOf.reportCuts
open Go.ChangeShapes Go.WideShapes Go.ChangeAt Go.RowKit Go.Joins
open Go.ChangeMaps (open_string shut_string)
open Go.Proofs.YtemfcbgmgfcjeaaDoor.Fl (sb seg)
theorem door_met (os : Os) (args : Array Value) : laidMetH Tryd.prog [("math/bits.deBruijn32tab", Rows.laid_math_bits_deBruijn32tab), ("math/bits.deBruijn64tab", Rows.laid_math_bits_deBruijn64tab), ("internal/strconv.uint64pow10", Rows.laid_internal_strconv_uint64pow10), ("unicode/utf8.acceptRanges", Rows.laid_unicode_utf8_acceptRanges), ("flotsam/report.names", Rows.laid_flotsam_report_names), ("unicode/utf8.first", Rows.laid_unicode_utf8_first)] ((Fl.lidW os).forCall (fun _ _ => 0) ⟨#[], args, []⟩).memory :=
  laidMetH_of_parts3 (fuel := 8) (laidMet_of_run' 8 (by kernel_rfl) (by kernel_rfl)) (by kernel_rfl) (by kernel_rfl)

set_option maxRecDepth 100000 in
theorem lifted (os : Os) (started : os.Started) (H : Type) (enc : TypeId × Value → H) :
    ReturnsInHanded {} Tryd.checked os 5 .any (fun w args => (Rows.reportCutsSpec.pre enc Tryd.prog Tryd.f5 [] false w args ∧ laidMetH Tryd.prog [("math/bits.deBruijn32tab", Rows.laid_math_bits_deBruijn32tab), ("math/bits.deBruijn64tab", Rows.laid_math_bits_deBruijn64tab), ("internal/strconv.uint64pow10", Rows.laid_internal_strconv_uint64pow10), ("unicode/utf8.acceptRanges", Rows.laid_unicode_utf8_acceptRanges), ("flotsam/report.names", Rows.laid_flotsam_report_names), ("unicode/utf8.first", Rows.laid_unicode_utf8_first)] w) ∧ sizedMet enc Tryd.prog Tryd.f5 (OpenSpec.ofChange Rows.reportCutsSpec) false w args) (Rows.reportCutsSpec.post enc Tryd.prog Tryd.f5 false true false false) := by
  refine Fl.handed_and_shaped (C := Tryd.checked) (X := fun w _ => laidMetH Tryd.prog [("math/bits.deBruijn32tab", Rows.laid_math_bits_deBruijn32tab), ("math/bits.deBruijn64tab", Rows.laid_math_bits_deBruijn64tab), ("internal/strconv.uint64pow10", Rows.laid_internal_strconv_uint64pow10), ("unicode/utf8.acceptRanges", Rows.laid_unicode_utf8_acceptRanges), ("flotsam/report.names", Rows.laid_flotsam_report_names), ("unicode/utf8.first", Rows.laid_unicode_utf8_first)] w) (fun _ _ _ hh h => h.of_heap hh) own started (by kernel_rfl) Tryd.func5
    (ChangeSpec.witness_shaped (enc := enc) (C := Tryd.checked) (os := os) (X := fun w _ => laidMetH Tryd.prog [("math/bits.deBruijn32tab", Rows.laid_math_bits_deBruijn32tab), ("math/bits.deBruijn64tab", Rows.laid_math_bits_deBruijn64tab), ("internal/strconv.uint64pow10", Rows.laid_internal_strconv_uint64pow10), ("unicode/utf8.acceptRanges", Rows.laid_unicode_utf8_acceptRanges), ("flotsam/report.names", Rows.laid_flotsam_report_names), ("unicode/utf8.first", Rows.laid_unicode_utf8_first)] w) false (Fl.lidW os) #[.slice none 0 0, .int .u16 0, .string ⟨#[]⟩] 8 rfl (World.shaped_of_RefB (by kernel_rfl) (by kernel_rfl)) (by kernel_rfl) (by kernel_rfl) (by kernel_rfl) (door_met os _)) ?_
  intro W base args ds gs before hval0 hW hcnd hsz0 hL hsh _
  have hG := Fl.of_laidG hL hsh
  have hval : ∀ (j : Nat) t v, Tryd.f5.params[j]? = some t → args[j]? = some v → Value.okWide Tryd.prog W .any base t v := hval0
  have hW' := hW
  obtain ⟨p, q, hA0, hV, rfl, hfz, hnd⟩ := hW
  have hA : DataW.TrodAll enc Tryd.prog W 0 (fun _ => true) true Tryd.f5.params.toList args.toList ds p := hA0
  rw [Tryd.params5] at hA hval
  obtain ⟨rfl, rfl⟩ := trodVars_none hV
  have hlt : ∀ x ∈ p, x.block < W.heap.size := fun x hx => by simpa using hW'.lt x (by simpa using hx)
  have hstay := fun (W' : World) (hb : Below W.heap.size W W') => trodAll_stays laidOut hb hA (by kernel_rfl) hlt
  obtain ⟨v0, vs0, d0, ds0, p0, q0, hargs, rfl, rfl, h0, r0⟩ := trodAll_cons hA
  obtain ⟨v1, vs1, d1, ds1, p1, q1, rfl, rfl, rfl, h1, r1⟩ := trodAll_cons r0
  obtain ⟨v2, vs2, d2, ds2, p2, q2, rfl, rfl, rfl, h2, r2⟩ := trodAll_cons r1
  obtain ⟨rfl, rfl, rfl⟩ := trodAll_nil r2
  obtain rfl : args = #[v0, v1, v2] := by cases args; simp_all
  obtain ⟨fu0, hf0⟩ := h0
  obtain ⟨c0, cl0, cc0, rfl⟩ := okWide_slice Tryd.underlying23 (hval 0 23 v0 rfl rfl)
  have hs0 : DataW.trod enc Tryd.prog W 0 (fun _ => true) true fu0 23 [.slice c0 cl0 cc0] = _ := hf0
  have ho0 := okWide_top Tryd.underlying23 (hval 0 23 _ rfl rfl)
  generalize hg0 : Value.slice c0 cl0 cc0 = vv0 at *
  obtain ⟨b0, o0, _, m0, x0, rfl, rfl, lc0, mc0, z0, s0, g0⟩ := open_seg (enc := Fl.encIIIII) (Good := fun _ => True) (k := 5) Tryd.underlying23 (by kernel_rfl) (by decide) (fun _ => rfl) (fun f cs z h1 h2 => dec_IIIII Tryd.underlying35 rfl rfl rfl rfl rfl (by kernel_rfl) (by kernel_rfl) (by kernel_rfl) (by kernel_rfl) (by kernel_rfl) Tryd.underlying3 Tryd.underlying3 Tryd.underlying3 Tryd.underlying3 Tryd.underlying3 f cs z h1 h2) ho0 hs0
  obtain ⟨a1, rfl, rfl, rfl, w1⟩ := open_int Tryd.underlying38 (hval 1 38 v1 rfl rfl) h1
  obtain ⟨a2, rfl, rfl, rfl, w2⟩ := open_string Tryd.underlying9 (hval 2 9 v2 rfl rfl) h2
  clear hA0 hval0 hsz0 hval
  have hpre : Fl.PreOk W (([Fl.G, seg b0 o0 (x0.flatMap (Fl.encIIIII))] : List Fl.Ro).map fun g => some (Fl.Res.ro g)) := preOk_ro (by simp only [List.forall_mem_cons, List.not_mem_nil, false_imp_iff, implies_true, and_true]; exact ⟨hG, s0⟩)
  refine (Fl.law_ReportCuts b0 o0 m0 x0 a1 a2.data.toList lc0 (big_len lc0 mc0) (Fl.wf_u16 w1) W hpre).mono fun e W' ⟨_, he, _, how⟩ => ?_
  subst he
  have bel : Below W.heap.size W W' := below_of how.below (by exact exFp_ro (gs := [Fl.G, seg b0 o0 (x0.flatMap (Fl.encIIIII))]))
  exact ⟨_, rfl, _, _, _, [], _, [], hW', trodAll_mk1 (shut_bool Tryd.underlying4 _), hstay W' bel, rfl, bel.frame _, fun h => by cases h⟩
theorem over : Rows.reportCutsRow.holds Tryd.pinned (OpenSpec.ofChange Rows.reportCutsSpec) :=
  OpenClaim.holds_of_wide 5 Tryd.f5 rfl rfl rfl rfl rfl rfl rfl ⟨rfl, rfl, rfl, rfl, rfl⟩ rfl rfl rfl rfl rfl (by kernel_rfl) Tryd.func5 (by kernel_rfl)
    (of_decide_eq_true (by kernel_rfl)) (by unfold Func.isWrapper; first | (rw [if_pos (by decide +kernel)]; kernel_rfl) | (rw [if_neg (by decide +kernel)]; exact ⟨rfl, rfl⟩))
    (fun os started H enc _ => lifted os started H enc)
end Go.Proofs.YtemfcbgmgfcjeaaDoor.RowsOf.reportCuts
namespace Go.Proofs.YtemfcbgmgfcjeaaDoor
/-- The tied card: the law's row, its listed variables tied to the program's text. -/
theorem reportCuts_holds : Rows.ReportCutsCardSaid :=
  Claim7.holds_tied_plain_at .later [] [.data, .data, .data, .data, .data, .pinned] true (true, "7cfccfaaf82e7e2e6364fd1543734e2387644d65a1c4c3fdd1bd9de240f6dc2e") false
    RowsOf.reportCuts.over (fun _ h => by cases h) (by kernel_rfl) (fun _ h => by cases h) reportCuts_row_tie rfl ⟨rfl, rfl⟩ (by kernel_rfl) rfl
    (fun f fn hf hfn => by
      obtain rfl : f = 5 := Option.some.inj ((show Tryd.prog.funcNamed "flotsam/flotsamlaw27.ReportCuts" = some 5 by kernel_rfl).symm.trans hf) |>.symm
      obtain rfl : fn = Tryd.f5 := (Option.some.inj (Tryd.func5.symm.trans hfn)).symm
      exact ⟨by kernel_rfl, fun j t ht => by
        have hall : (Tryd.f5.params.toList.all fun t => !Tryd.prog.wantsStandIn t) = true := by kernel_rfl
        have hm := List.all_eq_true.1 hall t (by simpa using Array.mem_of_getElem? ht)
        show Tryd.prog.wantsStandIn t = false
        simpa using hm⟩)
    (by kernel_rfl)
#print axioms reportCuts_holds
end Go.Proofs.YtemfcbgmgfcjeaaDoor
