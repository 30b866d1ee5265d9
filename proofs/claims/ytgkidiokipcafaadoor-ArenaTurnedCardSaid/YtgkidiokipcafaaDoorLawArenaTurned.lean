/- ArenaTurned: for every input the law returns true, and each argument reads behind the call as it read before. -/
import Derived.Test.YtgkidiokipcafaaDoorOpen
import Derived.Test.YtgkidiokipcafaaDoorArenaLaws
import Derived.Test.YtgkidiokipcafaaDoorCards
import Derived.Test.YtgkidiokipcafaaDoorTie
import Derived.LaidMore
import Derived.SevenTiedAt
import Derived.MakeChecks
set_option linter.unusedVariables false
set_option linter.unusedSimpArgs false
namespace Go.Proofs.YtgkidiokipcafaaDoor.RowsOf.arenaTurned
open Go.ChangeShapes Go.WideShapes Go.ChangeAt Go.RowKit Go.Joins
open Go.ChangeMaps (open_string shut_string)
open Go.Proofs.YtgkidiokipcafaaDoor.Fl (sb seg)
theorem door_met (os : Os) (args : Array Value) : laidMetH Tryd.prog [("flotsam/class.words", Rows.laid_flotsam_class_words)] ((World.doorLaid Tryd.prog 19 os).forCall (fun _ _ => 0) ⟨#[], args, []⟩).memory :=
  laidMetH_of_parts3 (fuel := 8) (laidMet_of_run' 8 (by kernel_rfl) (by kernel_rfl)) (by kernel_rfl) (by kernel_rfl)
theorem of_laid0 {W : World} (h : laidMetH Tryd.prog [("flotsam/class.words", Rows.laid_flotsam_class_words)] W) : Fl.G.ok W := by
  rw [MakeChecks.laidMetH_plain _ _ _ (by kernel_rfl)] at h
  have hT := Lib.tabIs_of_head (k := .i64) (zs := [2, 4, 8, 16]) (show Tryd.prog.globalNamed "flotsam/class.words" = some 0 by kernel_rfl) (show (Tryd.prog.globals[0]?).map (·.type) = some 68 by kernel_rfl) Tryd.underlying68 Tryd.underlying3 (by kernel_rfl) (by kernel_rfl) h
  refine seg_of_cells fun i hi => ?_
  rw [Nat.zero_add]
  exact (hT.cell (show Tryd.prog.globalNamed "flotsam/class.words" = some 0 by kernel_rfl) i hi).trans (flat_getD (zs := [2, 4, 8, 16]) hi)
set_option maxRecDepth 100000 in
theorem lifted (os : Os) (started : os.Started) (H : Type) (enc : TypeId × Value → H) :
    ReturnsInHanded {} Tryd.checked os 8 .any (fun w args => (Rows.arenaTurnedSpec.pre enc Tryd.prog Tryd.f8 [] false w args ∧ laidMetH Tryd.prog [("flotsam/class.words", Rows.laid_flotsam_class_words)] w) ∧ sizedMet enc Tryd.prog Tryd.f8 (OpenSpec.ofChange Rows.arenaTurnedSpec) false w args) (Rows.arenaTurnedSpec.post enc Tryd.prog Tryd.f8 false true false false) := by
  refine returnsInHanded_of_change_and (C := Tryd.checked) (X := fun w _ => laidMetH Tryd.prog [("flotsam/class.words", Rows.laid_flotsam_class_words)] w) (fun _ _ _ hh h => h.of_heap hh) own started (by kernel_rfl) Tryd.func8
    (ChangeSpec.witness_shaped (enc := enc) (C := Tryd.checked) (os := os) (X := fun w _ => laidMetH Tryd.prog [("flotsam/class.words", Rows.laid_flotsam_class_words)] w) false (World.doorLaid Tryd.prog 19 os) #[.slice none 0 0, .int .u16 0, .int .u16 0, .int .u64 0, .int .u64 0] 8 rfl (World.shaped_of_RefB (by kernel_rfl) (by kernel_rfl)) (by kernel_rfl) (by kernel_rfl) (by kernel_rfl) (door_met os _)) ?_
  intro W base args ds gs before hval0 hW hcnd hsz0 hL _
  have hG0 := of_laid0 hL
  have hval : ∀ (j : Nat) t v, Tryd.f8.params[j]? = some t → args[j]? = some v → Value.okWide Tryd.prog W .any base t v := hval0
  have hW' := hW
  obtain ⟨p, q, hA0, hV, rfl, hfz, hnd⟩ := hW
  have hA : DataW.TrodAll enc Tryd.prog W 0 (fun _ => true) true Tryd.f8.params.toList args.toList ds p := hA0
  rw [Tryd.params8] at hA hval
  obtain ⟨rfl, rfl⟩ := trodVars_none hV
  have hlt : ∀ x ∈ p, x.block < W.heap.size := fun x hx => by simpa using hW'.lt x (by simpa using hx)
  have hstay := fun (W' : World) (hb : Below W.heap.size W W') => trodAll_stays laidOut hb hA (by kernel_rfl) hlt
  obtain ⟨v0, vs0, d0, ds0, p0, q0, hargs, rfl, rfl, h0, r0⟩ := trodAll_cons hA
  obtain ⟨v1, vs1, d1, ds1, p1, q1, rfl, rfl, rfl, h1, r1⟩ := trodAll_cons r0
  obtain ⟨v2, vs2, d2, ds2, p2, q2, rfl, rfl, rfl, h2, r2⟩ := trodAll_cons r1
  obtain ⟨v3, vs3, d3, ds3, p3, q3, rfl, rfl, rfl, h3, r3⟩ := trodAll_cons r2
  obtain ⟨v4, vs4, d4, ds4, p4, q4, rfl, rfl, rfl, h4, r4⟩ := trodAll_cons r3
  obtain ⟨rfl, rfl, rfl⟩ := trodAll_nil r4
  obtain rfl : args = #[v0, v1, v2, v3, v4] := by cases args; simp_all
  obtain ⟨fu0, hf0⟩ := h0
  obtain ⟨c0, cl0, cc0, rfl⟩ := okWide_slice Tryd.underlying23 (hval 0 23 v0 rfl rfl)
  have hs0 : DataW.trod enc Tryd.prog W 0 (fun _ => true) true fu0 23 [.slice c0 cl0 cc0] = _ := hf0
  have ho0 := okWide_top Tryd.underlying23 (hval 0 23 _ rfl rfl)
  generalize hg0 : Value.slice c0 cl0 cc0 = vv0 at *
  obtain ⟨b0, o0, _, m0, x0, rfl, rfl, lc0, mc0, z0, s0, g0⟩ := open_seg (enc := Fl.encI .u64) (Good := fun x => (Lit.int .u64 x).wf = true) (k := 1) Tryd.underlying23 (by kernel_rfl) (by decide) (fun _ => rfl) (fun f cs z h1 h2 => dec_int Tryd.underlying27 f cs z h1 h2) ho0 hs0
  obtain ⟨a1, rfl, rfl, rfl, w1⟩ := open_int Tryd.underlying40 (hval 1 40 v1 rfl rfl) h1
  obtain ⟨a2, rfl, rfl, rfl, w2⟩ := open_int Tryd.underlying40 (hval 2 40 v2 rfl rfl) h2
  obtain ⟨a3, rfl, rfl, rfl, w3⟩ := open_int Tryd.underlying27 (hval 3 27 v3 rfl rfl) h3
  obtain ⟨a4, rfl, rfl, rfl, w4⟩ := open_int Tryd.underlying27 (hval 4 27 v4 rfl rfl) h4
  clear hA0 hval0 hsz0 hval
  have hpre : Fl.PreOk W (([Fl.G, seg b0 o0 (x0.flatMap (Fl.encI .u64))] : List Fl.Ro).map fun g => some (Fl.Res.ro g)) := preOk_ro (by simp only [List.forall_mem_cons, List.not_mem_nil, false_imp_iff, implies_true, and_true]; exact ⟨hG0, s0⟩)
  refine (Fl.law_ArenaTurned b0 o0 m0 x0 a1 a2 a3 a4 (Fl.wf_u16 w1) (Fl.wf_u16 w2) W hpre).mono fun e W' ⟨_, he, _, how⟩ => ?_
  subst he
  have bel : Below W.heap.size W W' := below_of how.below (by exact exFp_ro (gs := [Fl.G, seg b0 o0 (x0.flatMap (Fl.encI .u64))]))
  exact ⟨_, rfl, _, _, _, [], _, [], hW', trodAll_mk1 (shut_bool Tryd.underlying4 _), hstay W' bel, rfl, bel.frame _, fun h => by cases h⟩
theorem over : Rows.arenaTurnedRow.holds Tryd.pinned (OpenSpec.ofChange Rows.arenaTurnedSpec) :=
  OpenClaim.holds_of_wide 8 Tryd.f8 rfl rfl rfl rfl rfl rfl rfl ⟨rfl, rfl, rfl, rfl, rfl⟩ rfl rfl rfl rfl rfl (by kernel_rfl) Tryd.func8 (by kernel_rfl)
    (of_decide_eq_true (by kernel_rfl)) (by unfold Func.isWrapper; first | (rw [if_pos (by decide +kernel)]; kernel_rfl) | (rw [if_neg (by decide +kernel)]; exact ⟨rfl, rfl⟩))
    (fun os started H enc _ => lifted os started H enc)
end Go.Proofs.YtgkidiokipcafaaDoor.RowsOf.arenaTurned
namespace Go.Proofs.YtgkidiokipcafaaDoor
/-- The tied card: the law's row, its listed variables tied to the program's text. -/
theorem arenaTurned_holds : Rows.ArenaTurnedCardSaid :=
  Claim7.holds_tied_plain_at .later [] [.data] true (true, "8ac78f60ca734d83840b904d7c3fbdf962440b627584ee5839c9f5986008a1f9") false
    RowsOf.arenaTurned.over (fun _ h => by cases h) (by kernel_rfl) (fun _ h => by cases h) arenaTurned_row_tie rfl ⟨rfl, rfl⟩ (by kernel_rfl) rfl
    (fun f fn hf hfn => by
      obtain rfl : f = 8 := Option.some.inj ((show Tryd.prog.funcNamed "flotsam/flotsamlaw05.ArenaTurned" = some 8 by kernel_rfl).symm.trans hf) |>.symm
      obtain rfl : fn = Tryd.f8 := (Option.some.inj (Tryd.func8.symm.trans hfn)).symm
      exact ⟨by kernel_rfl, fun j t ht => by
        have hall : (Tryd.f8.params.toList.all fun t => !Tryd.prog.wantsStandIn t) = true := by kernel_rfl
        have hm := List.all_eq_true.1 hall t (by simpa using Array.mem_of_getElem? ht)
        show Tryd.prog.wantsStandIn t = false
        simpa using hm⟩)
    (by kernel_rfl)
#print axioms arenaTurned_holds
end Go.Proofs.YtgkidiokipcafaaDoor
