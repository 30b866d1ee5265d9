/- What all rows of this seat share: arguments, read as data, are resources; they read behind the call as they read before. Plain lemmas; conditions: in each. -/
import Derived.Test.YtemfcbgmgfcjeaaDoorRows
import Derived.Test.YtemfcbgmgfcjeaaDoorMem
import Derived.Test.YtemfcbgmgfcjeaaDoorVec
import Derived.WalkKit
import Derived.ProofKit
import Derived.OpenShut
import Derived.ShutString
import Derived.ChangeOld
import Derived.Below
import Derived.SizedLaws
import Derived.Carry
import Derived.Lib.SmallJoins
import Derived.Lib.LaidTab
import Derived.Deep.Slices
import Derived.Deep.Strs
set_option linter.unusedVariables false
set_option linter.unusedSimpArgs false
namespace Go.Proofs.YtemfcbgmgfcjeaaDoor.RowsOf
open Go.ChangeShapes Go.WideShapes Go.ChangeAt Go.RowKit Go.Joins
open Go.Proofs.YtemfcbgmgfcjeaaDoor.Fl
theorem own : ownKnob Tryd.prog.godebug = none := by kernel_rfl
theorem laidOut : laidOutB Tryd.prog = true := by kernel_rfl
/-- The arguments' reading, in a world in which what was there is as it was. -/
theorem trodAll_stays {H : Type} {enc : TypeId × Value → H} {P : Program} (hl : laidOutB P = true) {W W' : World} (hb : Below W.heap.size W W') :
    ∀ {ts : List TypeId} {vs : List Value} {ds : List (DataW H)} {ps : List MemPlace}, DataW.TrodAll enc P W 0 (fun _ => true) true ts vs ds ps → (ts.all fun t => P.readableRec t && decide (t < P.types.size)) = true →
      (∀ x ∈ ps, x.block < W.heap.size) → DataW.TrodAll enc P W' 0 (fun b => decide (b < W.heap.size)) true ts vs ds ps
  | [], vs, ds, ps, h, _, _ => by obtain ⟨rfl, rfl, rfl⟩ := trodAll_nil h; exact trodAll_mk0
  | t :: ts, vs, ds, ps, h, hr, hlt => by
    obtain ⟨v, vs', d, ds', p, q, rfl, rfl, rfl, h0, h1⟩ := trodAll_cons h
    simp only [List.all_cons, Bool.and_eq_true, decide_eq_true_eq] at hr
    exact trodAll_cons_mk (Below.trod hl hr.1.1 hr.1.2 h0 hb fun x hx => hlt x (List.mem_append.2 (.inl hx))) (trodAll_stays hl hb h1 (by simpa using hr.2) fun x hx => hlt x (List.mem_append.2 (.inr hx)))
theorem cell_int {H : Type} {enc : TypeId × Value → H} {P : Program} {w : World} {base : Nat} {spare : Nat → Bool} {held : Bool} {n : Nat} {t : TypeId} {k : IntKind} {c : Value} {y : DataW H × List MemPlace} (ht : P.underlying t = some (.int k))
    (h : DataW.trod enc P w base spare held n t [c] = some y) : ∃ x, c = .int k x ∧ (Lit.int k x).wf = true := by
  obtain ⟨x, e, _, hw⟩ := DataW.trod_int ht h
  simp only [List.cons.injEq, and_true] at e
  exact ⟨x, e, hw⟩
theorem cell_bool {H : Type} {enc : TypeId × Value → H} {P : Program} {w : World} {base : Nat} {spare : Nat → Bool} {held : Bool} {n : Nat} {t : TypeId} {c : Value} {y : DataW H × List MemPlace} (ht : P.underlying t = some .bool)
    (h : DataW.trod enc P w base spare held n t [c] = some y) : ∃ b, c = .bool b := by
  obtain ⟨b, e, _⟩ := DataW.trod_bool ht h
  simp only [List.cons.injEq, and_true] at e
  exact ⟨b, e⟩
/-- A call that takes nothing of one's own writes nothing that was there. -/
theorem below_of {M : Nat → Prop} {w w' : World} (h : BelowX M w w') (hM : ∀ b, ¬ M b) : Below w.heap.size w w' := ⟨h.os, h.tape, h.output, h.size, fun k hk => h.block k hk (hM k)⟩
theorem exFp_ro {gs : List Ro} : ∀ b, ¬ exFp (gs.map fun g => some (.ro g)) b := by
  rintro b ⟨i, r, hi, he, _⟩
  rw [List.getElem?_map] at hi
  cases e : gs[i]? with
  | none => rw [e] at hi; cases hi
  | some g => rw [e] at hi; simp only [Option.map_some, Option.some.injEq] at hi; subst hi; cases he
theorem preOk_ro {w : World} {gs : List Ro} (h : ∀ g ∈ gs, g.ok w) : PreOk w (gs.map fun g => some (.ro g)) := by
  have get : ∀ (i : Nat) r, (gs.map fun g => some (Res.ro g))[i]? = some (some r) → ∃ g ∈ gs, r = .ro g := by
    intro i r hi
    rw [List.getElem?_map] at hi
    cases e : gs[i]? with
    | none => rw [e] at hi; cases hi
    | some g => rw [e] at hi; simp only [Option.map_some, Option.some.injEq] at hi; exact ⟨g, List.mem_of_getElem? e, hi.symm⟩
  refine ⟨fun i r hi => ?_, fun i j r s hi _ he => ?_⟩
  · obtain ⟨g, hg, rfl⟩ := get i r hi; exact h g hg
  · obtain ⟨g, _, rfl⟩ := get i r hi; cases he
theorem seg_of_cells {w : World} {b off : Nat} {cs : List Value} (h : ∀ i, i < cs.length → w.cell? ⟨b, off + i, none⟩ = cs[i]?) : (seg (b + 1) off cs).ok w := by
  intro hne
  have hl : 0 < cs.length := by cases cs with | nil => exact absurd rfl hne | cons _ _ => simp
  have h0 := h 0 hl
  unfold World.cell? at h0
  cases hb : w.heap[b]? with
  | none => rw [show w.heap[(⟨b, off + 0, none⟩ : Addr).block]? = none from hb] at h0; simp [List.getElem?_eq_getElem hl] at h0
  | some o =>
    rw [show w.heap[(⟨b, off + 0, none⟩ : Addr).block]? = some o from hb] at h0
    cases o with
    | cells c t fr =>
      refine ⟨b, c, t, fr, rfl, hb, fun i hi => ?_⟩
      have := h i hi
      unfold World.cell? at this
      rw [show w.heap[(⟨b, off + i, none⟩ : Addr).block]? = _ from hb] at this
      simpa using this
    | _ => simp [List.getElem?_eq_getElem hl] at h0
theorem list_choose {α : Type} {Q : Nat → α → Prop} : ∀ (n : Nat), (∀ i, i < n → ∃ x, Q i x) → ∃ xs : List α, xs.length = n ∧ ∀ i, i < n → ∃ x, xs[i]? = some x ∧ Q i x
  | 0, _ => ⟨[], rfl, fun i hi => absurd hi (Nat.not_lt_zero i)⟩
  | n + 1, h => by
    obtain ⟨xs, hl, hx⟩ := list_choose n fun i hi => h i (by omega)
    obtain ⟨x, hq⟩ := h n (by omega)
    refine ⟨xs ++ [x], by simp [hl], fun i hi => ?_⟩
    by_cases e : i < n
    · obtain ⟨y, hy, hq'⟩ := hx i e
      exact ⟨y, by rw [List.getElem?_append_left (by omega)]; exact hy, hq'⟩
    · obtain rfl : i = n := by omega
      exact ⟨x, by rw [List.getElem?_append_right (by omega)]; simp [hl], hq⟩
theorem flat_get {α : Type} {enc : α → List Value} {k : Nat} (hk : ∀ x, (enc x).length = k) : ∀ (xs : List α) (i r : Nat) (x : α), xs[i]? = some x → r < k → (xs.flatMap enc)[i * k + r]? = (enc x)[r]?
  | [], i, r, x, h, _ => by simp at h
  | a :: xs, i, r, x, h, hr => by
    cases i with
    | zero =>
      simp only [List.getElem?_cons_zero, Option.some.injEq] at h
      subst h
      rw [List.flatMap_cons, List.getElem?_append_left (by rw [hk]; omega)]
      congr 1; omega
    | succ i =>
      rw [List.flatMap_cons, List.getElem?_append_right (by rw [hk, Nat.succ_mul]; omega), hk]
      rw [show (i + 1) * k + r - k = i * k + r by rw [Nat.succ_mul]; omega]
      exact flat_get hk xs i r x (by simpa using h) hr
theorem flat_len {α : Type} {enc : α → List Value} {k : Nat} (hk : ∀ x, (enc x).length = k) (xs : List α) : (xs.flatMap enc).length = xs.length * k := by
  induction xs with
  | nil => simp
  | cons a xs ih => rw [List.flatMap_cons, List.length_append, hk, ih, List.length_cons, Nat.succ_mul]; omega
theorem cells_get {w : World} {base : Nat} {a : Addr} {n : Nat} {cs : List Value} (h : w.cells? base a n = some cs) : cs.length = n ∧ ∀ i, i < n → w.cell? (a.add i) = cs[i]? := by
  unfold World.cells? at h
  split at h
  · have hl := Lib.mapM_length h
    simp at hl
    refine ⟨hl, fun i hi => ?_⟩
    obtain ⟨b, hb, hf⟩ := Lib.mapM_at h i i (by simp [hi])
    rw [hf, hb]
  · cases h
/-- A slice, read as data, is a segment of what its elements read as. -/
theorem open_seg {H : Type} {encH : TypeId × Value → H} {P : Program} {W : World} {t e : TypeId} {v : Value} {n : Nat} {y : DataW H × List MemPlace} {r : Reach} {b0 : Nat} {α : Type} {enc : α → List Value} {Good : α → Prop} {k : Nat} (hu : P.underlying t = some (.slice e)) (hke : P.cellsOf e = k) (h0 : 0 < k)
    (hk : ∀ x, (enc x).length = k) (hdec : ∀ fuel cs z, cs.length = k → DataW.trod encH P W 0 (fun _ => true) true fuel e cs = some z → ∃ x, cs = enc x ∧ Good x)
    (hv : Cell.okWide P W r b0 t v) (h : DataW.trod encH P W 0 (fun _ => true) true n t [v] = some y) :
    ∃ (b off len cap : Nat) (xs : List α), v = .slice (sb b off) len cap ∧ xs.length = len ∧ len ≤ cap ∧ cap ≤ maxLen ∧ (b = 0 → cap = 0) ∧ (seg b off (xs.flatMap enc)).ok W ∧ ∀ x ∈ xs, Good x := by
  rcases Go.Deep.open_slice hu h with ⟨h1, _⟩ | ⟨a, len, cap, m, n', D, Pl, h1, _, hl, hc, hm, _, hel⟩
  · simp only [List.cons.injEq, and_true] at h1
    exact ⟨0, 0, 0, 0, [], h1, rfl, Nat.le_refl _, Nat.zero_le _, fun _ => rfl, fun hne => absurd rfl hne, by simp⟩
  · simp only [List.cons.injEq, and_true] at h1
    subst h1
    have hspot : a.spot = none := by
      unfold Cell.okWide at hv
      rw [hu] at hv
      simp only at hv
      unfold Cell.ok at hv
      rw [hu] at hv
      exact hv.2.2.2.1
    obtain ⟨b, off, sp⟩ := a
    simp only at hspot
    subst hspot
    have hm' : m = cap := by simpa using hm
    subst hm'
    obtain ⟨xs, hxl, hxs⟩ := list_choose (Q := fun i x => (∀ r, r < k → W.cell? ⟨b, off + (i * k + r), none⟩ = (enc x)[r]?) ∧ Good x) len fun i hi => by
      obtain ⟨cs', hcs, htr⟩ := hel i (by omega)
      obtain ⟨hcl, hcg⟩ := cells_get hcs
      obtain ⟨x, rfl, hg⟩ := hdec n' cs' _ (hcl.trans hke) htr
      refine ⟨x, fun r hr => ?_, hg⟩
      have := hcg r (by omega)
      rw [addr_add, addr_add, hke] at this
      rw [← this]; congr 2; omega
    refine ⟨b + 1, off, len, m, xs, rfl, hxl, hl, hc, fun h => by omega, seg_of_cells fun i hi => ?_, fun x hx => ?_⟩
    · rw [flat_len hk] at hi
      have hq : i / k < xs.length := Nat.div_lt_of_lt_mul (by rw [Nat.mul_comm]; exact hi)
      obtain ⟨x, hx, hc', _⟩ := hxs (i / k) (by omega)
      have hr := Nat.mod_lt i h0
      have e : i = i / k * k + i % k := by rw [Nat.mul_comm]; exact (Nat.div_add_mod i k).symm
      rw [e, flat_get hk xs _ _ x hx hr, ← hc' _ hr]
    · obtain ⟨i, hi⟩ := List.getElem?_of_mem hx
      have hlt := (List.getElem?_eq_some_iff.1 hi).1
      obtain ⟨x', hx', _, hg⟩ := hxs i (by omega)
      rw [hi] at hx'
      rw [Option.some.inj hx']; exact hg
theorem okWide_top {P : Program} {W : World} {r : Reach} {b0 : Nat} {t e : TypeId} {v : Value} (hu : P.underlying t = some (.slice e)) (hv : Value.okWide P W r b0 t v) : Cell.okWide P W r b0 t v := by
  unfold Value.okWide at hv
  rw [hu] at hv
  exact hv
theorem okWide_cell {P : Program} {W : World} {r : Reach} {b0 : Nat} {t u : TypeId} {fs : Array Field} {cs : Array Value} {ts : Array TypeId} {i : Nat} {v : Value} (hs : P.underlying t = some (.struct fs)) (hv : Value.okWide P W r b0 t (.agg cs))
    (hct : (P.cellTypes P.depth t).map (·.toArray) = some ts) (hi : cs[i]? = some v) (hu : ts[i]? = some u) : Cell.okWide P W r b0 u v := by
  unfold Value.okWide at hv
  rw [hs] at hv
  obtain ⟨cs', e, _, ts', hts, _, hc⟩ := hv
  obtain rfl := Value.agg.inj e
  rw [hts] at hct
  obtain ⟨u', hu', hok⟩ := hc i v hi
  simp only [Option.map_some, Option.some.injEq] at hct
  subst hct
  have hlt : i < ts'.length := by
    have := (Array.getElem?_eq_some_iff.1 hu).1
    simpa using this
  rw [Nat.mod_eq_of_lt hlt] at hu'
  simp only [List.getElem?_toArray] at hu
  rw [hu'] at hu
  rw [← Option.some.inj hu]; exact hok
theorem wf_u16 {n : Int} (h : (Lit.int .u16 n).wf = true) : 0 ≤ n ∧ n ≤ 65535 := by
  simpa [Lit.wf, IntKind.min, IntKind.max, IntKind.bits, IntKind.signed] using h
theorem big_len {n m : Nat} (h : n ≤ m) (h2 : m ≤ maxLen) : n ≤ 9223372036854775807 := Nat.le_trans h h2
theorem dec_int {H : Type} {encH : TypeId × Value → H} {P : Program} {W : World} {e : TypeId} {k : IntKind} (ht : P.underlying e = some (.int k)) (fuel : Nat) (cs : List Value) (z : DataW H × List MemPlace) (h1 : cs.length = 1)
    (h2 : DataW.trod encH P W 0 (fun _ => true) true fuel e cs = some z) : ∃ x, cs = encI k x ∧ (Lit.int k x).wf = true := by
  obtain ⟨c, rfl⟩ := List.length_eq_one_iff.1 h1
  obtain ⟨x, rfl, hw⟩ := cell_int ht h2
  exact ⟨x, rfl, hw⟩
theorem dec_II {H : Type} {encH : TypeId × Value → H} {P : Program} {W : World} {e : TypeId} {f0 f1 : Field} (hu : P.underlying e = some (.struct #[f0, f1])) (o0 : f0.offset = 0) (o1 : f1.offset = 1) (c0 : P.cellsOf f0.type = 1) (c1 : P.cellsOf f1.type = 1) (ha : P.underlying f0.type = some (.int .i64)) (hb : P.underlying f1.type = some (.int .i64))
    (fuel : Nat) (cs : List Value) (z : DataW H × List MemPlace) (h1 : cs.length = 2) (h2 : DataW.trod encH P W 0 (fun _ => true) true fuel e cs = some z) : ∃ x : Int × Int, cs = [.int .i64 x.1, .int .i64 x.2] ∧ True := by
  obtain ⟨y0, y1, n, _, _, g0, g1⟩ := trod_struct2 hu h2
  rw [o0, c0] at g0; rw [o1, c1] at g1
  match cs, h1 with
  | [p, q], _ =>
    obtain ⟨u, hu', _⟩ := cell_int (c := p) ha (by simpa using g0)
    obtain ⟨v, hv', _⟩ := cell_int (c := q) hb (by simpa using g1)
    exact ⟨(u, v), by rw [hu', hv'], trivial⟩
theorem dec_TI {H : Type} {encH : TypeId × Value → H} {P : Program} {W : World} {e : TypeId} {f0 f1 : Field} (hu : P.underlying e = some (.struct #[f0, f1])) (o0 : f0.offset = 0) (o1 : f1.offset = 1) (c0 : P.cellsOf f0.type = 1) (c1 : P.cellsOf f1.type = 1) (ha : P.underlying f0.type = some .bool) (hb : P.underlying f1.type = some (.int .i64))
    (fuel : Nat) (cs : List Value) (z : DataW H × List MemPlace) (h1 : cs.length = 2) (h2 : DataW.trod encH P W 0 (fun _ => true) true fuel e cs = some z) : ∃ x : Bool × Int, cs = [.bool x.1, .int .i64 x.2] ∧ True := by
  obtain ⟨y0, y1, n, _, _, g0, g1⟩ := trod_struct2 hu h2
  rw [o0, c0] at g0; rw [o1, c1] at g1
  match cs, h1 with
  | [p, q], _ =>
    obtain ⟨u, hu'⟩ := cell_bool (c := p) ha (by simpa using g0)
    obtain ⟨v, hv', _⟩ := cell_int (c := q) hb (by simpa using g1)
    exact ⟨(u, v), by rw [hu', hv'], trivial⟩
theorem dec_IIW {H : Type} {encH : TypeId × Value → H} {P : Program} {W : World} {e : TypeId} {f0 f1 f2 : Field} (hu : P.underlying e = some (.struct #[f0, f1, f2])) (o0 : f0.offset = 0) (o1 : f1.offset = 1) (o2 : f2.offset = 2) (c0 : P.cellsOf f0.type = 1) (c1 : P.cellsOf f1.type = 1) (c2 : P.cellsOf f2.type = 1) (ha : P.underlying f0.type = some (.int .i64)) (hb : P.underlying f1.type = some (.int .i64)) (hc : P.underlying f2.type = some (.int .u32))
    (fuel : Nat) (cs : List Value) (z : DataW H × List MemPlace) (h1 : cs.length = 3) (h2 : DataW.trod encH P W 0 (fun _ => true) true fuel e cs = some z) : ∃ x : Int × Int × Int, cs = [.int .i64 x.1, .int .i64 x.2.1, .int .u32 x.2.2] ∧ (Lit.int .u32 x.2.2).wf = true := by
  obtain ⟨y0, y1, y2, n, _, _, g0, g1, g2⟩ := Go.Deep.trod_struct3 hu h2
  rw [o0, c0] at g0; rw [o1, c1] at g1; rw [o2, c2] at g2
  match cs, h1 with
  | [p, q, r], _ =>
    obtain ⟨u, hu', _⟩ := cell_int (c := p) ha (by simpa using g0)
    obtain ⟨v, hv', _⟩ := cell_int (c := q) hb (by simpa using g1)
    obtain ⟨w, hw', hg⟩ := cell_int (c := r) hc (by simpa using g2)
    exact ⟨(u, v, w), by rw [hu', hv', hw'], hg⟩
theorem dec_III {H : Type} {encH : TypeId × Value → H} {P : Program} {W : World} {e : TypeId} {f0 f1 f2 : Field} (hu : P.underlying e = some (.struct #[f0, f1, f2])) (o0 : f0.offset = 0) (o1 : f1.offset = 1) (o2 : f2.offset = 2) (c0 : P.cellsOf f0.type = 1) (c1 : P.cellsOf f1.type = 1) (c2 : P.cellsOf f2.type = 1) (ha : P.underlying f0.type = some (.int .i64)) (hb : P.underlying f1.type = some (.int .i64)) (hc : P.underlying f2.type = some (.int .i64))
    (fuel : Nat) (cs : List Value) (z : DataW H × List MemPlace) (h1 : cs.length = 3) (h2 : DataW.trod encH P W 0 (fun _ => true) true fuel e cs = some z) : ∃ x : Int × Int × Int, cs = [.int .i64 x.1, .int .i64 x.2.1, .int .i64 x.2.2] ∧ True := by
  obtain ⟨y0, y1, y2, n, _, _, g0, g1, g2⟩ := Go.Deep.trod_struct3 hu h2
  rw [o0, c0] at g0; rw [o1, c1] at g1; rw [o2, c2] at g2
  match cs, h1 with
  | [p, q, r], _ =>
    obtain ⟨u, hu', _⟩ := cell_int (c := p) ha (by simpa using g0)
    obtain ⟨v, hv', _⟩ := cell_int (c := q) hb (by simpa using g1)
    obtain ⟨w, hw', _⟩ := cell_int (c := r) hc (by simpa using g2)
    exact ⟨(u, v, w), by rw [hu', hv', hw'], trivial⟩
/-- The laid tables but for the first one. -/
theorem laidMet_tail {P : Program} {a : String × DataW Unit} {rest : List (String × DataW Unit)} {W : World} (h : laidMet P (a :: rest) W) : laidMet P rest W := by
  obtain ⟨ps, ⟨g, t, cs, fuel, p, q, h1, h2, h3, h4, h5, rfl⟩, hn, hc⟩ := h
  exact ⟨q, h5, (List.nodup_append.1 hn).2.1, fun b off hm => hc b off (List.mem_append.2 (.inr hm))⟩
theorem flat_getD {k : IntKind} {zs : List Int} {i : Nat} (hi : i < zs.length) : some (Value.int k (zs.getD i 0)) = (zs.flatMap (encI k))[i]? := by
  have e : ∀ l : List Int, l.flatMap (encI k) = l.map (Value.int k) := fun l => by induction l with | nil => rfl | cons z r ih => simp [encI, ih]
  rw [e]; simp [List.getD, hi]
end Go.Proofs.YtemfcbgmgfcjeaaDoor.RowsOf
