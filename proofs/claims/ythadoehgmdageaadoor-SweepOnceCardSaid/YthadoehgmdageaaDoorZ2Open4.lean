/- Arrays of four whole numbers, as rows read them. Plain lemma; its conditions are its premises. -/
import Derived.Test.YthadoehgmdageaaDoorZ2Open
import Derived.Laws.IdiomArrays
set_option linter.unusedVariables false
namespace Go.Proofs.YthadoehgmdageaaDoor.RowsOf
open Go.ChangeShapes Go.WideShapes Go.ChangeAt Go.RowKit Go.Joins
theorem dec_IIII {H : Type} {encH : TypeId × Value → H} {P : Program} {W : World} {e i : TypeId} (hu : P.underlying e = some (.array 4 i)) (hc : P.cellsOf i = 1) (ha : P.underlying i = some (.int .i64))
    (fuel : Nat) (cs : List Value) (z : DataW H × List MemPlace) (h1 : cs.length = 4) (h2 : DataW.trod encH P W 0 (fun _ => true) true fuel e cs = some z) : ∃ x : Int × Int × Int × Int, cs = [.int .i64 x.1, .int .i64 x.2.1, .int .i64 x.2.2.1, .int .i64 x.2.2.2] ∧ True := by
  match cs, h1 with
  | [p, q, r, s], _ =>
    obtain ⟨y0, y1, y2, y3, n, _, g0, g1, g2, g3⟩ := trod_array4 hu hc h2
    obtain ⟨u, hu', _⟩ := cell_int (c := p) ha g0
    obtain ⟨v, hv', _⟩ := cell_int (c := q) ha g1
    obtain ⟨w, hw', _⟩ := cell_int (c := r) ha g2
    obtain ⟨t, ht', _⟩ := cell_int (c := s) ha g3
    exact ⟨(u, v, w, t), by rw [hu', hv', hw', ht'], trivial⟩
end Go.Proofs.YthadoehgmdageaaDoor.RowsOf
