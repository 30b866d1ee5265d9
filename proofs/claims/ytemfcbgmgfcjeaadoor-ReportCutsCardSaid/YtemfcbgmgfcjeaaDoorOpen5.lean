/- Structs of five whole numbers, as rows read them. Plain lemma; its conditions are its premises. -/
import Derived.Test.YtemfcbgmgfcjeaaDoorOpen
set_option linter.unusedVariables false
namespace Go.Proofs.YtemfcbgmgfcjeaaDoor.RowsOf
open Go.ChangeShapes Go.WideShapes Go.ChangeAt Go.RowKit Go.Joins
theorem dec_IIIII {H : Type} {encH : TypeId × Value → H} {P : Program} {W : World} {e : TypeId} {f0 f1 f2 f3 f4 : Field} (hu : P.underlying e = some (.struct #[f0, f1, f2, f3, f4])) (o0 : f0.offset = 0) (o1 : f1.offset = 1) (o2 : f2.offset = 2) (o3 : f3.offset = 3) (o4 : f4.offset = 4)
    (c0 : P.cellsOf f0.type = 1) (c1 : P.cellsOf f1.type = 1) (c2 : P.cellsOf f2.type = 1) (c3 : P.cellsOf f3.type = 1) (c4 : P.cellsOf f4.type = 1)
    (ha : P.underlying f0.type = some (.int .i64)) (hb : P.underlying f1.type = some (.int .i64)) (hc : P.underlying f2.type = some (.int .i64)) (hd : P.underlying f3.type = some (.int .i64)) (he : P.underlying f4.type = some (.int .i64))
    (fuel : Nat) (cs : List Value) (z : DataW H × List MemPlace) (h1 : cs.length = 5) (h2 : DataW.trod encH P W 0 (fun _ => true) true fuel e cs = some z) : ∃ x : Int × Int × Int × Int × Int, cs = [.int .i64 x.1, .int .i64 x.2.1, .int .i64 x.2.2.1, .int .i64 x.2.2.2.1, .int .i64 x.2.2.2.2] ∧ True := by
  obtain ⟨xs, n, _, rfl, hl, hlen, hf⟩ := DataW.trod_struct hu h2
  match cs, h1, xs, hlen with
  | [p, q, r, s, t], _, [y0, y1, y2, y3, y4], _ =>
    have g0 := hf 0 f0 rfl; have g1 := hf 1 f1 rfl; have g2 := hf 2 f2 rfl; have g3 := hf 3 f3 rfl; have g4 := hf 4 f4 rfl
    rw [o0, c0] at g0; rw [o1, c1] at g1; rw [o2, c2] at g2; rw [o3, c3] at g3; rw [o4, c4] at g4
    obtain ⟨u0, h0', _⟩ := cell_int (c := p) ha (by simpa using g0)
    obtain ⟨u1, h1', _⟩ := cell_int (c := q) hb (by simpa using g1)
    obtain ⟨u2, h2', _⟩ := cell_int (c := r) hc (by simpa using g2)
    obtain ⟨u3, h3', _⟩ := cell_int (c := s) hd (by simpa using g3)
    obtain ⟨u4, h4', _⟩ := cell_int (c := t) he (by simpa using g4)
    exact ⟨(u0, u1, u2, u3, u4), by rw [h0', h1', h2', h3', h4'], trivial⟩
end Go.Proofs.YtemfcbgmgfcjeaaDoor.RowsOf
