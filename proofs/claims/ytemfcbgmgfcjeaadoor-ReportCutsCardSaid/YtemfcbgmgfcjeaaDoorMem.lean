/- What is read of segments; plain lists as cells. Plain lemmas; conditions: in each. -/
import Derived.Test.YtemfcbgmgfcjeaaDoorSym
import Derived.Test.YtemfcbgmgfcjeaaDoorNum2
set_option linter.unusedVariables false
set_option linter.unusedSimpArgs false
namespace Go.Proofs.YtemfcbgmgfcjeaaDoor.Fl
open Go.RowKit
/-! ### Reading a segment -/
theorem seg_load {P : Program} {w : World} {b off : Nat} {cs : List Value} (hc : ∀ i, i < cs.length → w.cell? ⟨b, off + i, none⟩ = cs[i]?) {i : Nat} (hi : i < cs.length) : (load ⟨b, off + i, none⟩).run P w = .ok cs[i] w := by
  simp only [load, Sem.run, hc i hi, List.getElem?_eq_getElem hi]
theorem seg_loadCells {P : Program} {w : World} {b off : Nat} {cs : List Value} (hc : ∀ i, i < cs.length → w.cell? ⟨b, off + i, none⟩ = cs[i]?) (o : Nat) : ∀ (m i : Nat) (acc : Array Value), o + i + m ≤ cs.length →
    (loadCellsFrom ⟨b, off + o, none⟩ i m acc).run P w = .ok (acc ++ ((cs.drop (o + i)).take m).toArray) w
  | 0, i, acc, _ => by simp [loadCellsFrom, pure]
  | m + 1, i, acc, hl => by
    have hlt : o + i < cs.length := by omega
    unfold loadCellsFrom
    rw [addr_add, show off + o + i = off + (o + i) by omega, run_bind_ok (seg_load hc hlt), seg_loadCells hc o m (i + 1) _ (by omega)]
    congr 1
    rw [List.drop_eq_getElem_cons hlt, List.take_succ_cons]
    apply Array.toList_inj.1
    simp [Nat.add_assoc]
theorem seg_loadVar {P : Program} {w : World} {b off : Nat} {cs : List Value} (hc : ∀ i, i < cs.length → w.cell? ⟨b, off + i, none⟩ = cs[i]?) {t : TypeId} {o : Nat} {v : Value} (hv : loadV P t cs o = some v) :
    (loadVar t ⟨b, off + o, none⟩).run P w = .ok v w := by
  unfold loadV at hv
  cases hu : P.underlying t with
  | none => simp [isAggP, hu] at hv
  | some d =>
    cases hi : P.info? t with
    | none => rw [hi] at hv; split at hv <;> simp_all
    | some i =>
      unfold loadVar
      have hag : (isAgg t).run P w = .ok (match d with | .struct _ | .array _ _ => true | _ => false) w := by
        unfold isAgg
        rw [run_bind_ok (run_underlying' hu w)]
        cases d <;> rfl
      rw [run_bind_ok hag]
      have hsz : (sizeOf t).run P w = .ok i.size w := by
        unfold sizeOf
        rw [run_bind_ok (run_typeInfo hi w)]; rfl
      rw [hi] at hv
      have agg : ∀ (b' : Bool), isAggP P t = some true → (match d with | .struct _ | .array _ _ => true | _ => false) = b' → b' = true →
          (match Nat.ble (o + i.size) cs.length with | true => some (Value.agg ((cs.drop o).take i.size).toArray) | false => none) = some v →
          Sem.run P (if b' = true then do pure (Value.agg (← loadCells ⟨b, off + o, none⟩ (← sizeOf t))) else load ⟨b, off + o, none⟩) w = Result.ok v w := by
        intro b' _ _ hb hv
        subst hb
        simp only [if_true]
        split at hv
        · rename_i hle
          have hle' := Nat.le_of_ble_eq_true hle
          rw [run_bind_ok hsz]
          show (loadCells _ _ >>= _).run P w = _
          unfold loadCells
          rw [run_bind_ok (seg_loadCells hc o i.size 0 #[] (by omega))]
          simp only [pure, Sem.run]
          rw [← Option.some.inj hv]
          simp
        · cases hv
      have single : isAggP P t = some false → cs[o]? = some v → Sem.run P (load ⟨b, off + o, none⟩) w = Result.ok v w := by
        intro _ hv
        obtain ⟨hlt, rfl⟩ := List.getElem?_eq_some_iff.1 hv
        exact seg_load hc hlt
      cases d <;> simp only [isAggP, hu] at hv agg single <;> first | exact agg _ trivial rfl rfl hv | exact single trivial hv
theorem seg_cells {w : World} {b off : Nat} {cs : List Value} (h : (seg (b + 1) off cs).ok w) : ∀ i, i < cs.length → w.cell? ⟨b, off + i, none⟩ = cs[i]? := by
  intro i hi
  obtain ⟨k, c, t, fr, e, hk, hc⟩ := h (fun e => by rw [e] at hi; simp at hi)
  obtain rfl : b = k := by omega
  unfold World.cell?
  rw [show w.heap[(⟨b, off + i, none⟩ : Addr).block]? = _ from hk]
  simpa using hc i hi
theorem reads_seg {P : Program} {b off o o' : Nat} {cs : List Value} {t : TypeId} {v : Value} (hv : loadV P t cs o = some v) (ho : o' = off + o) : Reads P (.ro (seg (b + 1) off cs)) t ⟨b, o', none⟩ v := by
  intro w hw
  rw [ho]
  exact seg_loadVar (seg_cells hw) hv
theorem reads_segO {P : Program} {b off o o' : Nat} {cs : List Value} {t : TypeId} {v : Value} (hv : loadV P t cs o = some v) (ho : o' = off + o) : Reads P (.own (seg (b + 1) off cs)) t ⟨b, o', none⟩ v := by
  intro w hw
  rw [ho]
  exact seg_loadVar (seg_cells hw) hv
theorem sb_some {b off : Nat} (h : b ≠ 0) : sb b off = some ⟨b - 1, off, none⟩ := by
  cases b with
  | zero => exact absurd rfl h
  | succ b => rfl
/-- The same at a base that is told by a number. -/
theorem reads_sb {P : Program} {b off o o' : Nat} {cs : List Value} {t : TypeId} {v : Value} (hb : b ≠ 0) (hv : loadV P t cs o = some v) (ho : o' = off + o) : Reads P (.ro (seg b off cs)) t ⟨b - 1, o', none⟩ v := by
  obtain ⟨k, rfl⟩ : ∃ k, b = k + 1 := ⟨b - 1, by omega⟩
  exact reads_seg hv ho
end Go.Proofs.YtemfcbgmgfcjeaaDoor.Fl
