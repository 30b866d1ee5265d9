/- Parts stored, words put to 0, arrays as slices. Plain lemmas; conditions: in each. -/
import Derived.Test.YthadoehgmdageaaDoorZ3SdY
set_option linter.unusedVariables false
set_option linter.unusedSimpArgs false
namespace Go.Proofs.YthadoehgmdageaaDoor.Fl
open Go.RowKit
theorem vec_of_nil {L : Mem} (k : Nat) (e : TypeId) {α : Type} {enc : α → List Value} : Ent L [some (.own (vec 0 0 ([] : List α).length 0 k e (([] : List α).flatMap enc)))] := fun C w h =>
  ⟨h.below, fun i r hi => by
    cases i with
    | zero => simp at hi; subst hi; exact vec_nil k e 0 0 w
    | succ i => simp at hi, fun i r hi b hb => by
    cases i with
    | zero => simp at hi; subst hi; exact absurd rfl hb.1
    | succ i => simp at hi, fun i j r s hi hj he hne => by
    cases i with
    | zero =>
      cases j with
      | zero => exact absurd rfl hne
      | succ j => simp at hj
    | succ i => simp at hi⟩
theorem set_mid {α : Type} (A E B : List α) (f : Nat) (v : α) (h : f < E.length) : (A ++ (E ++ B)).set (A.length + f) v = A ++ (E.set f v ++ B) := by
  rw [List.set_append_right _ _ (by omega), show A.length + f - A.length = f by omega, List.set_append_left _ _ h]
/-- A part of an element is stored. -/
theorem EncOk.storeP {α : Type} {enc : α → List Value} {k : Nat} (h : EncOk enc k) {P : Program} {t : TypeId} {i : TypeInfo} {xs : List α} {j f : Nat} {x x' : α} {v : Value} (hi : P.info? t = some i) (hs : i.size = 1) (hx : xs[j]? = some x) (hf : f < k) (hv : v.cells.toList = [v]) (hp : plainV v = true) (he : enc x' = (enc x).set f v) :
    storeV P t (xs.flatMap enc) (j * k + f) v = some ((xs.set j x').flatMap enc) := by
  have hlt := (List.getElem?_eq_some_iff.1 hx).1
  have hxe := (List.getElem?_eq_some_iff.1 hx).2
  have hle : j * k + k ≤ xs.length * k := by rw [← Nat.succ_mul]; exact Nat.mul_le_mul_right _ hlt
  have hA : ((xs.take j).flatMap enc).length = j * k := by rw [h.flen, List.length_take, Nat.min_eq_left (Nat.le_of_lt hlt)]
  have hsplit : xs.flatMap enc = (xs.take j).flatMap enc ++ (enc x ++ (xs.drop (j + 1)).flatMap enc) := by
    conv => lhs; rw [← List.take_append_drop j xs, List.drop_eq_getElem_cons hlt, hxe]
    rw [List.flatMap_append, List.flatMap_cons]
  unfold storeV
  rw [hi, hv]
  simp only [List.length_singleton, hs, List.all_cons, List.all_nil, hp, Bool.and_true]
  rw [show Nat.ble (j * k + f + 1) (xs.flatMap enc).length = true from Nat.ble_eq_true_of_le (by rw [h.flen]; omega), show Nat.beq 1 1 = true from rfl]
  simp only
  refine congrArg some ?_
  show (xs.flatMap enc).set (j * k + f) v = _
  rw [hsplit, ← hA, set_mid _ _ _ _ _ (by rw [h.len]; exact hf), ← he, List.set_eq_take_append_cons_drop, if_pos hlt, List.flatMap_append, List.flatMap_cons]
theorem zTo_eq (xs : List Int) (l : Nat) : ∀ d, l + d ≤ xs.length → zTo xs l d = xs.take l ++ (List.replicate d 0 ++ xs.drop (l + d))
  | 0, _ => by simp [zTo]
  | d + 1, h => by
    unfold zTo
    rw [zTo_eq xs l d (by omega), List.replicate_succ', List.drop_eq_getElem_cons (show l + d < xs.length by omega)]
    have h1 : (xs.take l).length = l := by rw [List.length_take]; omega
    have h2 := set_mid (xs.take l ++ List.replicate d 0) [xs[l + d]'(by omega)] (xs.drop (l + d + 1)) 0 0 (by simp)
    rw [List.length_append, h1, List.length_replicate] at h2
    simp only [List.append_assoc, List.singleton_append, List.set_cons_zero, Nat.add_zero] at h2 ⊢
    rw [h2]; simp [Nat.add_assoc]
/-- Words of one's own are put to 0. -/
theorem clear_I {P : Program} {t ty e : TypeId} {i : TypeInfo} {kd : IntKind} (ht : P.underlying t = some (.slice e)) (hi : P.info? e = some i) (hz : i.zero = some (.int kd 0)) {b off cap l d c : Nat} {xs : List Int} (hl : l + d ≤ xs.length) :
    SemOb P (vS (Builtin.clear_ #[t] ty #[.slice (sb b (slo off l 1 cap)) d c])) [some (.own (vec b off xs.length cap 1 e (xs.flatMap (encI kd))))] ⟨fun _ => .tuple #[], fun _ => [], fun _ => [.own (vec b off xs.length cap 1 e ((zTo xs l d).flatMap (encI kd)))]⟩ := by
  intro w hw
  have hvec : (vec b off xs.length cap 1 e (xs.flatMap (encI kd))).ok w := pre0 hw
  have hv0 := hvec
  obtain ⟨hlen, hnc, hcm, hcap⟩ := hvec
  by_cases hd : d = 0
  · subst hd
    refine ⟨fun _ => 0, w, .inl (vS_run ?_), trivial, Own.one (BelowX.refl w) hv0 (fun x hx => .inr (.inl ⟨0, _, rfl, rfl, hx⟩))⟩
    cases h : sb b (slo off l 1 cap) with
    | none => simp [Builtin.clear_, run_underlying ht]
    | some a => simp [Builtin.clear_, run_underlying ht]
  · obtain ⟨rfl, g, cur, rfl, hg, hcs, htake⟩ := hcap (by omega)
    have hle : xs.length ≤ cur.size := by omega
    have hslo : slo 0 l 1 cap = l := by unfold slo; rw [if_neg (by omega)]; omega
    have hzc : (Builtin.zeroCells (Value.int kd 0).cells d).toList = List.replicate d (.int kd 0) := by
      apply List.ext_getElem
      · simp [Builtin.zeroCells, Value.cells]
      · intro n h1 h2
        simp [Builtin.zeroCells, Value.cells, Nat.mod_one]
    have hst := run_storeCells_at P g l e (List.replicate d (.int kd 0)) 0 cur w hg (by simp; omega) (fun v hv => by rw [(List.mem_replicate.1 hv).2]; rfl)
    simp only [Nat.add_zero, List.length_replicate] at hst
    rw [setRow_put hg] at hst
    refine ⟨fun _ => 0, putBlk w ⟨g, cur.toList.take l ++ List.replicate d (.int kd 0) ++ cur.toList.drop (l + d), e⟩, .inl (vS_run ?_), trivial, vec_put 0 rfl rfl (by omega) hg hnc hcm _ ?_ ?_⟩
    · rw [hslo]
      cases d with
      | zero => exact absurd rfl hd
      | succ d => simp [Builtin.clear_, run_underlying ht, sb, zeroValue, typeInfo, hi, hz, hzc, hst]
    · simp; omega
    · rw [Nat.mul_one] at htake
      have h1 : cur.toList.take l = (xs.take l).flatMap (encI kd) := by
        have := congrArg (List.take l) htake
        rw [List.take_take, Nat.min_eq_left (by omega)] at this
        rw [this]; have := (encI_ok (k := kd)).ftake xs l; rwa [Nat.mul_one] at this
      have h2 : (cur.toList.take xs.length).drop (l + d) = (xs.drop (l + d)).flatMap (encI kd) := by
        rw [htake]; have := (encI_ok (k := kd)).fdrop xs (l + d); rwa [Nat.mul_one] at this
      rw [zTo_eq xs l d hl, List.flatMap_append, List.flatMap_append, ← h1, ← h2, Nat.mul_one]
      have h3 : (List.replicate d (0 : Int)).flatMap (encI kd) = List.replicate d (.int kd 0) := by rw [ints_map, List.map_replicate]
      have h4 : (cur.toList.take l).length = l := by rw [List.length_take, Array.length_toList]; omega
      have h5 : (List.replicate d (Value.int kd 0)).length = d := List.length_replicate
      have e1 : (cur.toList.take l).take xs.length = cur.toList.take l := List.take_of_length_le (by rw [h4]; omega)
      have e2 : (List.replicate d (Value.int kd 0)).take (xs.length - l) = List.replicate d (Value.int kd 0) := List.take_of_length_le (by rw [h5]; omega)
      rw [h3, List.append_assoc, List.take_append, h4, e1, List.take_append, h5, e2, List.drop_take, show xs.length - l - d = xs.length - (l + d) by omega]
/-- An array, as a slice. -/
theorem slice_arr {P : Program} {t e : TypeId} {i : TypeInfo} {n b : Nat} (ht : P.underlying t = some (.array n e)) (hi : P.info? e = some i) (hn : n ≠ 0) : SemOb P (vS (Instr.sliceAt t (.pointer (some ⟨b, 0, none⟩)) none none none)) [] (pureRec (.slice (some ⟨b, 0, none⟩) n n)) := SemOb.quiet fun w _ => by
  have hsz : (sizeOf e).run P w = .ok i.size w := by unfold sizeOf; rw [run_bind_ok (run_typeInfo hi w)]; rfl
  simp [Instr.sliceAt, run_underlying ht, Instr.sliceBounds, Instr.sureAddr, hsz, hn, Addr.add]

end Go.Proofs.YthadoehgmdageaaDoor.Fl
