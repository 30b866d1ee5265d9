/- Strings: what +, ==, an index, a slice expression and conversions come to; a builder's bytes. Plain lemmas; conditions: in each. -/
import Derived.Test.YtemfcbgmgfcjeaaDoorVec
import Derived.Laws.IdiomStrings
import Derived.Laws.Concat
import Derived.Laws.Strings2
import Derived.Laws.Strings3
import Derived.Laws.Slices
import Derived.Laws.BytesArg
import Derived.Lib.AppendStr
import Derived.Lib.UnsafeStr
set_option linter.unusedVariables false
set_option linter.unusedSimpArgs false
namespace Go.Proofs.YtemfcbgmgfcjeaaDoor.Fl
open Go.RowKit
/-! ### Strings are lists of bytes -/
def bs (l : List UInt8) : ByteArray := ⟨l.toArray⟩
theorem bs_of (s : ByteArray) : s = bs s.data.toList := rfl
theorem bs_data (l : List UInt8) : (bs l).data.toList = l := rfl
theorem bs_size (l : List UInt8) : (bs l).size = l.length := rfl
theorem bs_list (l : List UInt8) : (bs l).toList = l := by rw [ByteArray.toList_eq]; rfl
theorem bs_append (l m : List UInt8) : bs l ++ bs m = bs (l ++ m) := ByteArray.mk_append_mk l m
theorem bs_extract (l : List UInt8) (a b : Nat) : (bs l).extract a b = bs ((l.drop a).take (b - a)) := ByteArray.extract_mk l a b
def ch (l : List UInt8) (j : Nat) : Int := ((l.getD j 0).toNat : Int)
theorem ch_u8 (l : List UInt8) (j : Nat) : inU8 (ch l j) := by
  unfold inU8 ch
  have := (l.getD j 0).toNat_lt
  omega
/-- A string's bytes as numbers, and back. -/
def chs (l : List UInt8) : List Int := l.map fun b => (b.toNat : Int)
def ofZ (z : Int) : UInt8 := UInt8.ofNat z.toNat
theorem chs_len (l : List UInt8) : (chs l).length = l.length := by simp [chs]
theorem chs_get (l : List UInt8) (j : Nat) : (chs l).getD j 0 = ch l j := by
  unfold chs ch
  simp only [List.getD, List.getElem?_map]
  cases l[j]? <;> rfl
def encS (l : List UInt8) : List Value := [.string (bs l)]
theorem encS_ok : EncOk encS 1 := ⟨by decide, fun _ => rfl, fun _ => rfl⟩
theorem strCells_bs (l : List UInt8) : Lib.strCells (bs l) = (chs l).flatMap (encI .u8) := by
  show l.map _ = _
  unfold chs
  induction l with
  | nil => rfl
  | cons b l ih => rw [List.map_cons, ih]; rfl
/-! ### Operations that touch no memory -/
theorem str_add {P : Program} {t : TypeId} (l m : List UInt8) (h : l.length + m.length ≤ 1000000000) : SemOb P (vS (binOp .add t (.string (bs l)) (.string (bs m)))) [] (pureRec (.string (bs (l ++ m)))) :=
  SemOb.quiet fun w _ => by
    show (Op.stringOp .add (bs l) (bs m)).run P w = _
    rw [run_string_add_sum w _ _ (by rw [bs_size, bs_size]; omega), bs_append]
theorem beq_dec (l m : List UInt8) : (l == m) = decide (l = m) := by
  by_cases h : l = m
  · rw [decide_eq_true h]; exact beq_iff_eq.2 h
  · rw [decide_eq_false h]; exact beq_eq_false_iff_ne.2 h
theorem str_eq {P : Program} {t : TypeId} (l m : List UInt8) : SemOb P (vS (binOp .eql t (.string (bs l)) (.string (bs m)))) [] (pureRec (.bool (decide (l = m)))) :=
  SemOb.quiet fun w _ => by
    show (Op.stringOp .eql (bs l) (bs m)).run P w = _
    show Result.ok (Value.bool ((bs l).toList == (bs m).toList)) w = _
    rw [bs_list, bs_list, beq_dec]
theorem str_ne {P : Program} {t : TypeId} (l m : List UInt8) : SemOb P (vS (binOp .neq t (.string (bs l)) (.string (bs m)))) [] (pureRec (.bool (!decide (l = m)))) :=
  SemOb.quiet fun w _ => by
    show (Op.stringOp .neq (bs l) (bs m)).run P w = _
    show Result.ok (Value.bool (!((bs l).toList == (bs m).toList))) w = _
    rw [bs_list, bs_list, beq_dec]
theorem str_ix {P : Program} {t : TypeId} {k : IntKind} (ht : P.underlying t = some .string) (l : List UInt8) {z : Int} {j : Nat} (hz : z = ((j : Nat) : Int)) (hj : j < l.length) :
    SemOb P (vS (Instr.index t (.string (bs l)) (.int k z))) [] (pureRec (.int .u8 (ch l j))) :=
  SemOb.quiet fun w _ => by
    subst hz
    rw [run_index_string w t (bs l) k _ ht, dif_pos ⟨by omega, by rw [bs_size]; omega⟩]
    congr 2
    unfold ch
    rw [List.getD, List.getElem?_eq_getElem hj]
    rfl
theorem str_lo {P : Program} {t : TypeId} {k : IntKind} (ht : P.underlying t = some .string) (l : List UInt8) {z : Int} {a : Nat} (hz : z = ((a : Nat) : Int)) (ha : a ≤ l.length) :
    SemOb P (vS (Instr.sliceAt t (.string (bs l)) (some (.int k z)) none none)) [] (pureRec (.string (bs (l.drop a)))) :=
  SemOb.quiet fun w _ => by
    subst hz
    rw [run_sliceAt_string w t _ _ _ _ ht, run_slice_string_l w t _ ht k _ (by omega) (by rw [bs_size]; omega), Int.toNat_natCast, bs_extract, bs_size]
    congr 3
    rw [List.take_of_length_le]; simp
theorem str_hi {P : Program} {t : TypeId} {k : IntKind} (ht : P.underlying t = some .string) (l : List UInt8) {z : Int} {b : Nat} (hz : z = ((b : Nat) : Int)) (hb : b ≤ l.length) :
    SemOb P (vS (Instr.sliceAt t (.string (bs l)) none (some (.int k z)) none)) [] (pureRec (.string (bs (l.take b)))) :=
  SemOb.quiet fun w _ => by
    subst hz
    rw [run_sliceAt_string w t _ _ _ _ ht, run_slice_string_h w t _ ht k _ (by omega) (by rw [bs_size]; omega), Int.toNat_natCast, bs_extract]
    rfl
theorem str_lh {P : Program} {t : TypeId} {k k' : IntKind} (ht : P.underlying t = some .string) (l : List UInt8) {z y : Int} {a b : Nat} (hz : z = ((a : Nat) : Int)) (hy : y = ((b : Nat) : Int)) (hab : a ≤ b) (hb : b ≤ l.length) :
    SemOb P (vS (Instr.sliceAt t (.string (bs l)) (some (.int k z)) (some (.int k' y)) none)) [] (pureRec (.string (bs ((l.drop a).take (b - a))))) :=
  SemOb.quiet fun w _ => by
    subst hz hy
    rw [run_sliceAt_string w t _ _ _ _ ht, run_slice_string w t _ k k' _ _ ht (by omega) (by omega) (by rw [bs_size]; omega), Int.toNat_natCast, Int.toNat_natCast, bs_extract]
theorem bytesRow_get {l : List UInt8} {c i : Nat} (hi : i < ((chs l).flatMap (encI .u8)).length) : (bytesRow (bs l) c)[i]? = ((chs l).flatMap (encI .u8))[i]? := by
  rw [← strCells_bs] at hi ⊢
  have hl : (Lib.strCells (bs l)).length = l.length := by simp [Lib.strCells, bs]
  rw [hl] at hi
  unfold bytesRow
  rw [Array.getElem?_append_left (by simpa [bs] using hi)]
  simp [Lib.strCells, bs]
/-- []byte(s). y 0: its block. -/
theorem str_bytes {P : Program} {src dst e : TypeId} (hs : P.underlying src = some .string) (hd : P.underlying dst = some (.slice e)) (he : P.underlying e = some (.int .u8)) (l : List UInt8) :
    SemOb P (vS (convert src dst (.string (bs l)))) [] ⟨fun y => .slice (sb (y 0 + 1) 0) (chs l).length (y 1), fun y => [(chs l).length ≤ y 1], fun y => [.ro (seg (y 0 + 1) 0 ((chs l).flatMap (encI .u8)))]⟩ := fun w hw => by
  have hr := run_bytes_of_string w src dst e (bs l) hs hd he
  rw [bs_size] at hr
  have hge := grownCap_ge w l.length 0 e
  generalize hc : grownCap w l.length 0 e = c at hr hge
  refine ⟨gv3 w.heap.size c 0, w.drew.alloc (.cells (bytesRow (bs l) c) e ((bytesRow (bs l) c).size, (bytesRow (bs l) c).size + 1)), .inl (vS_run (v := .slice (some ⟨w.heap.size, 0, none⟩) (chs l).length c) ?_), ⟨by rw [chs_len]; exact hge, trivial⟩, ?_⟩
  · rw [chs_len]; exact hr
  · refine Own.one (below_new w _) ?_ ?_
    · intro _
      refine ⟨w.heap.size, _, e, _, rfl, heap_alloc_new w.drew _, fun i hi => ?_⟩
      rw [Nat.zero_add]; exact bytesRow_get hi
    · intro b hb
      have : b + 1 = w.heap.size + 1 := hb.2
      exact .inl (by omega)
theorem ofZ_map (xs : List Int) : strOfNums xs = bs (xs.map ofZ) := rfl
theorem bytes_get : ∀ (xs : List Int) (i : Nat), i < xs.length → (xs.flatMap (encI .u8))[i]? = some (.int .u8 (xs.getD i 0))
  | [], i, h => by simp at h
  | x :: xs, 0, _ => rfl
  | x :: xs, i + 1, h => bytes_get xs i (by simpa using h)
/-- string(b). -/
theorem bytes_str {P : Program} {src dst e : TypeId} (hs : P.underlying src = some (.slice e)) (hd : P.underlying dst = some .string) (he : P.underlying e = some (.int .u8)) (b off c : Nat) (xs : List Int) (hb : b ≠ 0) :
    SemOb P (vS (convert src dst (.slice (sb b off) xs.length c))) [some (.ro (seg b off (xs.flatMap (encI .u8))))] (pureRec (.string (bs (xs.map ofZ)))) :=
  SemOb.quiet fun w hw => by
    obtain ⟨g, rfl⟩ : ∃ g, b = g + 1 := ⟨b - 1, by omega⟩
    have h := seg_cells (hw 0 _ rfl)
    have hl : (xs.flatMap (encI .u8)).length = xs.length := by rw [encI_ok.flen]; omega
    rw [show sb (g + 1) off = some ⟨g, off, none⟩ from rfl, run_convert_bytes_arg w src e hs he g off xs.length c xs rfl (fun i hi => ?_) dst hd, ofZ_map]
    rw [h i (by omega)]
    exact bytes_get xs i hi
/-! ### Bytes of one's own: append(b, s...), unsafe.String -/
theorem append_fresh_str {P : Program} {w : World} {L : Mem} {t u ty e : TypeId} {i : TypeInfo} (ht : P.underlying t = some (.slice e)) (hu : P.underlying u = some .string) (hi : P.info? e = some i) (hz : i.zero = some (.int .u8 0)) (hsize : i.size = 1) (hby : i.bytes = 1) {b off n cap : Nat} {cs : List Value} (l : List UInt8)
    (h : (seg b off cs).ok w) (hl : cs.length = n) (hb : b = 0 → n = 0 ∧ cap = 0) (hgrow : cap < n + l.length) (h63 : n + l.length ≤ 1000000000) :
    ∃ y w', ((vS (Builtin.append_ #[t, u] ty #[.slice (sb b off) n cap, .string (bs l)])).run P w = .ok (.value ((appRec (n + l.length) 1 e (cs ++ Lib.strCells (bs l))).val y)) w' ∨
      ((vS (Builtin.append_ #[t, u] ty #[.slice (sb b off) n cap, .string (bs l)])).run P w = .ok .skip w' ∧ (appRec (n + l.length) 1 e (cs ++ Lib.strCells (bs l))).val y = undef)) ∧ AllP ((appRec (n + l.length) 1 e (cs ++ Lib.strCells (bs l))).fs y) ∧ Own (ctxOf w L) w' (((appRec (n + l.length) 1 e (cs ++ Lib.strCells (bs l))).res y).map some) := by
  have hge := grownCap_ge w (n + l.length) cap e
  have hcm := grownCap_le_maxLen w (n + l.length) cap e (by unfold maxLen; omega)
  have hl2 : (Lib.strCells (bs l)).length = l.length := by simp [Lib.strCells, bs]
  have hfit : Builtin.nextslicecap (n + (bs l).size) cap * i.bytes ≤ 281474976710656 := by
    rw [hby]
    exact growslice_fits (old := cap) (need := n + l.length) (by omega) (by omega)
  have hv := vec_new (w := w) (n := n) (m := l.length) (k := 1) (e := e) (z := (Value.int .u8 0).cells) (cs := cs) (cs2 := Lib.strCells (bs l)) (by omega) (by omega) rfl hge hcm
  have fin : (Builtin.append_ #[t, u] ty #[.slice (sb b off) n cap, .string (bs l)]).run P w = .ok (.slice (some ⟨w.heap.size, 0, none⟩) (n + l.length) (grownCap w (n + l.length) cap e)) (w.drew.alloc (.cells (cs.toArray ++ (Lib.strCells (bs l)).toArray ++ Builtin.zeroCells (Value.int .u8 0).cells (grownCap w (n + l.length) cap e - (n + l.length))) e)) := by
    cases b with
    | zero =>
      obtain ⟨rfl, rfl⟩ := hb rfl
      obtain rfl := List.eq_nil_of_length_eq_zero hl
      have := run_append_nil_string (P := P) w t u ty e i (.int .u8 0) ht hu hi hz (bs l) (by rw [bs_size]; omega) (by rw [bs_size]; omega) (by rw [hby, bs_size]; omega)
      rw [show sb 0 off = none from rfl, this]
      simp only [Nat.zero_add, bs_size]
      congr 3
      simp [Lib.strCells, bs]
    | succ g =>
      have hc := seg_cells h
      have := Lib.run_append_grow_string (P := P) w t u ty e i (.int .u8 0) ht hu hi hz ⟨g, off, none⟩ n cap cs (by rw [hsize]; omega) (fun j v hj => by
        rw [addr_add]
        have hlt : j < cs.length := (List.getElem?_eq_some_iff.1 hj).1
        rw [hc j hlt]; exact hj) (bs l) (by rw [bs_size]; omega) (by rw [bs_size]; omega) hfit
      rw [show sb (g + 1) off = some ⟨g, off, none⟩ from rfl, this]
      rfl
  refine ⟨gv3 (w.heap.size + 1) 0 (grownCap w (n + l.length) cap e), _, .inl (vS_run fin), ⟨hge, fun h => absurd h (Nat.succ_ne_zero _), trivial⟩, ?_⟩
  exact Own.one (below_new w _) hv (fun x hx => .inl (by have : x + 1 = w.heap.size + 1 := hx.2; omega))
theorem append_str {P : Program} {t u ty e : TypeId} {i : TypeInfo} (ht : P.underlying t = some (.slice e)) (hu : P.underlying u = some .string) (hi : P.info? e = some i) (hz : i.zero = some (.int .u8 0)) (hsize : i.size = 1) (hby : i.bytes = 1) (b off n cap : Nat) (cs : List Value) (l : List UInt8)
    (hb : b = 0 → cap = 0) (h0 : 0 < l.length) (h63 : n + l.length ≤ 1000000000) :
    SemOb P (vS (Builtin.append_ #[t, u] ty #[.slice (sb b off) n cap, .string (bs l)])) [some (.own (vec b off n cap 1 e cs))] (appRec (n + l.length) 1 e (cs ++ Lib.strCells (bs l))) := by
  intro w hw
  have hv : (vec b off n cap 1 e cs).ok w := pre0 hw
  obtain ⟨hl, hnc, hcm, hcap⟩ := hv
  have hl2 : (Lib.strCells (bs l)).length = l.length := by simp [Lib.strCells, bs]
  by_cases hroom : n + l.length ≤ cap
  · have hc0 : cap ≠ 0 := by omega
    obtain ⟨rfl, g, cur, rfl, hg, hcs, htake⟩ := hcap hc0
    have hr := Lib.run_append_room_string (P := P) w t u ty e i ht hu hi hsize g n cap cur hg (bs l) hroom (by rw [bs_size]; omega)
    rw [setRow_put hg] at hr
    refine ⟨gv3 (g + 1) 0 cap, _, .inl (vS_run hr), ⟨hroom, fun h => absurd h (Nat.succ_ne_zero _), trivial⟩, ?_⟩
    have hlt := (Array.getElem?_eq_some_iff.1 hg).1
    have hex : exFp [some (.own (vec (g + 1) 0 n cap 1 e cs))] g := ⟨0, _, rfl, rfl, hc0, rfl⟩
    refine Own.one ⟨rfl, rfl, rfl, by simp [putBlk], fun x _ hm => putBlk_other (fun e => hm (e ▸ hex))⟩ ?_ (fun x hx => .inr (.inl ?_))
    · refine ⟨by rw [List.length_append, hl, hl2]; omega, hroom, hcm, fun _ => ⟨rfl, g, _, rfl, putBlk_has (x := ⟨g, _, e⟩) hlt, ?_, ?_⟩⟩
      · show _ = cap * 1
        have hcs2 : cur.size = cap := by omega
        simp only [List.size_toArray, List.length_append, List.length_take, List.length_drop, Array.length_toList, hl2, bs_size, hcs2]; omega
      · rw [show n = n * 1 by omega, htake, show (n * 1 + l.length) * 1 = (cs ++ Lib.strCells (bs l)).length by rw [List.length_append, hl, hl2]; omega]
        exact List.take_left
    · have : x + 1 = g + 1 := hx.2
      obtain rfl : x = g := by omega
      exact hex
  · exact append_fresh_str ht hu hi hz hsize hby l (vec_seg ⟨hl, hnc, hcm, hcap⟩) (by omega) (fun h => ⟨by have := hb h; omega, hb h⟩) (by omega) h63
theorem append_strL {P : Program} {t u ty e : TypeId} {i : TypeInfo} (ht : P.underlying t = some (.slice e)) (hu : P.underlying u = some .string) (hi : P.info? e = some i) (hz : i.zero = some (.int .u8 0)) (hsize : i.size = 1) (hby : i.bytes = 1) (b off cap : Nat) (m l : List UInt8)
    (hb : b = 0 → cap = 0) (h0 : 0 < l.length) (h63 : m.length + l.length ≤ 1000000000) :
    SemOb P (vS (Builtin.append_ #[t, u] ty #[.slice (sb b off) m.length cap, .string (bs l)])) [some (.own (vec b off m.length cap 1 e ((chs m).flatMap (encI .u8))))] (appRec (m ++ l).length 1 e ((chs (m ++ l)).flatMap (encI .u8))) := by
  have h := append_str (ty := ty) ht hu hi hz hsize hby b off m.length cap ((chs m).flatMap (encI .u8)) l hb h0 h63
  rw [strCells_bs, ← List.flatMap_append, show chs m ++ chs l = chs (m ++ l) from (List.map_append).symm, ← List.length_append] at h
  exact h
/-- unsafe.SliceData, unsafe.String: the bytes of a slice of one's own, which is then let go. -/
theorem slice_data {P : Program} {ts : Array TypeId} {ty e : TypeId} {b off n cap : Nat} {cs : List Value} (hn : 0 < n) :
    SemOb P (vS (Builtin.unsafeSliceData_ ts ty #[.slice (sb b off) n cap])) [some (.own (vec b off n cap 1 e cs))] ⟨fun _ => .pointer (some ⟨b - 1, 0, none⟩), fun _ => [], fun _ => [.own (vec b off n cap 1 e cs)]⟩ := fun w hw => by
  have hv : (vec b off n cap 1 e cs).ok w := pre0 hw
  have hv' := hv
  obtain ⟨hl, hnc, hcm, hcap⟩ := hv
  obtain ⟨rfl, g, cur, rfl, hg, hcs, htake⟩ := hcap (by omega)
  refine ⟨fun _ => 0, w, .inl (vS_run (Lib.run_unsafeSliceData_row w ts ty ⟨g, 0, none⟩ n cap (by omega))), trivial, ?_⟩
  exact Own.one (BelowX.refl w) hv' (fun x hx => .inr (.inl ⟨0, _, rfl, rfl, hx⟩))
theorem slice_data0 {P : Program} {ts : Array TypeId} {ty : TypeId} {n c : Nat} : SemOb P (vS (Builtin.unsafeSliceData_ ts ty #[.slice none n c])) [] (pureRec (.pointer none)) := SemOb.quiet fun w _ => Lib.run_unsafeSliceData_nil w ts ty n c
theorem unsafe_str0 {P : Program} {pt it ty : TypeId} : SemOb P (vS (Builtin.unsafeString_ #[pt, it] ty #[.pointer none, .int .i64 0])) [] (pureRec (.string (bs []))) := SemOb.quiet fun w _ => Lib.run_unsafeString_none w pt it ty none
theorem freeze_below {M : Nat → Prop} {w : World} {g o n : Nat} (hg : M g) : BelowX M w (w.freeze ⟨g, o, none⟩ n) := by
  unfold World.freeze
  split
  · exact BelowX.refl w
  · refine ⟨rfl, rfl, rfl, by simp, fun k _ hm => ?_⟩
    have hne : k ≠ g := fun e => hm (e ▸ hg)
    show (w.heap.modify g _)[k]? = _
    rw [Array.getElem?_modify, if_neg (fun h => hne h.symm)]
theorem unsafe_str {P : Program} {pt it ty e : TypeId} (hp : P.underlying pt = some (.pointer e)) (hc : P.cellsOf e = 1) {b off n cap : Nat} (l : List UInt8) (hn : n = l.length) (h0 : 0 < n) (h63 : n ≤ 1000000000) :
    SemOb P (vS (Builtin.unsafeString_ #[pt, it] ty #[.pointer (some ⟨b - 1, 0, none⟩), .int .i64 ((n : Nat) : Int)])) [some (.own (vec b off n cap 1 e ((chs l).flatMap (encI .u8))))] (pureRec (.string (bs l))) := fun w hw => by
  subst hn
  obtain ⟨hl, hnc, hcm, hcap⟩ : (vec b off l.length cap 1 e ((chs l).flatMap (encI .u8))).ok w := pre0 hw
  obtain ⟨rfl, g, cur, rfl, hg, hcs, htake⟩ := hcap (by omega)
  rw [Nat.mul_one] at hcs htake
  have hr := Lib.run_unsafeString_row (P := P) w pt it ty e hp hc g cur.size (by unfold World.shape?; rw [hg]) l (by intro h; rw [h] at h0; simp at h0) (by omega) (by omega) (fun j x hj => by
    have hlt : j < l.length := (List.getElem?_eq_some_iff.1 hj).1
    have e1 : cur.toList[j]? = ((chs l).flatMap (encI .u8))[j]? := by rw [← htake, List.getElem?_take, if_pos hlt]
    rw [← strCells_bs] at e1
    rw [addr_add, Nat.zero_add]
    unfold World.cell?
    rw [show w.heap[(⟨g, j, none⟩ : Addr).block]? = _ from hg]
    show cur[j]? = _
    rw [← Array.getElem?_toList, e1]
    simp [Lib.strCells, bs, hj])
  refine ⟨fun _ => 0, _, .inl (vS_run hr), trivial, ⟨?_, fun i r hi => by simp [pureRec] at hi, fun i r hi => by simp [pureRec] at hi, fun i j r s hi => by simp [pureRec] at hi⟩⟩
  have hex : exFp [some (.own (vec (g + 1) 0 l.length cap 1 e ((chs l).flatMap (encI .u8))))] g := ⟨0, _, rfl, rfl, by omega, rfl⟩
  exact freeze_below hex
end Go.Proofs.YtemfcbgmgfcjeaaDoor.Fl
