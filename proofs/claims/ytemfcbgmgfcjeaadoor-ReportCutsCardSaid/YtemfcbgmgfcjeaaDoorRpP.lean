/- The plain law: what a line says is read in it; the two readers agree. No program in sight. Conditions: in each. -/
import Derived.Test.YtemfcbgmgfcjeaaDoorRpF
set_option linter.unusedVariables false
set_option linter.unusedSimpArgs false
namespace Go.Proofs.YtemfcbgmgfcjeaaDoor.Fl
open Go.RowKit
/-! ### The plain law: what is put in a line is read in it -/
theorem joinW_one (w : List UInt8) : joinW [w] = w := Lib.join_one w [32]
theorem joinW_cons (w v : List UInt8) (r : List (List UInt8)) : joinW (w :: v :: r) = w ++ 32 :: joinW (v :: r) := by
  unfold joinW
  rw [Lib.join_cons, Lib.join_cons]
  simp [Lib.joinTail]
def noC (c : UInt8) (w : List UInt8) : Prop := ∀ b ∈ w, b ≠ c
theorem split_word {c : UInt8} : ∀ (w : List UInt8), noC c w → splitL c w = [w]
  | [], _ => rfl
  | b :: w, h => by
    have hb := h b (by simp)
    unfold splitL
    rw [if_neg hb, split_word w fun x hx => h x (by simp [hx])]; rfl
theorem split_go {c : UInt8} (s : List UInt8) : ∀ (w : List UInt8), noC c w → splitL c (w ++ c :: s) = w :: splitL c s
  | [], _ => by
    show splitL c (c :: s) = _
    conv => lhs; unfold splitL
    rw [if_pos rfl]
  | b :: w, h => by
    have hb := h b (by simp)
    show splitL c (b :: (w ++ c :: s)) = _
    conv => lhs; unfold splitL
    rw [if_neg hb, split_go s w fun x hx => h x (by simp [hx])]; rfl
theorem split_join : ∀ (ws : List (List UInt8)) (w : List UInt8), noC 32 w → (∀ v ∈ ws, noC 32 v) → splitL 32 (joinW (w :: ws)) = w :: ws
  | [], w, h, _ => by rw [joinW_one, split_word w h]
  | v :: ws, w, h, hs => by
    rw [joinW_cons, split_go _ w h, split_join ws v (hs v (by simp)) fun u hu => hs u (by simp [hu])]
theorem dig_ok {k : Nat} (h : k < 10) : digB (UInt8.ofNat (48 + k)) = true ∧ (((UInt8.ofNat (48 + k)).toNat : Nat) : Int) - 48 = (k : Int) := by
  have e : (UInt8.ofNat (48 + k)).toNat = 48 + k := by rw [UInt8.toNat_ofNat']; omega
  rw [digB_iff, e]; omega
theorem decF_dig : ∀ (f u : Nat), ∀ b ∈ decF f u, digB b = true
  | 0, _, b, hb => by simp [decF] at hb
  | f + 1, u, b, hb => by
    unfold decF at hb
    split at hb
    · rename_i h
      simp only [List.mem_singleton] at hb
      rw [hb]; exact (dig_ok h).1
    · rcases List.mem_append.1 hb with hb | hb
      · exact decF_dig f _ b hb
      · simp only [List.mem_singleton] at hb
        rw [hb]; exact (dig_ok (Nat.mod_lt _ (by decide))).1
def fnum (n : Int) (w : List UInt8) : Int := w.foldl (fun n c => 10 * n + ((c.toNat : Int) - 48)) n
theorem wNum_is (w : List UInt8) : wNum w = fnum 0 w := by unfold wNum wTo fnum; rw [List.take_length]
theorem fnum_app (n : Int) (a b : List UInt8) : fnum n (a ++ b) = fnum (fnum n a) b := List.foldl_append
theorem decF_num : ∀ (f u : Nat), u < 10 ^ f → 0 < f → fnum 0 (decF f u) = (u : Int)
  | 0, _, _, h => absurd h (by decide)
  | f + 1, u, h, _ => by
    unfold decF
    split
    · rename_i hu
      show 10 * 0 + _ = _
      rw [(dig_ok hu).2]; omega
    · rename_i hu
      have hf : 0 < f := by
        rcases Nat.eq_zero_or_pos f with rfl | h0
        · simp at h; omega
        · exact h0
      rw [fnum_app, decF_num f (u / 10) (by rw [Nat.pow_succ] at h; omega) hf]
      show 10 * _ + _ = _
      rw [(dig_ok (Nat.mod_lt u (by decide))).2]; omega
theorem decF_short : ∀ (f k u : Nat), u < 10 ^ k → 0 < k → k ≤ f → (decF f u).length ≤ k
  | 0, k, u, _, h, h2 => by omega
  | f + 1, k, u, h, hk, hf => by
    unfold decF
    split
    · simp; omega
    · rename_i hu
      obtain ⟨g, rfl⟩ : ∃ g, k = g + 1 := ⟨k - 1, by omega⟩
      have hg : 0 < g := by
        rcases Nat.eq_zero_or_pos g with rfl | h0
        · simp at h; omega
        · exact h0
      have := decF_short f g (u / 10) (by rw [Nat.pow_succ] at h; omega) hg (by omega)
      simp; omega
theorem decF_pos : ∀ (f u : Nat), 0 < f → decF f u ≠ []
  | 0, _, h => absurd h (by decide)
  | f + 1, u, _ => by unfold decF; split <;> simp
theorem decL_pos {n : Int} (h : 0 ≤ n) : decL n = decF 20 n.toNat := by unfold decL; rw [if_neg (by omega)]
theorem decL_dig {n : Int} (h : 0 ≤ n) : ∀ b ∈ decL n, digB b = true := by rw [decL_pos h]; exact decF_dig 20 _
theorem dig_ne {b : UInt8} (h : digB b = true) : b ≠ 32 := by rintro rfl; revert h; decide
theorem decL_no {n : Int} (h : 0 ≤ n) : noC 32 (decL n) := fun b hb => dig_ne (decL_dig h b hb)
theorem decL_num {n : Int} (h : 0 ≤ n) (h2 : n ≤ 1099511627776) : wNum (decL n) = n := by
  rw [wNum_is, decL_pos h, decF_num 20 _ (by omega) (by decide)]; omega
theorem decL_ok {n : Int} (h : 0 ≤ n) (h2 : n ≤ 1099511627776) : wOk (decL n) = true := by
  unfold wOk
  rw [List.all_eq_true.2 (decL_dig h), decide_eq_true (by rw [decL_pos h]; exact decF_short 20 15 _ (by omega) (by decide) (by decide))]; rfl
theorem mayR_all {r : Rep} (h : mayR r = true) : (0 ≤ r.1 ∧ r.1 ≤ 1099511627776) ∧ (0 ≤ r.2.1 ∧ r.2.1 ≤ 1099511627776) ∧ (0 ≤ r.2.2.1 ∧ r.2.2.1 ≤ 1099511627776) ∧ (0 ≤ r.2.2.2.1 ∧ r.2.2.2.1 ≤ 1099511627776) ∧ (0 ≤ r.2.2.2.2 ∧ r.2.2.2.2 ≤ 1099511627776) := by
  simp only [mayR, Bool.and_eq_true, okN_iff] at h
  omega
theorem nm_no (j : Nat) : noC 32 (nm j) := by
  rcases j with _ | _ | _ | _ | _ | j
  iterate 5 (intro b hb; revert b; decide)
  intro b hb; simp [nm, names5, List.getD] at hb
theorem line_split {r : Rep} (h : mayR r = true) : splitL 32 (lineL r) = [nm 0, decL r.1, nm 1, decL r.2.1, nm 2, decL r.2.2.1, nm 3, decL r.2.2.2.1, nm 4, decL r.2.2.2.2] := by
  obtain ⟨h1, h2, h3, h4, h5⟩ := mayR_all h
  refine split_join _ _ (nm_no 0) fun v hv => ?_
  simp only [List.mem_cons, List.not_mem_nil, or_false] at hv
  rcases hv with rfl | rfl | rfl | rfl | rfl | rfl | rfl | rfl | rfl
  · exact decL_no h1.1
  · exact nm_no 1
  · exact decL_no h2.1
  · exact nm_no 2
  · exact decL_no h3.1
  · exact nm_no 3
  · exact decL_no h4.1
  · exact nm_no 4
  · exact decL_no h5.1
theorem key1 {r : Rep} (h : mayR r = true) : readR (lineL r) = r ∧ readB (lineL r) = true := by
  have hs := line_split h
  obtain ⟨h1, h2, h3, h4, h5⟩ := mayR_all h
  have hr : rOk (lineL r) = true := by
    unfold rOk wd
    rw [hs]
    show (decide (10 = 10) && (wOk (decL r.1) && (wOk (decL r.2.1) && (wOk (decL r.2.2.1) && (wOk (decL r.2.2.2.1) && wOk (decL r.2.2.2.2)))))) = true
    rw [decL_ok h1.1 h1.2, decL_ok h2.1 h2.2, decL_ok h3.1 h3.2, decL_ok h4.1 h4.2, decL_ok h5.1 h5.2]; rfl
  have hn : rNum (lineL r) = r := by
    unfold rNum wd
    rw [hs]
    show (wNum (decL r.1), wNum (decL r.2.1), wNum (decL r.2.2.1), wNum (decL r.2.2.2.1), wNum (decL r.2.2.2.2)) = r
    rw [decL_num h1.1 h1.2, decL_num h2.1 h2.2, decL_num h3.1 h3.2, decL_num h4.1 h4.2, decL_num h5.1 h5.2]
  unfold readR readB
  rw [hr, if_pos rfl, hn, decide_eq_true rfl]; exact ⟨rfl, rfl⟩
/-! ### The reference reads it too -/
def rrun (s : RSt) : List UInt8 → Option RSt
  | [] => some s
  | c :: l => (rstep s c).bind fun t => rrun t l
theorem rrun_app (a b : List UInt8) : ∀ s, rrun s (a ++ b) = (rrun s a).bind fun t => rrun t b := by
  induction a with
  | nil => intro s; rfl
  | cons c a ih =>
    intro s
    show (rstep s c).bind _ = ((rstep s c).bind _).bind _
    cases rstep s c with
    | none => rfl
    | some t => exact ih t
theorem rrun_one (s : RSt) (c : UInt8) : rrun s [c] = rstep s c := by
  show (rstep s c).bind _ = _
  cases rstep s c <;> rfl
theorem refTo_is (l : List UInt8) : ∀ i, i ≤ l.length → refTo l i = rrun ([0, 0, 0, 0, 0], 0, false) (l.take i)
  | 0, _ => by rw [List.take_zero]; rfl
  | i + 1, h => by
    show (refTo l i).bind _ = _
    rw [refTo_is l i (by omega), List.take_add_one, List.getElem?_eq_getElem (by omega), Option.toList_some, rrun_app]
    congr 1
    funext t
    rw [rrun_one, List.getD, List.getElem?_eq_getElem (by omega)]; rfl
theorem run_skip : ∀ (w : List UInt8) (x : List Int) (q : Nat) (t : Bool), (∀ b ∈ w, digB b = false) → w ≠ [] → rrun (x, q, t) w = some (x, q, false)
  | [], _, _, _, _, h => absurd rfl h
  | c :: w, x, q, t, h, _ => by
    have hc := h c (by simp)
    show (rstep (x, q, t) c).bind _ = _
    rw [show rstep (x, q, t) c = some (x, q, false) by unfold rstep; rw [hc]; rfl]
    show rrun (x, q, false) w = _
    cases w with
    | nil => rfl
    | cons d w => exact run_skip (d :: w) x q false (fun b hb => h b (by simp [hb])) (by simp)
theorem fnum_mono : ∀ (w : List UInt8) (v : Int), 0 ≤ v → (∀ b ∈ w, digB b = true) → v ≤ fnum v w
  | [], v, _, _ => Int.le_refl _
  | c :: w, v, h, hd => by
    have hc := digB_iff.1 (hd c (by simp))
    have := fnum_mono w (10 * v + ((c.toNat : Int) - 48)) (by omega) fun b hb => hd b (by simp [hb])
    show v ≤ fnum (10 * v + ((c.toNat : Int) - 48)) w
    omega
theorem run_more : ∀ (w : List UInt8) (x : List Int) (q : Nat) (v : Int), 0 ≤ v → q ≤ 4 → q < x.length → (∀ b ∈ w, digB b = true) → fnum v w ≤ 1099511627776 → rrun (x.set q v, q + 1, true) w = some (x.set q (fnum v w), q + 1, true)
  | [], _, _, _, _, _, _, _, _ => rfl
  | c :: w, x, q, v, h, hq, hx, hd, hf => by
    have hc := hd c (by simp)
    have hc' := digB_iff.1 hc
    have hm := fnum_mono (c :: w) v h hd
    show (rstep (x.set q v, q + 1, true) c).bind _ = _
    have hg : (x.set q v).getD q 0 = v := by rw [List.getD, List.getElem?_set_self hx]; rfl
    rw [show rstep (x.set q v, q + 1, true) c = some (x.set q (10 * v + ((c.toNat : Int) - 48)), q + 1, true) by
      unfold rstep
      rw [if_pos hc]
      show (if 4 < q ∨ (x.set q v).getD q 0 > 1099511627776 then none else some ((x.set q v).set q (10 * (x.set q v).getD q 0 + ((c.toNat : Int) - 48)), q + 1, true)) = _
      rw [hg, if_neg (by omega), List.set_set]]
    exact run_more w x q _ (by omega) hq hx (fun b hb => hd b (by simp [hb])) hf
theorem run_num {w : List UInt8} {x : List Int} {q : Nat} (hw : w ≠ []) (hq : q ≤ 4) (hx : q < x.length) (h0 : x.getD q 0 = 0) (hd : ∀ b ∈ w, digB b = true) (hf : fnum 0 w ≤ 1099511627776) : rrun (x, q, false) w = some (x.set q (fnum 0 w), q + 1, true) := by
  cases w with
  | nil => exact absurd rfl hw
  | cons c w =>
    have hc := hd c (by simp)
    have hc' := digB_iff.1 hc
    show (rstep (x, q, false) c).bind _ = _
    rw [show rstep (x, q, false) c = some (x.set q (10 * 0 + ((c.toNat : Int) - 48)), q + 1, true) by
      unfold rstep
      rw [if_pos hc]
      show (if 4 < q ∨ x.getD q 0 > 1099511627776 then none else some (x.set q (10 * x.getD q 0 + ((c.toNat : Int) - 48)), q + 1, true)) = _
      rw [h0, if_neg (by omega)]]
    exact run_more w x q _ (by omega) hq hx (fun b hb => hd b (by simp [hb])) hf
theorem run_dec {n : Int} {x : List Int} {q : Nat} (h : 0 ≤ n) (h2 : n ≤ 1099511627776) (hq : q ≤ 4) (hx : q < x.length) (h0 : x.getD q 0 = 0) : rrun (x, q, false) (decL n) = some (x.set q n, q + 1, true) := by
  have e := decL_num h h2
  rw [wNum_is] at e
  rw [run_num (by rw [decL_pos h]; exact decF_pos 20 _ (by decide)) hq hx h0 (decL_dig h) (by omega), e]
theorem run_line {r : Rep} (h : mayR r = true) : rrun ([0, 0, 0, 0, 0], 0, false) (lineL r ++ [10]) = some ([r.1, r.2.1, r.2.2.1, r.2.2.2.1, r.2.2.2.2], 5, false) := by
  obtain ⟨h1, h2, h3, h4, h5⟩ := mayR_all h
  obtain ⟨a, b, c, d, e⟩ := r
  rw [← line_eq]
  simp only [List.append_assoc]
  rw [rrun_app, run_skip [99, 121, 99, 108, 101, 32] _ _ _ (by decide) (by decide)]; simp only [Option.bind_some]
  rw [rrun_app, run_dec h1.1 h1.2 (by decide) (by decide) rfl]; simp only [Option.bind_some]
  rw [rrun_app, run_skip [32, 102, 114, 101, 101, 32] _ _ _ (by decide) (by decide)]; simp only [Option.bind_some]
  rw [rrun_app, run_dec h2.1 h2.2 (by decide) (by simp) rfl]; simp only [Option.bind_some]
  rw [rrun_app, run_skip [32, 108, 105, 118, 101, 32] _ _ _ (by decide) (by decide)]; simp only [Option.bind_some]
  rw [rrun_app, run_dec h3.1 h3.2 (by decide) (by simp) rfl]; simp only [Option.bind_some]
  rw [rrun_app, run_skip [32, 102, 108, 111, 97, 116, 105, 110, 103, 32] _ _ _ (by decide) (by decide)]; simp only [Option.bind_some]
  rw [rrun_app, run_dec h4.1 h4.2 (by decide) (by simp) rfl]; simp only [Option.bind_some]
  rw [rrun_app, run_skip [32, 102, 114, 101, 101, 100, 32] _ _ _ (by decide) (by decide)]; simp only [Option.bind_some]
  rw [rrun_app, run_dec h5.1 h5.2 (by decide) (by simp) rfl]; simp only [Option.bind_some]
  rw [run_skip [10] _ _ _ (by decide) (by decide)]
  rfl
theorem key2 {r : Rep} (h : mayR r = true) : refR (lineL r ++ [10]) = r ∧ refB (lineL r ++ [10]) = true := by
  have e := refTo_is (lineL r ++ [10]) _ (Nat.le_refl _)
  rw [List.take_length, run_line h] at e
  unfold refR refB
  rw [e]
  refine ⟨rfl, ?_⟩
  show (mayR r && _) = true
  rw [h, Bool.true_and]; exact decide_eq_true rfl
theorem readB_t {t : List UInt8} (h : readB t = true) : lineL (readR t) = t := by
  unfold readB at h
  rw [Bool.and_eq_true] at h
  unfold readR
  rw [if_pos h.1]; exact of_decide_eq_true h.2
theorem refB_t {t : List UInt8} (h : refB t = true) : mayR (refR t) = true ∧ lineL (refR t) ++ [10] = t := by
  unfold refB at h
  unfold refR
  cases e : refTo t t.length with
  | none => rw [e] at h; cases h
  | some s =>
    rw [e] at h
    simp only [Bool.and_eq_true] at h
    exact ⟨h.1, of_decide_eq_true h.2⟩
theorem getD_app {x : List Rep} {r d : Rep} {j : Nat} (h : j < x.length) : (x ++ [r]).getD j d = x.getD j d := by
  simp only [List.getD]; rw [List.getElem?_append_left h]
theorem stepOk_app {x : List Rep} {r : Rep} {j : Nat} (h : j < x.length) : stepOk (x ++ [r]) j = stepOk x j := by
  unfold stepOk
  rw [getD_app h, getD_app (show j - 1 < x.length by omega)]
theorem mayTo_app {x : List Rep} {r : Rep} : ∀ n, n ≤ x.length → mayTo (x ++ [r]) n = mayTo x n
  | 0, _ => rfl
  | n + 1, h => by rw [mayTo_succ, mayTo_succ, mayTo_app n (by omega), stepOk_app (by omega)]
theorem may_app (x : List Rep) (r : Rep) : mayL (x ++ [r]) = (mayL x && (mayR r && (decide (x.length = 0) || decide ((x.getD (x.length - 1) (0, 0, 0, 0, 0)).1 < r.1)))) := by
  unfold mayL
  rw [show (x ++ [r]).length = x.length + 1 by simp, mayTo_succ, mayTo_app _ (Nat.le_refl _)]
  congr 1
  unfold stepOk
  rw [show (x ++ [r]).getD x.length (0, 0, 0, 0, 0) = r by simp [List.getD]]
  congr 1
  cases x with
  | nil => rfl
  | cons y x =>
    rw [getD_app (by simp)]
theorem ok_eq {l : List UInt8} {i : Nat} {x : List Rep} (hx : mayL x = true) : getOk l i x = rgOk l i x ∧ (getOk l i x = true → readR (cutT l i) = refR (rT l i) ∧ mayL (x ++ [readR (cutT l i)]) = true) := by
  have h1 : getOk l i x = true → rgOk l i x = true ∧ readR (cutT l i) = refR (rT l i) ∧ mayL (x ++ [readR (cutT l i)]) = true := fun h => by
    unfold getOk at h
    simp only [Bool.and_eq_true] at h
    obtain ⟨hc, hb, hm⟩ := h
    have hl := readB_t hb
    have hm' := hm
    rw [may_app, hx, Bool.true_and, Bool.and_eq_true] at hm'
    have hk := key2 hm'.1
    rw [hl] at hk
    refine ⟨?_, hk.1.symm, hm⟩
    unfold rgOk rT
    rw [hc, hk.2, hk.1, hm'.2]; rfl
  have h2 : rgOk l i x = true → getOk l i x = true := fun h => by
    unfold rgOk at h
    simp only [Bool.and_eq_true] at h
    obtain ⟨hc, hb, hm⟩ := h
    have hr := refB_t hb
    have hl : lineL (refR (rT l i)) = cutT l i := List.append_cancel_right hr.2
    have hk := key1 hr.1
    rw [hl] at hk
    unfold getOk
    rw [hc, hk.2, hk.1, may_app, hx, hr.1, hm]; rfl
  refine ⟨?_, fun h => (h1 h).2⟩
  cases e : getOk l i x with
  | true => exact (h1 e).1.symm
  | false =>
    cases e2 : rgOk l i x with
    | true => rw [h2 e2] at e; cases e
    | false => rfl
theorem getF_eq (l : List UInt8) : ∀ (f i : Nat) (x : List Rep), mayL x = true → getF l f i x = rgF l f i x
  | 0, _, _, _ => rfl
  | f + 1, i, x, hx => by
    have h := ok_eq (l := l) (i := i) hx
    show (if i < l.length then _ else _) = (if i < l.length then _ else _)
    by_cases hi : i < l.length
    · rw [if_pos hi, if_pos hi, ← h.1]
      cases e : getOk l i x with
      | true =>
        have h3 := h.2 e
        rw [if_pos rfl, if_pos rfl, ← h3.1]
        exact getF_eq l f _ _ h3.2
      | false => rw [if_neg (by simp), if_neg (by simp)]
    · rw [if_neg hi, if_neg hi]
theorem get_eq (l : List UInt8) : getL l = rgL l := getF_eq l _ 0 [] rfl

end Go.Proofs.YtemfcbgmgfcjeaaDoor.Fl
