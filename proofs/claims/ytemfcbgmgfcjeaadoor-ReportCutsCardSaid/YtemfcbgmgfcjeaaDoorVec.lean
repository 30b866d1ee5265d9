/- Slices: owned ones (vec), and what append, make, copy, clear, a slice expression, a store of an element come to. Plain lemmas; conditions: in each. -/
import Derived.Test.YtemfcbgmgfcjeaaDoorMem
import Derived.Laws.Append
import Derived.Laws.AppendOwn
import Derived.Laws.OwnMore
import Derived.Laws.MakeOwn
import Derived.Laws.CopyRow
set_option linter.unusedVariables false
set_option linter.unusedSimpArgs false
namespace Go.Proofs.YtemfcbgmgfcjeaaDoor.Fl
open Go.RowKit
/-! ### Owned slices -/
/-- A slice of a block of one's own: so many elements of k cells each; room behind them. Without room nothing is said of memory. -/
def vec (b off n cap k : Nat) (e : TypeId) (cs : List Value) : Ro where
  fp x := cap ≠ 0 ∧ x + 1 = b
  ok w := cs.length = n * k ∧ n ≤ cap ∧ cap ≤ maxLen ∧ (cap ≠ 0 → off = 0 ∧ ∃ g cur, b = g + 1 ∧ w.heap[g]? = some (.cells cur e (0, 0)) ∧ cur.size = cap * k ∧ cur.toList.take (n * k) = cs)
  stable w w' h hw := by
    obtain ⟨h1, h2, h3, h4⟩ := hw
    refine ⟨h1, h2, h3, fun hc => ?_⟩
    obtain ⟨h5, g, cur, rfl, hg, h6⟩ := h4 hc
    exact ⟨h5, g, cur, rfl, (h g ⟨hc, rfl⟩).trans hg, h6⟩
  lt w hw b' hb := by
    obtain ⟨h1, h2, h3, h4⟩ := hw
    obtain ⟨_, g, cur, rfl, hg, _⟩ := h4 hb.1
    obtain rfl : b' = g := by have := hb.2; omega
    exact (Array.getElem?_eq_some_iff.1 hg).1
theorem vec_nil (k : Nat) (e : TypeId) (b off : Nat) (w : World) : (vec b off 0 0 k e []).ok w := ⟨by simp, Nat.le_refl _, Nat.zero_le _, fun h => absurd rfl h⟩
theorem vec_zero {b off n cap k : Nat} {e : TypeId} {cs : List Value} {w : World} (h : (vec b off n cap k e cs).ok w) : b = 0 → cap = 0 := fun hb => by
  by_cases hc : cap = 0
  · exact hc
  · obtain ⟨_, g, _, e, _⟩ := h.2.2.2 hc
    omega
theorem vec_seg {b off n cap k : Nat} {e : TypeId} {cs : List Value} {w : World} (h : (vec b off n cap k e cs).ok w) : (seg b off cs).ok w := by
  obtain ⟨h1, h2, h3, h4⟩ := h
  intro hne
  have hc : cap ≠ 0 := by
    rintro rfl
    have : n = 0 := by omega
    subst this
    exact hne (List.eq_nil_of_length_eq_zero (by simpa using h1))
  obtain ⟨rfl, g, cur, rfl, hg, hs, ht⟩ := h4 hc
  refine ⟨g, cur, e, (0, 0), rfl, hg, fun i hi => ?_⟩
  rw [← ht, List.getElem?_take, if_pos (by rw [← h1]; exact hi)]
  simp
theorem vec_seg_fp {b off n cap k : Nat} {e : TypeId} {cs : List Value} {w : World} (h : (vec b off n cap k e cs).ok w) : ∀ x, (seg b off cs).fp x → (vec b off n cap k e cs).fp x := by
  intro x hx
  refine ⟨?_, hx.2⟩
  rintro rfl
  have : n = 0 := by have := h.2.1; omega
  subst this
  exact hx.1 (List.eq_nil_of_length_eq_zero (by simpa using h.1))
/-- What is known at a place may be told otherwise. -/
theorem Ent.at {L : Mem} (k : Nat) {r r' : Res} (hk : L[k]? = some (some r)) (hi : ∀ w, r.ok w → r'.ok w ∧ ∀ b, r'.fp b → r.fp b) (he : r'.ex = true → r.ex = true) : Ent L (L.set k (some r')) := by
  intro C w h
  have hr := hi w (h.ok k r hk)
  have get : ∀ (i : Nat) s, (L.set k (some r'))[i]? = some (some s) → (i = k ∧ s = r') ∨ (i ≠ k ∧ L[i]? = some (some s)) := by
    intro i s hs
    rcases get_set hs with ⟨h1, h2⟩ | h2
    · exact .inl ⟨h1, (Option.some.inj h2).symm⟩
    · exact .inr h2
  refine ⟨h.below, fun i s hs => ?_, fun i s hs b hb => ?_, fun i j s s' hs hs' hex hne b hb hb' => ?_⟩
  · rcases get i s hs with ⟨_, rfl⟩ | ⟨_, hs⟩
    · exact hr.1
    · exact h.ok i s hs
  · rcases get i s hs with ⟨_, rfl⟩ | ⟨_, hs⟩
    · rcases h.fp k r hk b (hr.2 b hb) with h1 | ⟨h1, h2⟩
      · exact .inl h1
      · refine .inr ⟨?_, h2⟩
        cases hx : s.ex with
        | false => rfl
        | true => rw [he hx] at h1; cases h1
    · exact h.fp i s hs b hb
  · rcases get i s hs with ⟨e1, e2⟩ | ⟨_, hs1⟩
    · subst e1; subst e2
      rcases get j s' hs' with ⟨e1, _⟩ | ⟨_, hs2⟩
      · exact hne e1.symm
      · exact h.nd i j r s' hk hs2 (he hex) hne b (hr.2 b hb) hb'
    · rcases get j s' hs' with ⟨e1, e2⟩ | ⟨_, hs2⟩
      · subst e1; subst e2
        exact h.nd i j s r hs1 hk hex hne b hb (hr.2 b hb')
      · exact h.nd i j s s' hs1 hs2 hex hne b hb hb'
/-- Another fact, out of one that is known. -/
theorem Ent.more {L : Mem} (k : Nat) {r r' : Res} (hk : L[k]? = some (some r)) (hi : ∀ w, r.ok w → r'.ok w ∧ ∀ b, r'.fp b → r.fp b) (he : r'.ex = false) (hr0 : r.ex = false) : Ent L (L ++ [some r']) := by
  intro C w h
  have hr := hi w (h.ok k r hk)
  have get : ∀ (i : Nat) s, (L ++ [some r'])[i]? = some (some s) → (i = L.length ∧ s = r') ∨ L[i]? = some (some s) := by
    intro i s hs
    rw [List.getElem?_append] at hs
    split at hs
    · exact .inr hs
    · rename_i hlt
      have : i - L.length = 0 := by
        cases e : i - L.length with
        | zero => rfl
        | succ m => rw [e] at hs; simp at hs
      rw [this] at hs
      simp at hs
      exact .inl ⟨by omega, hs.symm⟩
  refine ⟨h.below, fun i s hs => ?_, fun i s hs b hb => ?_, fun i j s s' hs hs' hex hne b hb hb' => ?_⟩
  · rcases get i s hs with ⟨_, rfl⟩ | hs
    · exact hr.1
    · exact h.ok i s hs
  · rcases get i s hs with ⟨_, rfl⟩ | hs
    · rcases h.fp k r hk b (hr.2 b hb) with h1 | ⟨_, h2⟩
      · exact .inl h1
      · exact .inr ⟨he, h2⟩
    · exact h.fp i s hs b hb
  · rcases get i s hs with ⟨_, e2⟩ | hs1
    · rw [e2, he] at hex; cases hex
    · rcases get j s' hs' with ⟨_, e2⟩ | hs2
      · rw [e2] at hb'
        refine h.nd i k s r hs1 hk hex (fun e => ?_) b hb (hr.2 b hb')
        subst e
        rw [hs1] at hk
        have e3 := Option.some.inj (Option.some.inj hk)
        rw [e3, hr0] at hex; cases hex
      · exact h.nd i j s s' hs1 hs2 hex hne b hb hb'
theorem freeze {b off n cap k : Nat} {e : TypeId} {cs : List Value} : ∀ w, (Res.own (vec b off n cap k e cs)).ok w → (Res.ro (seg b off cs)).ok w ∧ ∀ x, (Res.ro (seg b off cs)).fp x → (Res.own (vec b off n cap k e cs)).fp x :=
  fun _ h => ⟨vec_seg h, vec_seg_fp h⟩
/-- An own block is a vec. -/
theorem blk_vec {b n k : Nat} {e : TypeId} {cs : List Value} (hl : cs.length = n * k) (hm : n ≤ maxLen) : ∀ w, (Res.blk b cs e).ok w → (Res.own (vec (b + 1) 0 n n k e cs)).ok w ∧ ∀ x, (Res.own (vec (b + 1) 0 n n k e cs)).fp x → (Res.blk b cs e).fp x :=
  fun w h => ⟨⟨hl, Nat.le_refl _, hm, fun _ => ⟨rfl, b, cs.toArray, rfl, h, by simpa using hl, by rw [← hl]; simp⟩⟩, fun x hx => by have h2 : x + 1 = b + 1 := hx.2; show x = b; omega⟩
/-! ### What is read -/
theorem reads_vec {P : Program} {b off o n cap k : Nat} {e : TypeId} {cs : List Value} {t : TypeId} {v : Value} (hb : b ≠ 0) (hv : loadV P t cs o = some v) {o' : Nat} (ho : o' = off + o) : Reads P (.own (vec b off n cap k e cs)) t ⟨b - 1, o', none⟩ v :=
  fun w hw => reads_sb hb hv ho w (vec_seg hw)
/-! ### Operations -/
def vS (s : Sem Value) : Sem Next := do pure (.value (← s))
theorem vS_run {P : Program} {s : Sem Value} {v : Value} {w w' : World} (h : s.run P w = .ok v w') : (vS s).run P w = .ok (.value v) w' := run_value h
/-- An operation that leaves memory alone. -/
theorem SemOb.quiet {P : Program} {s : Sem Value} {L : Mem} {v : Value} (h : ∀ w, (∀ (i : Nat) r, L[i]? = some (some r) → r.ok w) → s.run P w = .ok v w) : SemOb P (vS s) L (pureRec v) := fun w hw =>
  ⟨fun _ => 0, w, .inl (vS_run (h w hw.ok)), trivial, ⟨BelowX.refl w, fun i r hi => by simp [pureRec] at hi, fun i r hi => by simp [pureRec] at hi, fun i j r s hi => by simp [pureRec] at hi⟩⟩
theorem first_seg {P : Program} {w : World} {b off n k len cap : Nat} {cs : List Value} (h : (seg b off cs).ok w) (hl : cs.length = n * k) (hb : b = 0 → n = 0) : (Builtin.firstCells k n (.slice (sb b off) len cap)).run P w = .ok cs.toArray w := by
  cases b with
  | zero =>
    have : n = 0 := hb rfl
    subst this
    obtain rfl := List.eq_nil_of_length_eq_zero (by simpa using hl)
    rfl
  | succ b =>
    show (loadCells ⟨b, off, none⟩ (n * k)).run P w = _
    unfold loadCells
    have := seg_loadCells (P := P) (seg_cells h) 0 (n * k) 0 #[] (by omega)
    rw [show (⟨b, off, none⟩ : Addr) = ⟨b, off + 0, none⟩ from rfl, this]
    congr 1
    simp [← hl]
theorem seg_drew {b off : Nat} {cs : List Value} {w : World} (h : (seg b off cs).ok w) : (seg b off cs).ok w.drew := (seg b off cs).stable w w.drew (fun _ _ => rfl) h
/-- Where an append makes a new block. -/
theorem run_append_new {P : Program} {w : World} {t ty e : TypeId} {i : TypeInfo} {z : Value} (ht : P.underlying t = some (.slice e)) (hi : P.info? e = some i) (hz : i.zero = some z) {b off n cap b2 o2 m c2 : Nat} {cs cs2 : List Value}
    (h : (seg b off cs).ok w) (hl : cs.length = n * i.size) (hb : b = 0 → n = 0) (h2 : (seg b2 o2 cs2).ok w) (hl2 : cs2.length = m * i.size) (hb2 : b2 = 0 → m = 0) (hgrow : cap < n + m) (hbytes : (n + m) * i.bytes ≤ 140737488355328) (h63 : n + m ≤ 1000000000000) :
    (Builtin.append_ #[t, t] ty #[.slice (sb b off) n cap, .slice (sb b2 o2) m c2]).run P w =
      .ok (.slice (some ⟨w.heap.size, 0, none⟩) (n + m) (grownCap w (n + m) cap e)) (w.drew.alloc (.cells (cs.toArray ++ cs2.toArray ++ Builtin.zeroCells z.cells (grownCap w (n + m) cap e - (n + m))) e)) := by
  have hn : ¬ (n + m ≤ cap) := by omega
  have h63' : ¬ (9223372036854775807 < ((n : Int) + (m : Int))) := by omega
  have h48' : ¬ (281474976710656 < Builtin.nextslicecap (n + m) cap * i.bytes) := by have := growslice_fits (old := cap) (need := n + m) (by omega) hbytes; omega
  have f1 := first_seg (P := P) (len := n) (cap := cap) (seg_drew h) hl hb
  have f2 := first_seg (P := P) (len := m) (cap := c2) (seg_drew h2) hl2 hb2
  simp [Builtin.append_, run_underlying ht, sizeOf, typeInfo, zeroValue, hi, hz, Builtin.lenOf, hn, h63', h48', Question.forced, f1, f2, newRow, grownCap]
  congr 2; apply Array.toList_inj.1; simp
theorem vec_new {w : World} {n m k cap : Nat} {e : TypeId} {z : Array Value} {cs cs2 : List Value} (hl : cs.length = n * k) (hl2 : cs2.length = m * k) (hz : z.size = k) (hge : n + m ≤ cap) (hm : cap ≤ maxLen) :
    (vec (w.heap.size + 1) 0 (n + m) cap k e (cs ++ cs2)).ok (w.drew.alloc (.cells (cs.toArray ++ cs2.toArray ++ Builtin.zeroCells z (cap - (n + m))) e)) := by
  have hlen : (cs ++ cs2).length = (n + m) * k := by rw [List.length_append, hl, hl2, Nat.add_mul]
  refine ⟨hlen, hge, hm, fun _ => ⟨rfl, w.heap.size, _, rfl, heap_alloc_new w.drew _, ?_, ?_⟩⟩
  · simp only [Array.size_append, List.size_toArray, size_zeroCells, hz, hl, hl2, ← Nat.add_mul]
    congr 1
    omega
  · simp only [Array.toList_append, List.append_assoc]
    rw [← List.append_assoc, ← hlen]
    exact List.take_left
theorem below_new {M : Nat → Prop} (w : World) (o : Obj) : BelowX M w (w.drew.alloc o) := ⟨rfl, rfl, rfl, by simp, fun k hk _ => heap_alloc_old w.drew _ k hk⟩
/-- What an append comes to: a slice of one's own. y 0, y 1: its block and where it begins; y 2: its room. -/
def appRec (n k : Nat) (e : TypeId) (cs : List Value) : CRec := ⟨fun y => .slice (sb (y 0) (y 1)) n (y 2), fun y => [n ≤ y 2, y 0 = 0 → y 2 = 0], fun y => [.own (vec (y 0) (y 1) n (y 2) k e cs)]⟩
def gv3 (a b c : Nat) : Nat → Nat
  | 0 => a
  | 1 => b
  | _ => c
theorem append_fresh {P : Program} {w : World} {L : Mem} {t ty e : TypeId} {i : TypeInfo} {z : Value} {k : Nat} (ht : P.underlying t = some (.slice e)) (hi : P.info? e = some i) (hz : i.zero = some z) (hk : i.size = k) (hzs : z.cells.size = k) {b off n cap b2 o2 m c2 : Nat} {cs cs2 : List Value}
    (h : (seg b off cs).ok w) (hl : cs.length = n * k) (hb : b = 0 → n = 0) (h2 : (seg b2 o2 cs2).ok w) (hl2 : cs2.length = m * k) (hb2 : b2 = 0 → m = 0) (hgrow : cap < n + m) (hbytes : (n + m) * i.bytes ≤ 140737488355328) (h63 : n + m ≤ 1000000000000) :
    ∃ y w', ((vS (Builtin.append_ #[t, t] ty #[.slice (sb b off) n cap, .slice (sb b2 o2) m c2])).run P w = .ok (.value ((appRec (n + m) k e (cs ++ cs2)).val y)) w' ∨
      ((vS (Builtin.append_ #[t, t] ty #[.slice (sb b off) n cap, .slice (sb b2 o2) m c2])).run P w = .ok .skip w' ∧ (appRec (n + m) k e (cs ++ cs2)).val y = undef)) ∧ AllP ((appRec (n + m) k e (cs ++ cs2)).fs y) ∧ Own (ctxOf w L) w' (((appRec (n + m) k e (cs ++ cs2)).res y).map some) := by
  subst hk
  have hge := grownCap_ge w (n + m) cap e
  have hcm := grownCap_le_maxLen w (n + m) cap e (by unfold maxLen; omega)
  refine ⟨gv3 (w.heap.size + 1) 0 (grownCap w (n + m) cap e), _, .inl (vS_run (run_append_new ht hi hz h hl hb h2 hl2 hb2 hgrow hbytes h63)), ⟨hge, fun h => absurd h (Nat.succ_ne_zero _), trivial⟩, ?_⟩
  exact Own.one (below_new w _) (vec_new hl hl2 hzs hge hcm) (fun x hx => .inl (by have : x + 1 = w.heap.size + 1 := hx.2; omega))
theorem pre0 {w : World} {r : Res} {L : Mem} (h : PreOk w (some r :: L)) : r.ok w := h.ok 0 r rfl
theorem pre1 {w : World} {a : Option Res} {r : Res} {L : Mem} (h : PreOk w (a :: some r :: L)) : r.ok w := h.ok 1 r rfl
/-- append, onto what may be others' too: there is no room behind it, or nothing is appended to nothing. -/
theorem append_ro {P : Program} {t ty e : TypeId} {i : TypeInfo} {z : Value} {k : Nat} (ht : P.underlying t = some (.slice e)) (hi : P.info? e = some i) (hz : i.zero = some z) (hk : i.size = k) (hzs : z.cells.size = k) (b off n b2 o2 m c2 : Nat) (cs cs2 : List Value)
    (hl : cs.length = n * k) (hb : b = 0 → n = 0) (hl2 : cs2.length = m * k) (hb2 : b2 = 0 → m = 0) (hm : n = 0 ∨ 0 < m) (hbytes : (n + m) * i.bytes ≤ 140737488355328) (h63 : n + m ≤ 1000000000000) :
    SemOb P (vS (Builtin.append_ #[t, t] ty #[.slice (sb b off) n n, .slice (sb b2 o2) m c2])) [some (.ro (seg b off cs)), some (.ro (seg b2 o2 cs2))] (appRec (n + m) k e (cs ++ cs2)) := by
  intro w hw
  by_cases hm0 : m = 0
  · have hn : n = 0 := by omega
    subst hm0 hn
    obtain rfl := List.eq_nil_of_length_eq_zero (by simpa using hl)
    obtain rfl := List.eq_nil_of_length_eq_zero (by simpa using hl2)
    have f2 := first_seg (P := P) (len := 0) (cap := c2) (n := 0) (k := i.size) (pre1 hw) (by simp) hb2
    refine ⟨gv3 b off 0, w, .inl (vS_run ?_), ⟨Nat.le_refl _, fun _ => rfl, trivial⟩, Own.one (BelowX.refl w) (vec_nil k e b off w) (fun x hx => absurd rfl hx.1)⟩
    generalize sb b2 o2 = B2 at f2 ⊢
    cases b with
    | zero => simp [Builtin.append_, run_underlying ht, sizeOf, typeInfo, hi, Builtin.lenOf, f2, sb, gv3, appRec]
    | succ b => simp [Builtin.append_, run_underlying ht, sizeOf, typeInfo, hi, Builtin.lenOf, f2, sb, gv3, storeCells, appRec]
  · exact append_fresh ht hi hz hk hzs (pre0 hw) hl hb (pre1 hw) hl2 hb2 (by omega) hbytes h63
theorem plain_one : ∀ {v : Value}, plainV v = true → v.oneCell' = true := by
  intro v h
  cases v <;> first | rfl | (simp [plainV] at h)
theorem setRow_put {w : World} {g : Nat} {cur : Array Value} {e : TypeId} (hg : w.heap[g]? = some (.cells cur e (0, 0))) (l : List Value) : w.setRow g l.toArray = putBlk w ⟨g, l, e⟩ := by
  have hlt := (Array.getElem?_eq_some_iff.1 hg).1
  unfold putBlk
  have h2 := setRow_heap w g cur l.toArray e (0, 0) hg
  have h3 : ∀ k, k ≠ g → (w.setRow g l.toArray).heap[k]? = w.heap[k]? := fun k hk => setRow_other w g k _ hk
  have hh : (w.setRow g l.toArray).heap = w.heap.setIfInBounds g (.cells l.toArray e (0, 0)) := by
    apply Array.ext_getElem?
    intro j
    rw [Array.getElem?_setIfInBounds]
    by_cases e2 : g = j
    · subst e2; rw [if_pos rfl, if_pos hlt]; exact h2
    · rw [if_neg e2]; exact h3 j (fun h => e2 h.symm)
  cases hw : w.setRow g l.toArray
  rw [hw] at hh
  simp only at hh
  have := congrArg World.tape hw; have h4 := congrArg World.drawn hw; have h5 := congrArg World.os hw; have h6 := congrArg World.output hw
  simp only [World.setRow] at this h4 h5 h6
  simp only [← this, ← h4, ← h5, ← h6, hh]
/-- append, onto a slice of one's own. -/
theorem append_own {P : Program} {t ty e : TypeId} {i : TypeInfo} {z : Value} {k : Nat} (ht : P.underlying t = some (.slice e)) (hi : P.info? e = some i) (hz : i.zero = some z) (hk : i.size = k) (hzs : z.cells.size = k) (hk0 : 0 < k) (b off n cap b2 o2 m c2 : Nat) (cs cs2 : List Value)
    (hb : b = 0 → cap = 0) (hl2 : cs2.length = m * k) (hb2 : b2 = 0 → m = 0) (hpl : cs2.all plainV = true) (hbytes : (n + m) * i.bytes ≤ 140737488355328) (h63 : n + m ≤ 1000000000000) :
    SemOb P (vS (Builtin.append_ #[t, t] ty #[.slice (sb b off) n cap, .slice (sb b2 o2) m c2])) [some (.own (vec b off n cap k e cs)), some (.ro (seg b2 o2 cs2))] (appRec (n + m) k e (cs ++ cs2)) := by
  intro w hw
  have hv : (vec b off n cap k e cs).ok w := pre0 hw
  have h2 : (seg b2 o2 cs2).ok w := pre1 hw
  obtain ⟨hl, hnc, hcm, hcap⟩ := hv
  by_cases hroom : n + m ≤ cap
  · by_cases hc0 : cap = 0
    · have hn : n = 0 := by omega
      have hm : m = 0 := by omega
      subst hn hm hc0
      obtain rfl := List.eq_nil_of_length_eq_zero (by simpa using hl)
      obtain rfl := List.eq_nil_of_length_eq_zero (by simpa using hl2)
      have f2 := first_seg (P := P) (len := 0) (cap := c2) (n := 0) (k := i.size) h2 (by simp) hb2
      refine ⟨gv3 b off 0, w, .inl (vS_run ?_), ⟨Nat.le_refl _, fun _ => rfl, trivial⟩, Own.one (BelowX.refl w) (vec_nil k e b off w) (fun x hx => absurd rfl hx.1)⟩
      generalize sb b2 o2 = B2 at f2 ⊢
      cases b with
      | zero => simp [Builtin.append_, run_underlying ht, sizeOf, typeInfo, hi, Builtin.lenOf, f2, sb, gv3, appRec]
      | succ b => simp [Builtin.append_, run_underlying ht, sizeOf, typeInfo, hi, Builtin.lenOf, f2, sb, gv3, storeCells, appRec]
    · obtain ⟨rfl, g, cur, rfl, hg, hcs, htake⟩ := hcap hc0
      have hfit : n * i.size + cs2.length ≤ cur.size := by rw [hl2, hcs, hk, ← Nat.add_mul]; exact Nat.mul_le_mul_right _ hroom
      have f2 := first_seg (P := P) (len := m) (cap := c2) (k := i.size) (n := m) h2 (by rw [hk]; exact hl2) hb2
      have hst := run_storeCells_at P g (n * i.size) e cs2 0 cur w hg (by simpa using hfit) (fun u hu => plain_one (List.all_eq_true.1 hpl u hu))
      simp only [Nat.add_zero] at hst
      rw [setRow_put hg] at hst
      refine ⟨gv3 (g + 1) 0 cap, putBlk w ⟨g, cur.toList.take (n * i.size) ++ cs2 ++ cur.toList.drop (n * i.size + cs2.length), e⟩, .inl (vS_run ?_), ⟨hroom, fun h => absurd h (Nat.succ_ne_zero _), trivial⟩, ?_⟩
      · show _ = Result.ok (Value.slice (some ⟨g, 0, none⟩) (n + m) cap) _
        rw [show sb (g + 1) 0 = some ⟨g, 0, none⟩ from rfl]
        simp [Builtin.append_, run_underlying ht, sizeOf, typeInfo, hi, Builtin.lenOf, hroom, Addr.add_lit, show (Builtin.firstCells i.size m (Value.slice (sb b2 o2) m c2)).run P w = .ok cs2.toArray w from f2, hst]
      · have hlt := (Array.getElem?_eq_some_iff.1 hg).1
        have hex : exFp [some (.own (vec (g + 1) 0 n cap k e cs)), some (.ro (seg b2 o2 cs2))] g := ⟨0, _, rfl, rfl, hc0, rfl⟩
        refine Own.one ⟨rfl, rfl, rfl, by simp [putBlk], fun x _ hm => putBlk_other (fun e => hm (e ▸ hex))⟩ ?_ (fun x hx => .inr (.inl ?_))
        · refine ⟨by rw [List.length_append, hl, hl2, Nat.add_mul], hroom, hcm, fun _ => ⟨rfl, g, _, rfl, putBlk_has (x := ⟨g, _, e⟩) hlt, ?_, ?_⟩⟩
          · have h1 : (cur.toList.take (n * i.size) ++ cs2 ++ cur.toList.drop (n * i.size + cs2.length)).length = cur.size := by simp; omega
            simp only [List.size_toArray, h1, hcs]; rfl
          · rw [hk, htake, show (n + m) * k = (cs ++ cs2).length by rw [List.length_append, hl, hl2, Nat.add_mul]]
            exact List.take_left
        · have : x + 1 = g + 1 := hx.2
          obtain rfl : x = g := by omega
          exact hex
  · exact append_fresh ht hi hz hk hzs (vec_seg ⟨hl, hnc, hcm, hcap⟩) hl (fun h => by have := hb h; omega) h2 hl2 hb2 (by omega) hbytes h63
/-! ### Slice expressions -/
def slo (off l k m : Nat) : Nat := if m = l then off else off + l * k
theorem slo_zero {off k m : Nat} : slo off 0 k m = off := by unfold slo; split <;> simp
theorem sb_map {b off n : Nat} : (sb b off).map (·.add n) = sb b (off + n) := by
  cases b with
  | zero => rfl
  | succ b => show some (Addr.add ⟨b, off, none⟩ n) = some ⟨b, off + n, none⟩; rw [addr_add]
theorem run_bound {P : Program} {w : World} {z : Int} {j y : Nat} {c : BoundsCode} (hz : z = (j : Int)) (hj : j ≤ y) : (Instr.sliceBound (.int .i64 z) y c).run P w = .ok j w := by
  subst hz
  unfold Instr.sliceBound
  rw [run_bind_ok run_asIntOf]
  simp only
  rw [if_pos ⟨by omega, by omega⟩]
  simp [pure, Sem.run]
theorem run_slice {P : Program} {w : World} {t e : TypeId} {i : TypeInfo} (ht : P.underlying t = some (.slice e)) (hi : P.info? e = some i) {b off n cap l j m : Nat} {lo hi' mx : Option Value}
    (hb : (Instr.sliceBounds true n cap lo hi' mx).run P w = .ok (l, j, m) w) : (Instr.sliceAt t (.slice (sb b off) n cap) lo hi' mx).run P w = .ok (.slice (sb b (slo off l i.size m)) (j - l) (m - l)) w := by
  unfold Instr.sliceAt
  rw [run_bind_ok (run_underlying' ht w)]
  simp only
  unfold Instr.slice
  rw [run_bind_ok (run_underlying' ht w)]
  simp only
  rw [run_bind_ok hb]
  have hsz : (sizeOf e).run P w = .ok i.size w := by unfold sizeOf; rw [run_bind_ok (run_typeInfo hi w)]; rfl
  rw [run_bind_ok hsz]
  simp only [pure, Sem.run]
  unfold slo
  split
  · rfl
  · rw [sb_map]
theorem bounds_hi {P : Program} {w : World} {n cap j : Nat} {z : Int} (hz : z = (j : Int)) (hj : j ≤ cap) : (Instr.sliceBounds true n cap none (some (.int .i64 z)) none).run P w = .ok (0, j, cap) w := by
  simp [Instr.sliceBounds, run_bound (P := P) (w := w) hz hj]
theorem bounds_hm {P : Program} {w : World} {n cap j m : Nat} {z y : Int} (hz : z = (j : Int)) (hy : y = (m : Int)) (hm : m ≤ cap) (hj : j ≤ m) : (Instr.sliceBounds true n cap none (some (.int .i64 z)) (some (.int .i64 y))).run P w = .ok (0, j, m) w := by
  simp [Instr.sliceBounds, run_bound (P := P) (w := w) hz hj, run_bound (P := P) (w := w) hy hm]
theorem bounds_lo {P : Program} {w : World} {n cap l : Nat} {z : Int} (hz : z = (l : Int)) (hl : l ≤ n) : (Instr.sliceBounds true n cap (some (.int .i64 z)) none none).run P w = .ok (l, n, cap) w := by
  simp [Instr.sliceBounds, run_bound (P := P) (w := w) hz hl]
theorem bounds_lh {P : Program} {w : World} {n cap l j : Nat} {z y : Int} (hz : z = (l : Int)) (hy : y = (j : Int)) (hj : j ≤ cap) (hl : l ≤ j) : (Instr.sliceBounds true n cap (some (.int .i64 z)) (some (.int .i64 y)) none).run P w = .ok (l, j, cap) w := by
  simp [Instr.sliceBounds, run_bound (P := P) (w := w) hz hl, run_bound (P := P) (w := w) hy hj]
theorem seg_sub {b off l j k m : Nat} {cs : List Value} {w : World} (h : (seg b off cs).ok w) (hj : j * k ≤ cs.length) (hm : m = l → j ≤ l) : (seg b (slo off l k m) ((cs.drop (l * k)).take ((j - l) * k))).ok w := by
  intro hne
  have hlj : l < j := by
    rcases Nat.lt_or_ge l j with h1 | h1
    · exact h1
    · exfalso; apply hne; rw [show j - l = 0 by omega]; simp
  have hml : m ≠ l := fun e => by have := hm e; omega
  obtain ⟨g, c, t, fr, rfl, hg, hc⟩ := h (fun e => hne (by rw [e]; simp))
  refine ⟨g, c, t, fr, rfl, hg, fun i hi => ?_⟩
  unfold slo
  rw [if_neg hml]
  rw [List.length_take] at hi
  rw [List.getElem?_take, if_pos (by omega), List.getElem?_drop, ← hc (l * k + i) (by rw [List.length_drop] at hi; omega)]
  congr 1; omega
/-- A slice expression, with what is then known of its cells. -/
theorem slice_seg {P : Program} {t e : TypeId} {i : TypeInfo} {k : Nat} (ht : P.underlying t = some (.slice e)) (hi : P.info? e = some i) (hk : i.size = k) {b off n cap l j m : Nat} {cs : List Value} {lo hi' mx : Option Value}
    (hb : ∀ w, (Instr.sliceBounds true n cap lo hi' mx).run P w = .ok (l, j, m) w) (hl : cs.length = n * k) (hj : j ≤ n) (hm : m = l → j ≤ l) :
    SemOb P (vS (Instr.sliceAt t (.slice (sb b off) n cap) lo hi' mx)) [some (.ro (seg b off cs))] ⟨fun _ => .slice (sb b (slo off l k m)) (j - l) (m - l), fun _ => [], fun _ => [.ro (seg b (slo off l k m) ((cs.drop (l * k)).take ((j - l) * k)))]⟩ := by
  subst hk
  intro w hw
  refine ⟨fun _ => 0, w, .inl (vS_run (run_slice ht hi (hb w))), trivial, Own.one (BelowX.refl w) (seg_sub (pre0 hw) (by rw [hl]; exact Nat.mul_le_mul_right _ hj) hm) (fun x hx => .inr (.inr ⟨rfl, ?_⟩))⟩
  exact ⟨0, _, rfl, rfl, ⟨fun e => hx.1 (by rw [e]; simp), hx.2⟩⟩
theorem slice_only {P : Program} {t e : TypeId} {i : TypeInfo} {k : Nat} (ht : P.underlying t = some (.slice e)) (hi : P.info? e = some i) (hk : i.size = k) {b off n cap l j m : Nat} {lo hi' mx : Option Value}
    (hb : ∀ w, (Instr.sliceBounds true n cap lo hi' mx).run P w = .ok (l, j, m) w) : SemOb P (vS (Instr.sliceAt t (.slice (sb b off) n cap) lo hi' mx)) [] (pureRec (.slice (sb b (slo off l k m)) (j - l) (m - l))) := by
  subst hk
  exact SemOb.quiet fun w _ => run_slice ht hi (hb w)
/-! ### make -/
theorem make_ob {P : Program} {t e : TypeId} {i : TypeInfo} {z : Value} {k : Nat} (ht : P.underlying t = some (.slice e)) (hi : P.info? e = some i) (hz : i.zero = some z) (hk : i.size = k) (hzs : z.cells.size = k) {x y : Int} {n : Nat} (hx : x = (n : Int)) (hy : y = (n : Int)) (hbytes : i.bytes * n ≤ 281474976710656) (h63 : n ≤ 1000000000000) :
    SemOb P (vS (Instr.makeSlice t (.int .i64 x) (.int .i64 y))) [] ⟨fun y => .slice (sb (y 0 + 1) 0) n n, fun _ => [], fun y => [.own (vec (y 0 + 1) 0 n n k e (madeCells z.cells (n * k)).toList)]⟩ := by
  subst hx hy hk
  intro w hw
  refine ⟨fun _ => w.heap.size, _, .inl (vS_run (run_make w t e i z ht hi hz .i64 .i64 (n : Int) (n : Int) (by omega) (by omega) (by rw [← Int.natCast_mul]; exact Int.ofNat_le.2 hbytes) (by omega))), trivial, ?_⟩
  simp only [Int.toNat_natCast]
  refine Own.one ⟨rfl, rfl, rfl, by simp, fun k hk _ => heap_alloc_old w _ k hk⟩ ⟨by rw [Array.length_toList, size_madeCells], Nat.le_refl _, by unfold maxLen; omega, fun _ => ⟨rfl, w.heap.size, _, rfl, heap_alloc_new w _, ?_, ?_⟩⟩ (fun x hx => .inl (by have : x + 1 = w.heap.size + 1 := hx.2; omega))
  · rw [size_madeCells]
  · rw [List.take_of_length_le (by rw [Array.length_toList, size_madeCells]; exact Nat.le_refl _)]
/-! ### Writes into what is one's own -/
theorem vec_put {w : World} {L : Mem} {b n cap k : Nat} {e : TypeId} {cs cs' : List Value} {g : Nat} {cur : Array Value} (p : Nat) (hp : L[p]? = some (some (.own (vec b 0 n cap k e cs)))) (hb : b = g + 1) (hcap : cap ≠ 0) (hg : w.heap[g]? = some (.cells cur e (0, 0))) (hnc : n ≤ cap) (hcm : cap ≤ maxLen)
    (l : List Value) (hl : l.length = cap * k) (ht : l.take (n * k) = cs') : Own (ctxOf w L) (putBlk w ⟨g, l, e⟩) [some (.own (vec b 0 n cap k e cs'))] := by
  subst hb
  have hlt := (Array.getElem?_eq_some_iff.1 hg).1
  have hex : exFp L g := ⟨p, _, hp, rfl, hcap, rfl⟩
  refine Own.one ⟨rfl, rfl, rfl, by simp [putBlk], fun x _ hm => putBlk_other (fun e => hm (e ▸ hex))⟩ ?_ (fun x hx => .inr (.inl ?_))
  · refine ⟨?_, hnc, hcm, fun _ => ⟨rfl, g, _, rfl, putBlk_has (x := ⟨g, l, e⟩) hlt, by simpa using hl, by simpa using ht⟩⟩
    rw [← ht, List.length_take, hl]
    exact Nat.min_eq_left (Nat.mul_le_mul_right _ hnc)
  · have : x + 1 = g + 1 := hx.2
    obtain rfl : x = g := by omega
    exact hex
theorem setAll_eq : ∀ (vs cs : List Value) (o : Nat), o + vs.length ≤ cs.length → setAll cs o vs = cs.take o ++ vs ++ cs.drop (o + vs.length)
  | [], cs, o, _ => by simp [setAll]
  | v :: vs, cs, o, h => by
    simp only [List.length_cons] at h
    unfold setAll
    rw [setAll_eq vs (cs.set o v) (o + 1) (by simp; omega)]
    have h1 : (cs.set o v).take (o + 1) = cs.take o ++ [v] := by
      rw [List.take_succ_eq_append_getElem (by simp; omega)]
      rw [List.take_set, List.set_eq_of_length_le (by simp; omega)]; simp
    rw [h1, List.drop_set, if_pos (by omega)]
    simp [Nat.add_assoc, Nat.add_comm 1]
theorem setAll_len : ∀ (vs cs : List Value) (o : Nat), (setAll cs o vs).length = cs.length
  | [], _, _ => rfl
  | v :: vs, cs, o => by unfold setAll; rw [setAll_len]; simp
theorem setAll_take : ∀ (vs cs : List Value) (o m : Nat), o + vs.length ≤ m → (setAll cs o vs).take m = setAll (cs.take m) o vs
  | [], _, _, _, _ => rfl
  | v :: vs, cs, o, m, h => by
    simp only [List.length_cons] at h
    unfold setAll
    rw [setAll_take vs _ _ _ (by omega), List.take_set]
/-- A store of an element. -/
theorem store_vec {P : Program} {t e : TypeId} {b n cap k o : Nat} {cs cs' : List Value} {v : Value} {o' : Nat} (hs : storeV P t cs o v = some cs') (ho : o' = 0 + o) (hv : v.cells.toList.all plainV = true) (h0 : 0 < v.cells.toList.length) :
    SemOb P (do Instr.storeAt t (.pointer (some ⟨b - 1, o', none⟩)) v; pure .skip) [some (.own (vec b 0 n cap k e cs))] ⟨fun _ => undef, fun _ => [], fun _ => [.own (vec b 0 n cap k e cs')]⟩ := by
  intro w hw
  have hvec : (vec b 0 n cap k e cs).ok w := pre0 hw
  obtain ⟨hl, hnc, hcm, hcap⟩ := hvec
  have ho1 : o = o' := by omega
  clear ho
  subst ho1
  unfold storeV at hs
  cases hi : P.info? t with
  | none => rw [hi] at hs; cases hs
  | some i =>
    rw [hi] at hs
    simp only at hs
    split at hs
    · rename_i h1 h2 h3
      have h2' := Nat.le_of_ble_eq_true h2
      have h1' := Nat.eq_of_beq_eq_true h1
      have hc0 : cap ≠ 0 := by
        rintro rfl
        have : n = 0 := by omega
        subst this
        rw [Nat.zero_mul] at hl
        omega
      obtain ⟨_, g, cur, rfl, hg, hcs, htake⟩ := hcap hc0
      have hst : storeV P t cur.toList o v = some (setAll cur.toList o v.cells.toList) := by
        unfold storeV
        rw [hi]
        simp only [h1, h3]
        rw [show Nat.ble (o + i.size) cur.toList.length = true from Nat.ble_eq_true_of_le (by
          have : cs.length ≤ cur.toList.length := by rw [← htake, List.length_take]; exact Nat.min_le_right _ _
          omega)]
      have hhas : Has w ⟨g, cur.toList, e⟩ := by show w.heap[g]? = _; rw [hg]
      have hrun := run_storeVar (P := P) (x := ⟨g, cur.toList, e⟩) hhas hst
      refine ⟨fun _ => 0, putBlk w ⟨g, setAll cur.toList o v.cells.toList, e⟩, .inr ⟨?_, rfl⟩, trivial, vec_put 0 rfl rfl hc0 hg hnc hcm (setAll cur.toList o v.cells.toList) ?_ ?_⟩
      · show (Sem.bind (storeVar t ⟨g, o, none⟩ v) _).run P w = _
        exact run_bind_ok hrun
      · rw [setAll_len]; simpa using hcs
      · rw [setAll_take _ _ _ _ (by rw [hl] at h2'; omega), htake]
        exact Option.some.inj hs
    · cases hs
/-- copy, into what is one's own. -/
theorem copy_vec {P : Program} {t u ty e e' : TypeId} {i : TypeInfo} {k : Nat} (ht : P.underlying t = some (.slice e)) (hi : P.info? e = some i) (hk : i.size = k) {b n cap b2 o2 m c2 q : Nat} {cs cs2 : List Value}
    (hb : b = 0 → cap = 0) (hl2 : cs2.length = m * k) (hb2 : b2 = 0 → m = 0) (hpl : cs2.all plainV = true) (hq : q = min m n) :
    SemOb P (vS (Builtin.copy_ #[t, u] ty #[.slice (sb b 0) n cap, .slice (sb b2 o2) m c2])) [some (.own (vec b 0 n cap k e cs)), some (.ro (seg b2 o2 cs2))] ⟨fun _ => .int .i64 (q : Int), fun _ => [], fun _ => [.own (vec b 0 n cap k e (cs2.take (q * k) ++ cs.drop (q * k)))]⟩ := by
  subst hk
  intro w hw
  have hvec : (vec b 0 n cap i.size e cs).ok w := pre0 hw
  have h2 : (seg b2 o2 cs2).ok w := pre1 hw
  obtain ⟨hl, hnc, hcm, hcap⟩ := hvec
  have hsz : (sizeOf e).run P w = .ok i.size w := by unfold sizeOf; rw [run_bind_ok (run_typeInfo hi w)]; rfl
  have hqk : q * i.size ≤ cs2.length := by rw [hl2]; exact Nat.mul_le_mul_right _ (by omega)
  have hf : (Builtin.firstCells i.size q (.slice (sb b2 o2) m c2)).run P w = .ok (cs2.take (q * i.size)).toArray w := by
    refine first_seg (cs := cs2.take (q * i.size)) ?_ (by rw [List.length_take]; omega) (fun h => by have := hb2 h; omega)
    have := seg_sub (l := 0) (j := q) (k := i.size) (m := q + 1) h2 hqk (by omega)
    simpa [slo_zero] using this
  have hqn : q * i.size ≤ cs.length := by rw [hl]; exact Nat.mul_le_mul_right _ (by omega)
  have hall : (cs2.take (q * i.size)).all plainV = true := List.all_eq_true.2 fun x hx => List.all_eq_true.1 hpl x (List.mem_of_mem_take hx)
  have hlen : (cs2.take (q * i.size)).length = q * i.size := by rw [List.length_take]; omega
  have hmin : Nat.min m n = q := hq.symm
  by_cases hc0 : cap = 0
  · have hn : n = 0 := by omega
    have hq0 : q = 0 := by omega
    subst hq0
    refine ⟨fun _ => 0, w, .inl (vS_run ?_), trivial, ?_⟩
    · generalize sb b2 o2 = B2 at hf ⊢
      cases b with
      | zero => simp [Builtin.copy_, run_underlying ht, Builtin.lenOf, sizeOf, typeInfo, hi, hmin, hf, sb, goInt]
      | succ b => simp [Builtin.copy_, run_underlying ht, Builtin.lenOf, sizeOf, typeInfo, hi, hmin, hf, sb, goInt, storeCells]
    · have : (vec b 0 n cap i.size e (cs2.take (0 * i.size) ++ cs.drop (0 * i.size))).ok w := by simpa using (show (vec b 0 n cap i.size e cs).ok w from ⟨hl, hnc, hcm, hcap⟩)
      exact Own.one (BelowX.refl w) this (fun x hx => absurd hc0 hx.1)
  · obtain ⟨_, g, cur, rfl, hg, hcs, htake⟩ := hcap hc0
    have hle : cs.length ≤ cur.toList.length := by rw [← htake, List.length_take]; exact Nat.min_le_right _ _
    have hst := run_storeCells_at P g 0 e (cs2.take (q * i.size)) 0 cur w hg (by rw [hlen]; simp at hle ⊢; omega) (fun u hu => plain_one (List.all_eq_true.1 hall u hu))
    simp only [Nat.add_zero, Nat.zero_add, List.take_zero, List.nil_append] at hst
    rw [setRow_put hg] at hst
    refine ⟨fun _ => 0, putBlk w ⟨g, cs2.take (q * i.size) ++ cur.toList.drop (cs2.take (q * i.size)).length, e⟩, .inl (vS_run ?_), trivial, ?_⟩
    · generalize sb b2 o2 = B2 at hf ⊢
      simp [Builtin.copy_, run_underlying ht, Builtin.lenOf, sizeOf, typeInfo, hi, hmin, hf, sb, goInt, hst]
    · refine vec_put 0 rfl rfl hc0 hg hnc hcm _ ?_ ?_
      · rw [List.length_append, List.length_drop, hlen, ← hcs]; simp at hle ⊢; omega
      · rw [List.take_append, hlen, List.take_of_length_le (by rw [hlen]; exact Nat.mul_le_mul_right _ (by omega)), ← htake, List.drop_take]
/-! ### Lending -/
theorem Ent.eq {L L' : Mem} (h : L = L') : Ent L L' := h ▸ Ent.refl L
/-- What is one's own is lent to a call that only reads it, and has it back; what the call hands back is new. -/
inductive Lent : Mem → Mem → List Res → Prop
  | nil : Lent [] [] []
  | same {g : Ro} {L L' : Mem} {l : List Res} : Lent L L' l → Lent (some (.ro g) :: L) (some (.ro g) :: L') l
  | lend {r : Res} {g : Ro} {L L' : Mem} {l : List Res} : (∀ w, r.ok w → g.ok w ∧ ∀ b, g.fp b → r.fp b) → r.ex = true → Lent L L' l → Lent (some r :: L) (some (.ro g) :: L') (r :: l)
theorem Lent.get {L L' : Mem} {l : List Res} (h : Lent L L' l) : (∀ (i : Nat) r, L'[i]? = some (some r) → r.ex = false ∧ ∃ s, L[i]? = some (some s) ∧ ∀ w, s.ok w → r.ok w ∧ ∀ b, r.fp b → s.fp b) ∧
    ∀ (j : Nat) r, l[j]? = some r → r.ex = true ∧ ∃ i : Nat, L[i]? = some (some r) ∧ ∀ (j' : Nat) r', l[j']? = some r' → j ≠ j' → ∃ i', L[i']? = some (some r') ∧ i ≠ i' := by
  induction h with
  | nil => exact ⟨fun i r hi => by simp at hi, fun j r hj => by simp at hj⟩
  | @same g L L' l _ ih =>
    refine ⟨fun i r hi => ?_, fun j r hj => ?_⟩
    · cases i with
      | zero => simp at hi; subst hi; exact ⟨rfl, _, rfl, fun w hw => ⟨hw, fun b hb => hb⟩⟩
      | succ i => exact ih.1 i r (by simpa using hi)
    · obtain ⟨h1, i, h2, h3⟩ := ih.2 j r hj
      refine ⟨h1, i + 1, by simpa using h2, fun j' r' hj' hne => ?_⟩
      obtain ⟨i', h4, h5⟩ := h3 j' r' hj' hne
      exact ⟨i' + 1, by simpa using h4, by omega⟩
  | @lend s g L L' l hi he _ ih =>
    refine ⟨fun i r h => ?_, fun j r hj => ?_⟩
    · cases i with
      | zero => simp at h; subst h; exact ⟨rfl, s, rfl, hi⟩
      | succ i => exact ih.1 i r (by simpa using h)
    · cases j with
      | zero =>
        simp at hj
        subst hj
        refine ⟨he, 0, rfl, fun j' r' hj' hne => ?_⟩
        obtain ⟨k, rfl⟩ : ∃ k, j' = k + 1 := ⟨j' - 1, by omega⟩
        obtain ⟨_, i, h2, _⟩ := ih.2 k r' (by simpa using hj')
        exact ⟨i + 1, by simpa using h2, by omega⟩
      | succ j =>
        obtain ⟨h1, i, h2, h3⟩ := ih.2 j r (by simpa using hj)
        refine ⟨h1, i + 1, by simpa using h2, fun j' r' hj' hne => ?_⟩
        cases j' with
        | zero => simp at hj'; subst hj'; exact ⟨0, rfl, by omega⟩
        | succ j' =>
          obtain ⟨i', h4, h5⟩ := h3 j' r' (by simpa using hj') (by omega)
          exact ⟨i' + 1, by simpa using h4, by omega⟩
theorem CallOb.lend {P : Program} {f : FuncId} {args : Array Value} {L L' : Mem} {l : List Res} {c : CRec} (hl : Lent L L' l) (h : CallOb P f args L' c) (hex : ∀ y, (c.res y).all Res.ex = true) : CallOb P f args L ⟨c.val, c.fs, fun y => l ++ c.res y⟩ := by
  intro w hw
  obtain ⟨g1, g2⟩ := hl.get
  have hpre : PreOk w L' := ⟨fun i r hi => by obtain ⟨_, s, hs, hi'⟩ := g1 i r hi; exact (hi' w (hw.ok i s hs)).1, fun i j r s hi _ he => by rw [(g1 i r hi).1] at he; cases he⟩
  have noEx : ∀ b, ¬ exFp L' b := by rintro b ⟨i, r, hi, he, _⟩; rw [(g1 i r hi).1] at he; cases he
  refine (h w hpre).mono ?_
  rintro e w' ⟨y, he, hf, ho⟩
  refine ⟨y, he, hf, ?_⟩
  have get : ∀ (i : Nat) r, ((l ++ c.res y).map some)[i]? = some (some r) → (∃ j, i = j ∧ l[j]? = some r) ∨ ∃ j, i = l.length + j ∧ ((c.res y).map some)[j]? = some (some r) := by
    intro i r hi
    rw [List.map_append, List.getElem?_append] at hi
    split at hi
    · rw [List.getElem?_map] at hi
      cases e2 : l[i]? with
      | none => rw [e2] at hi; cases hi
      | some x => rw [e2] at hi; exact .inl ⟨i, rfl, by rw [← Option.some.inj (Option.some.inj hi)]; exact e2⟩
    · rename_i hge
      simp at hge hi
      exact .inr ⟨i - l.length, by omega, by rw [List.getElem?_map, hi]; rfl⟩
  have kept : ∀ (j : Nat) r, l[j]? = some r → r.ok w' := fun j r hj => by
    obtain ⟨_, i, hi, _⟩ := g2 j r hj
    have hr := hw.ok i r hi
    exact Res.stable (fun b hb => ho.below.block b (Res.lt hr b hb) (noEx b)) hr
  have fresh : ∀ (j : Nat) r, ((c.res y).map some)[j]? = some (some r) → r.ex = true ∧ ∀ b, r.fp b → w.heap.size ≤ b := by
    intro j r hj
    have hx : r.ex = true := by
      rw [List.getElem?_map] at hj
      cases e2 : (c.res y)[j]? with
      | none => rw [e2] at hj; cases hj
      | some x =>
        rw [e2] at hj
        rw [← Option.some.inj (Option.some.inj hj)]
        exact List.all_eq_true.1 (hex y) x (List.mem_of_getElem? e2)
    refine ⟨hx, fun b hb => ?_⟩
    rcases ho.fp j r hj b hb with (h1 | h1) | ⟨h1, _⟩
    · exact h1
    · exact absurd h1 (noEx b)
    · rw [hx] at h1; cases h1
  have old : ∀ (j : Nat) r, l[j]? = some r → ∀ b, r.fp b → b < w.heap.size ∧ exFp L b := fun j r hj b hb => by
    obtain ⟨hx, i, hi, _⟩ := g2 j r hj
    exact ⟨Res.lt (hw.ok i r hi) b hb, i, r, hi, hx, hb⟩
  refine ⟨⟨ho.below.os, ho.below.tape, ho.below.output, ho.below.size, fun k hk _ => ho.below.block k hk (noEx k)⟩, fun i r hi => ?_, fun i r hi b hb => ?_, fun i j r s hi hj hx hne b hb hb' => ?_⟩
  · rcases get i r hi with ⟨j, _, hj⟩ | ⟨j, _, hj⟩
    · exact kept j r hj
    · exact ho.ok j r hj
  · rcases get i r hi with ⟨j, _, hj⟩ | ⟨j, _, hj⟩
    · exact .inl (.inr (old j r hj b hb).2)
    · exact .inl (.inl ((fresh j r hj).2 b hb))
  · rcases get i r hi with ⟨i', e1, hi'⟩ | ⟨i', e1, hi'⟩
    · rcases get j s hj with ⟨j', e2, hj'⟩ | ⟨j', e2, hj'⟩
      · obtain ⟨_, p, hp, hq⟩ := g2 i' r hi'
        obtain ⟨p', hp', hpn⟩ := hq j' s hj' (by omega)
        exact hw.nd p p' r s hp hp' hx hpn b hb hb'
      · have h1 := (old i' r hi' b hb).1
        have h2 := (fresh j' s hj').2 b hb'
        omega
    · rcases get j s hj with ⟨j', e2, hj'⟩ | ⟨j', e2, hj'⟩
      · have h1 := (old j' s hj' b hb').1
        have h2 := (fresh i' r hi').2 b hb
        omega
      · exact ho.nd i' j' r s hi' hj' hx (by omega) b hb hb'
/-- A contract may be told otherwise. -/
theorem CallOb.ent {P : Program} {f : FuncId} {args : Array Value} {L : Mem} {c c' : CRec} (h : CallOb P f args L c) (hc : ∀ y, AllP (c.fs y) → ∃ z, c'.val z = c.val y ∧ AllP (c'.fs z) ∧ Ent ((c.res y).map some) ((c'.res z).map some)) : CallOb P f args L c' := fun w hw =>
  (h w hw).mono fun _ _ ⟨y, he, hf, ho⟩ => by
    obtain ⟨z, h1, h2, h3⟩ := hc y hf
    exact ⟨z, by rw [he, h1], h2, h3 _ _ ho⟩
/-! ### Lists as cells -/
def encI (k : IntKind) (x : Int) : List Value := [.int k x]
def encV (p : Int × Int) : List Value := [.int .i64 p.1, .int .i64 p.2]
abbrev ints (xs : List Int) : List Value := xs.flatMap (encI .i64)
abbrev u64s (xs : List Int) : List Value := xs.flatMap (encI .u64)
abbrev vals (xs : List (Int × Int)) : List Value := xs.flatMap encV
theorem ints_len {k : IntKind} (xs : List Int) : (xs.flatMap (encI k)).length = xs.length := by
  induction xs with
  | nil => rfl
  | cons x xs ih => rw [List.flatMap_cons, List.length_append, ih]; simp [encI, Nat.add_comm]
theorem ints_map {k : IntKind} (xs : List Int) : xs.flatMap (encI k) = xs.map (.int k) := by
  induction xs with
  | nil => rfl
  | cons x xs ih => rw [List.flatMap_cons, ih]; rfl
theorem vals_len (xs : List (Int × Int)) : (vals xs).length = xs.length * 2 := by
  unfold vals
  induction xs with
  | nil => rfl
  | cons x xs ih => rw [List.flatMap_cons, List.length_append, ih]; simp [encV]; omega
theorem ints_plain {k : IntKind} (xs : List Int) : (xs.flatMap (encI k)).all plainV = true := by rw [ints_map]; simp [plainV]
theorem vals_plain (xs : List (Int × Int)) : (vals xs).all plainV = true := by
  unfold vals
  induction xs with
  | nil => rfl
  | cons x xs ih => rw [List.flatMap_cons, List.all_append, ih]; rfl
theorem ints_get {k : IntKind} {xs : List Int} {i : Nat} (h : i < xs.length) : (xs.flatMap (encI k))[i]? = some (.int k (xs.getD i 0)) := by
  rw [ints_map, List.getElem?_map]; simp [h]
theorem ints_take {k : IntKind} (xs : List Int) (n : Nat) : (xs.flatMap (encI k)).take (n * 1) = (xs.take n).flatMap (encI k) := by rw [ints_map, ints_map, Nat.mul_one, List.map_take]
theorem ints_drop {k : IntKind} (xs : List Int) (n : Nat) : (xs.flatMap (encI k)).drop (n * 1) = (xs.drop n).flatMap (encI k) := by rw [ints_map, ints_map, Nat.mul_one, List.map_drop]
theorem vals_take (xs : List (Int × Int)) (n : Nat) : (vals xs).take (n * 2) = vals (xs.take n) := by
  unfold vals
  induction xs generalizing n with
  | nil => simp
  | cons x xs ih =>
    cases n with
    | zero => simp
    | succ n => rw [List.take_succ_cons, List.flatMap_cons, List.flatMap_cons, ← ih, show (n + 1) * 2 = n * 2 + 1 + 1 by omega]; rfl
theorem vals_drop (xs : List (Int × Int)) (n : Nat) : (vals xs).drop (n * 2) = vals (xs.drop n) := by
  unfold vals
  induction xs generalizing n with
  | nil => simp
  | cons x xs ih =>
    cases n with
    | zero => simp
    | succ n => rw [List.drop_succ_cons, List.flatMap_cons, ← ih, show (n + 1) * 2 = n * 2 + 1 + 1 by omega]; rfl
/-- An element of a list of whole numbers is loaded. -/
theorem load_int {P : Program} {t : TypeId} {k : IntKind} {xs : List Int} {i : Nat} (ha : isAggP P t = some false) (hi : (P.info? t).isSome = true) (h : i < xs.length) : loadV P t (xs.flatMap (encI k)) (i * 1) = some (.int k (xs.getD i 0)) := by
  unfold loadV
  rw [ha]
  cases e : P.info? t with
  | none => rw [e] at hi; cases hi
  | some x => simp only; rw [Nat.mul_one]; exact ints_get h
theorem load_val {P : Program} {t : TypeId} {x : TypeInfo} {xs : List (Int × Int)} {i : Nat} (ha : isAggP P t = some true) (hi : P.info? t = some x) (hs : x.size = 2) (h : i < xs.length) : loadV P t (vals xs) (i * 2) = some (.agg #[.int .i64 (xs.getD i (0, 0)).1, .int .i64 (xs.getD i (0, 0)).2]) := by
  unfold loadV
  rw [ha, hi]
  simp only
  rw [hs, show Nat.ble (i * 2 + 2) (vals xs).length = true from Nat.ble_eq_true_of_le (by rw [vals_len]; omega)]
  simp only
  rw [vals_drop, show (2 : Nat) = 1 * 2 from rfl, vals_take]
  rw [List.drop_eq_getElem_cons h, List.take_succ_cons, List.take_zero]
  simp [vals, encV, h]
/-! ### Lists of whatever elements -/
/-- How an element stands in cells. -/
structure EncOk {α : Type} (enc : α → List Value) (k : Nat) : Prop where
  pos : 0 < k
  len : ∀ x, (enc x).length = k
  plain : ∀ x, (enc x).all plainV = true
theorem encI_ok {k : IntKind} : EncOk (encI k) 1 := ⟨by decide, fun _ => rfl, fun _ => rfl⟩
theorem encV_ok : EncOk encV 2 := ⟨by decide, fun _ => rfl, fun _ => rfl⟩
section
variable {α : Type} {enc : α → List Value} {k : Nat}
theorem EncOk.flen (h : EncOk enc k) (xs : List α) : (xs.flatMap enc).length = xs.length * k := by
  induction xs with
  | nil => simp
  | cons x xs ih => rw [List.flatMap_cons, List.length_append, ih, h.len, List.length_cons, Nat.succ_mul]; omega
theorem EncOk.fplain (h : EncOk enc k) (xs : List α) : (xs.flatMap enc).all plainV = true := by
  induction xs with
  | nil => rfl
  | cons x xs ih => rw [List.flatMap_cons, List.all_append, ih, h.plain]; rfl
theorem EncOk.ftake (h : EncOk enc k) (xs : List α) (n : Nat) : (xs.flatMap enc).take (n * k) = (xs.take n).flatMap enc := by
  induction xs generalizing n with
  | nil => simp
  | cons x xs ih =>
    cases n with
    | zero => simp
    | succ n => rw [List.take_succ_cons, List.flatMap_cons, List.flatMap_cons, ← ih, Nat.succ_mul, List.take_append, h.len, List.take_of_length_le (by rw [h.len]; omega)]; congr 2; omega
theorem EncOk.fdrop (h : EncOk enc k) (xs : List α) (n : Nat) : (xs.flatMap enc).drop (n * k) = (xs.drop n).flatMap enc := by
  induction xs generalizing n with
  | nil => simp
  | cons x xs ih =>
    cases n with
    | zero => simp
    | succ n => rw [List.drop_succ_cons, List.flatMap_cons, ← ih, Nat.succ_mul, List.drop_append, h.len, List.drop_of_length_le (by rw [h.len]; omega)]; simp
theorem EncOk.get (h : EncOk enc k) {xs : List α} {i : Nat} {x : α} (hx : xs[i]? = some x) : ((xs.flatMap enc).drop (i * k)).take k = enc x := by
  have hlt := (List.getElem?_eq_some_iff.1 hx).1
  rw [h.fdrop, List.drop_eq_getElem_cons hlt, List.flatMap_cons, List.take_append, h.len, List.take_of_length_le (by rw [h.len]; exact Nat.le_refl _)]
  simp [(List.getElem?_eq_some_iff.1 hx).2]
/-- An element is loaded. -/
theorem EncOk.loadA (h : EncOk enc k) {P : Program} {t : TypeId} {i : TypeInfo} {xs : List α} {j : Nat} {x : α} (ha : isAggP P t = some true) (hi : P.info? t = some i) (hs : i.size = k) (hx : xs[j]? = some x) :
    loadV P t (xs.flatMap enc) (j * k) = some (.agg (enc x).toArray) := by
  have hlt := (List.getElem?_eq_some_iff.1 hx).1
  unfold loadV
  rw [ha, hi]
  simp only
  rw [hs, show Nat.ble (j * k + k) (xs.flatMap enc).length = true from Nat.ble_eq_true_of_le (by rw [h.flen, ← Nat.succ_mul]; exact Nat.mul_le_mul_right _ hlt)]
  simp only
  rw [h.get hx]
theorem EncOk.load1 (h : EncOk enc 1) {P : Program} {t : TypeId} {xs : List α} {j : Nat} {x : α} {v : Value} (ha : isAggP P t = some false) (hi : (P.info? t).isSome = true) (hx : xs[j]? = some x) (hv : enc x = [v]) :
    loadV P t (xs.flatMap enc) (j * 1) = some v := by
  unfold loadV
  rw [ha]
  cases e : P.info? t with
  | none => rw [e] at hi; cases hi
  | some i =>
    simp only
    have := h.get hx
    rw [hv] at this
    have h0 := congrArg (fun l => l[0]?) this
    simpa [List.getElem?_take, List.getElem?_drop] using h0
/-- A part of an element is loaded. -/
theorem EncOk.loadP (h : EncOk enc k) {P : Program} {t : TypeId} {xs : List α} {j f : Nat} {x : α} {v : Value} (ha : isAggP P t = some false) (hi : (P.info? t).isSome = true) (hx : xs[j]? = some x) (hf : f < k) (hv : (enc x)[f]? = some v) :
    loadV P t (xs.flatMap enc) (j * k + f) = some v := by
  unfold loadV
  rw [ha]
  cases e : P.info? t with
  | none => rw [e] at hi; cases hi
  | some i =>
    simp only
    have := h.get hx
    rw [← this, List.getElem?_take, if_pos hf, List.getElem?_drop] at hv
    exact hv
/-- An element is stored. -/
theorem EncOk.storeE (h : EncOk enc k) {P : Program} {t : TypeId} {i : TypeInfo} {xs : List α} {j : Nat} {x : α} {v : Value} (hi : P.info? t = some i) (hs : i.size = k) (hj : j < xs.length) (hv : v.cells.toList = enc x) :
    storeV P t (xs.flatMap enc) (j * k) v = some ((xs.set j x).flatMap enc) := by
  unfold storeV
  rw [hi, hv]
  simp only
  have hle : j * k + k ≤ (xs.flatMap enc).length := by rw [h.flen, ← Nat.succ_mul]; exact Nat.mul_le_mul_right _ hj
  rw [h.len, hs, show Nat.beq k k = true from Nat.beq_refl k, h.plain, show Nat.ble (j * k + k) (xs.flatMap enc).length = true from Nat.ble_eq_true_of_le hle]
  simp only
  rw [setAll_eq _ _ _ (by rw [h.len]; exact hle), h.len, h.ftake, show j * k + k = (j + 1) * k by rw [Nat.succ_mul], h.fdrop]
  rw [List.set_eq_take_append_cons_drop, if_pos hj]
  simp
theorem EncOk.nil (h : EncOk enc k) {b off : Nat} {xs : List α} {w : World} (hs : (seg b off (xs.flatMap enc)).ok w) : b = 0 → xs.length = 0 := by
  intro hb
  cases xs with
  | nil => rfl
  | cons x xs =>
    have hne : ((x :: xs).flatMap enc) ≠ [] := fun e => by
      have := h.flen (x :: xs)
      rw [e, List.length_cons, Nat.succ_mul] at this
      have := h.pos
      simp at *
      omega
    obtain ⟨g, _, _, _, e, _⟩ := hs hne
    omega
theorem append_roL (h : EncOk enc k) {P : Program} {t ty e : TypeId} {i : TypeInfo} {z : Value} (ht : P.underlying t = some (.slice e)) (hi : P.info? e = some i) (hz : i.zero = some z) (hk : i.size = k) (hzs : z.cells.size = k) (hby : i.bytes ≤ 1000) (b off b2 o2 c2 : Nat) (xs ys : List α)
    (hm : xs.length = 0 ∨ 0 < ys.length) (h63 : xs.length + ys.length ≤ 1000000) :
    SemOb P (vS (Builtin.append_ #[t, t] ty #[.slice (sb b off) xs.length xs.length, .slice (sb b2 o2) ys.length c2])) [some (.ro (seg b off (xs.flatMap enc))), some (.ro (seg b2 o2 (ys.flatMap enc)))] (appRec (xs ++ ys).length k e ((xs ++ ys).flatMap enc)) := by
  rw [List.length_append, List.flatMap_append]
  refine fun w hw => append_ro ht hi hz hk hzs b off _ b2 o2 _ c2 _ _ (h.flen xs) (h.nil (pre0 hw)) (h.flen ys) (h.nil (pre1 hw)) hm ?_ (by omega) w hw
  exact Nat.le_trans (Nat.mul_le_mul h63 hby) (by decide)
theorem append_ownL (h : EncOk enc k) {P : Program} {t ty e : TypeId} {i : TypeInfo} {z : Value} (ht : P.underlying t = some (.slice e)) (hi : P.info? e = some i) (hz : i.zero = some z) (hk : i.size = k) (hzs : z.cells.size = k) (hby : i.bytes ≤ 1000) (b off cap b2 o2 c2 : Nat) (xs ys : List α)
    (h63 : xs.length + ys.length ≤ 1000000) :
    SemOb P (vS (Builtin.append_ #[t, t] ty #[.slice (sb b off) xs.length cap, .slice (sb b2 o2) ys.length c2])) [some (.own (vec b off xs.length cap k e (xs.flatMap enc))), some (.ro (seg b2 o2 (ys.flatMap enc)))] (appRec (xs ++ ys).length k e ((xs ++ ys).flatMap enc)) := by
  rw [List.length_append, List.flatMap_append]
  refine fun w hw => append_own ht hi hz hk hzs h.pos b off _ cap b2 o2 _ c2 _ _ (vec_zero (pre0 hw)) (h.flen ys) (h.nil (pre1 hw)) (h.fplain ys) ?_ (by omega) w hw
  exact Nat.le_trans (Nat.mul_le_mul h63 hby) (by decide)
/-- A slice expression: from nothing, up to a place, with the room told. -/
theorem slice_hiL (h : EncOk enc k) {P : Program} {t e : TypeId} {i : TypeInfo} (ht : P.underlying t = some (.slice e)) (hi : P.info? e = some i) (hk : i.size = k) {b off cap : Nat} {xs : List α} {z : Int} {j : Nat} (hz : z = (j : Int)) (hj : j ≤ xs.length) (hc : xs.length ≤ cap) :
    SemOb P (vS (Instr.sliceAt t (.slice (sb b off) xs.length cap) none (some (.int .i64 z)) none)) [some (.ro (seg b off (xs.flatMap enc)))] ⟨fun _ => .slice (sb b off) (xs.take j).length cap, fun _ => [], fun _ => [.ro (seg b off ((xs.take j).flatMap enc))]⟩ := by
  have := slice_seg (l := 0) (j := j) (m := cap) ht hi hk (b := b) (off := off) (fun w => bounds_hi (P := P) (w := w) (n := xs.length) hz (Nat.le_trans hj hc)) (h.flen xs) hj (by omega)
  simp only [Nat.zero_mul, List.drop_zero, Nat.sub_zero, slo_zero, h.ftake] at this
  rw [List.length_take, Nat.min_eq_left hj]
  exact this
theorem slice_hmL (h : EncOk enc k) {P : Program} {t e : TypeId} {i : TypeInfo} (ht : P.underlying t = some (.slice e)) (hi : P.info? e = some i) (hk : i.size = k) {b off cap : Nat} {xs : List α} {z y : Int} {j : Nat} (hz : z = (j : Int)) (hy : y = (j : Int)) (hj : j ≤ xs.length) (hc : xs.length ≤ cap) :
    SemOb P (vS (Instr.sliceAt t (.slice (sb b off) xs.length cap) none (some (.int .i64 z)) (some (.int .i64 y)))) [some (.ro (seg b off (xs.flatMap enc)))] ⟨fun _ => .slice (sb b off) (xs.take j).length (xs.take j).length, fun _ => [], fun _ => [.ro (seg b off ((xs.take j).flatMap enc))]⟩ := by
  have := slice_seg (l := 0) (j := j) (m := j) ht hi hk (b := b) (off := off) (fun w => bounds_hm (P := P) (w := w) (n := xs.length) hz hy (Nat.le_trans hj hc) (Nat.le_refl _)) (h.flen xs) hj (by omega)
  simp only [Nat.zero_mul, List.drop_zero, Nat.sub_zero, slo_zero, h.ftake] at this
  rw [List.length_take, Nat.min_eq_left hj]
  exact this
theorem slice_loL (h : EncOk enc k) {P : Program} {t e : TypeId} {i : TypeInfo} (ht : P.underlying t = some (.slice e)) (hi : P.info? e = some i) (hk : i.size = k) {b off cap : Nat} {xs : List α} {z : Int} {l : Nat} (hz : z = (l : Int)) (hl : l ≤ xs.length) (hc : xs.length ≤ cap) :
    SemOb P (vS (Instr.sliceAt t (.slice (sb b off) xs.length cap) (some (.int .i64 z)) none none)) [some (.ro (seg b off (xs.flatMap enc)))] ⟨fun _ => .slice (sb b (slo off l k cap)) (xs.drop l).length (cap - l), fun _ => [], fun _ => [.ro (seg b (slo off l k cap) ((xs.drop l).flatMap enc))]⟩ := by
  have := slice_seg (l := l) (j := xs.length) (m := cap) ht hi hk (b := b) (off := off) (fun w => bounds_lo (P := P) (w := w) (cap := cap) hz hl) (h.flen xs) (Nat.le_refl _) (by omega)
  rw [h.fdrop, List.take_of_length_le (by rw [h.flen, List.length_drop]; exact Nat.le_refl _)] at this
  rw [List.length_drop]
  exact this
theorem slice_lhL (h : EncOk enc k) {P : Program} {t e : TypeId} {i : TypeInfo} (ht : P.underlying t = some (.slice e)) (hi : P.info? e = some i) (hk : i.size = k) {b off cap : Nat} {xs : List α} {z y : Int} {l j : Nat} (hz : z = (l : Int)) (hy : y = (j : Int)) (hl : l ≤ j) (hj : j ≤ xs.length) (hc : xs.length ≤ cap) :
    SemOb P (vS (Instr.sliceAt t (.slice (sb b off) xs.length cap) (some (.int .i64 z)) (some (.int .i64 y)) none)) [some (.ro (seg b off (xs.flatMap enc)))] ⟨fun _ => .slice (sb b (slo off l k cap)) ((xs.drop l).take (j - l)).length (cap - l), fun _ => [], fun _ => [.ro (seg b (slo off l k cap) (((xs.drop l).take (j - l)).flatMap enc))]⟩ := by
  have := slice_seg (l := l) (j := j) (m := cap) ht hi hk (b := b) (off := off) (fun w => bounds_lh (P := P) (w := w) (n := xs.length) hz hy (Nat.le_trans hj hc) hl) (h.flen xs) hj (by omega)
  rw [h.fdrop, h.ftake] at this
  rw [List.length_take, List.length_drop, Nat.min_eq_left (by omega)]
  exact this
theorem make_L (h : EncOk enc k) {P : Program} {t e : TypeId} {i : TypeInfo} {z : Value} (ht : P.underlying t = some (.slice e)) (hi : P.info? e = some i) (hz : i.zero = some z) (hk : i.size = k) (hzs : z.cells.size = k) (hby : i.bytes ≤ 1000) {x y : Int} {n : Nat} {o : α} (ho : z.cells.toList = enc o) (hx : x = (n : Int)) (hy : y = (n : Int)) (h63 : n ≤ 1000000) :
    SemOb P (vS (Instr.makeSlice t (.int .i64 x) (.int .i64 y))) [] ⟨fun y => .slice (sb (y 0 + 1) 0) (List.replicate n o).length n, fun _ => [], fun y => [.own (vec (y 0 + 1) 0 (List.replicate n o).length n k e ((List.replicate n o).flatMap enc))]⟩ := by
  have := make_ob ht hi hz hk hzs hx hy (Nat.le_trans (Nat.mul_le_mul hby h63) (by decide)) (by omega)
  have e1 : (madeCells z.cells (n * k)).toList = (List.replicate n o).flatMap enc := by
    apply List.ext_getElem?
    intro q
    have hz2 : ∀ r, r < k → z.cells[r]! = (enc o)[r]?.getD default := by
      intro r hr
      rw [← ho]
      simp [hzs, hr]
    by_cases hq : q < n * k
    · have hk0 := h.pos
      have hqk := Nat.mod_lt q hk0
      have hqn : q / k < n := Nat.div_lt_of_lt_mul (by rw [Nat.mul_comm]; exact hq)
      have hg := h.get (xs := List.replicate n o) (i := q / k) (x := o) (by simp [hqn])
      have h1 := congrArg (fun l => l[q % k]?) hg
      simp only [List.getElem?_take, if_pos hqk, List.getElem?_drop] at h1
      rw [show q / k * k + q % k = q by rw [Nat.mul_comm]; exact Nat.div_add_mod q k] at h1
      rw [h1]
      simp only [madeCells, Array.toList_map, Array.toList_range, List.getElem?_map, List.getElem?_range hq, Option.map_some, hzs]
      rw [hz2 _ hqk]
      have : q % k < (enc o).length := by rw [h.len]; exact hqk
      simp [this]
    · rw [List.getElem?_eq_none (by rw [Array.length_toList, size_madeCells]; omega), List.getElem?_eq_none (by rw [h.flen]; simp; omega)]
  rw [e1] at this
  simpa using this
theorem copy_L (h : EncOk enc k) {P : Program} {t u ty e : TypeId} {i : TypeInfo} (ht : P.underlying t = some (.slice e)) (hi : P.info? e = some i) (hk : i.size = k) {b cap b2 o2 c2 q : Nat} {xs ys : List α}
    (hq : q = min ys.length xs.length) :
    SemOb P (vS (Builtin.copy_ #[t, u] ty #[.slice (sb b 0) xs.length cap, .slice (sb b2 o2) ys.length c2])) [some (.own (vec b 0 xs.length cap k e (xs.flatMap enc))), some (.ro (seg b2 o2 (ys.flatMap enc)))]
      ⟨fun _ => .int .i64 (q : Int), fun _ => [], fun _ => [.own (vec b 0 xs.length cap k e ((ys.take q ++ xs.drop q).flatMap enc))]⟩ := by
  intro w hw
  have := copy_vec (ty := ty) (u := u) (e' := e) ht hi hk (b := b) (n := xs.length) (cap := cap) (b2 := b2) (o2 := o2) (m := ys.length) (c2 := c2) (q := q) (cs := xs.flatMap enc) (cs2 := ys.flatMap enc) (vec_zero (pre0 hw)) (h.flen ys) (h.nil (pre1 hw)) (h.fplain ys) hq
  rw [h.ftake, h.fdrop, ← List.flatMap_append] at this
  exact this w hw
end
theorem getD_some {α : Type} {xs : List α} {j : Nat} {d : α} (h : j < xs.length) : xs[j]? = some (xs.getD j d) := by simp [h]
theorem reads_segV {P : Program} {b off o o' n cap k : Nat} {e : TypeId} {cs : List Value} {t : TypeId} {v : Value} (hv : loadV P t cs o = some v) (ho : o' = off + o) : Reads P (.own (vec (b + 1) off n cap k e cs)) t ⟨b, o', none⟩ v :=
  fun w hw => reads_seg hv ho w (vec_seg hw)
theorem store_vecO {P : Program} {t e : TypeId} {b off n cap k o : Nat} {cs cs' : List Value} {v : Value} {o' : Nat} (hs : storeV P t cs o v = some cs') (ho : o' = off + o) (hv : v.cells.toList.all plainV = true) (h0 : 0 < v.cells.toList.length) :
    SemOb P (do Instr.storeAt t (.pointer (some ⟨b - 1, o', none⟩)) v; pure .skip) [some (.own (vec b off n cap k e cs))] ⟨fun _ => undef, fun _ => [], fun _ => [.own (vec b off n cap k e cs')]⟩ := by
  intro w hw
  have hvec : (vec b off n cap k e cs).ok w := pre0 hw
  have hoff : off = 0 := by
    by_cases hc : cap = 0
    · exfalso
      subst hc
      have hn : n = 0 := by have := hvec.2.1; omega
      have hl := hvec.1
      rw [hn, Nat.zero_mul] at hl
      unfold storeV at hs
      cases hi : P.info? t with
      | none => rw [hi] at hs; cases hs
      | some i =>
        rw [hi] at hs
        simp only at hs
        split at hs
        · rename_i h1 h2 h3
          have h2' := Nat.le_of_ble_eq_true h2
          have h1' := Nat.eq_of_beq_eq_true h1
          omega
        · cases hs
    · exact (hvec.2.2.2 hc).1
  subst hoff
  exact store_vec hs ho hv h0 w hw
theorem slice_hi0 {P : Program} {t e : TypeId} {i : TypeInfo} {k : Nat} (ht : P.underlying t = some (.slice e)) (hi : P.info? e = some i) (hk : i.size = k) {b off n cap : Nat} {z : Int} {j : Nat} (hz : z = (j : Int)) (hj : j ≤ cap) :
    SemOb P (vS (Instr.sliceAt t (.slice (sb b off) n cap) none (some (.int .i64 z)) none)) [] (pureRec (.slice (sb b off) j cap)) := by
  have := slice_only (l := 0) (j := j) (m := cap) ht hi hk (b := b) (off := off) (fun w => bounds_hi (P := P) (w := w) (n := n) hz hj)
  simpa only [slo_zero, Nat.sub_zero] using this
theorem slice_lh0 {P : Program} {t e : TypeId} {i : TypeInfo} {k : Nat} (ht : P.underlying t = some (.slice e)) (hi : P.info? e = some i) (hk : i.size = k) {b off n cap : Nat} {z y : Int} {l j : Nat} (hz : z = (l : Int)) (hy : y = (j : Int)) (hl : l ≤ j) (hj : j ≤ cap) :
    SemOb P (vS (Instr.sliceAt t (.slice (sb b off) n cap) (some (.int .i64 z)) (some (.int .i64 y)) none)) [] (pureRec (.slice (sb b (slo off l k cap)) (j - l) (cap - l))) :=
  slice_only (l := l) (j := j) (m := cap) ht hi hk (b := b) (off := off) (fun w => bounds_lh (P := P) (w := w) (n := n) hz hy hj hl)
theorem slice_hm0 {P : Program} {t e : TypeId} {i : TypeInfo} {k : Nat} (ht : P.underlying t = some (.slice e)) (hi : P.info? e = some i) (hk : i.size = k) {b off n cap : Nat} {z y : Int} {j : Nat} (hz : z = (j : Int)) (hy : y = (j : Int)) (hj : j ≤ cap) :
    SemOb P (vS (Instr.sliceAt t (.slice (sb b off) n cap) none (some (.int .i64 z)) (some (.int .i64 y)))) [] (pureRec (.slice (sb b off) j j)) := by
  have := slice_only (l := 0) (j := j) (m := j) ht hi hk (b := b) (off := off) (fun w => bounds_hm (P := P) (w := w) (n := n) hz hy hj (Nat.le_refl _))
  simpa only [slo_zero, Nat.sub_zero] using this
theorem Ent.add {L : Mem} {r : Res} (h : ∀ w, r.ok w) (hf : ∀ b, ¬ r.fp b) : Ent L (L ++ [some r]) := by
  intro C w hw
  have get : ∀ (i : Nat) s, (L ++ [some r])[i]? = some (some s) → (i = L.length ∧ s = r) ∨ L[i]? = some (some s) := by
    intro i s hs
    rw [List.getElem?_append] at hs
    split at hs
    · exact .inr hs
    · rename_i hlt
      have : i - L.length = 0 := by
        cases e : i - L.length with
        | zero => rfl
        | succ m => rw [e] at hs; simp at hs
      rw [this] at hs
      simp at hs
      exact .inl ⟨by omega, hs.symm⟩
  refine ⟨hw.below, fun i s hs => ?_, fun i s hs b hb => ?_, fun i j s s' hs hs' hex hne b hb hb' => ?_⟩
  · rcases get i s hs with ⟨_, rfl⟩ | hs
    · exact h w
    · exact hw.ok i s hs
  · rcases get i s hs with ⟨_, rfl⟩ | hs
    · exact absurd hb (hf b)
    · exact hw.fp i s hs b hb
  · rcases get i s hs with ⟨_, e2⟩ | hs1
    · rw [e2] at hb; exact hf b hb
    · rcases get j s' hs' with ⟨_, e2⟩ | hs2
      · rw [e2] at hb'; exact hf b hb'
      · exact hw.nd i j s s' hs1 hs2 hex hne b hb hb'
theorem Ent.empty (L : Mem) {α : Type} {enc : α → List Value} : Ent L (L ++ [some (.ro (seg 0 0 (([] : List α).flatMap enc)))]) := Ent.add (fun _ h => absurd rfl h) (fun _ h => h.1 rfl)
theorem Ent.emptyV (L : Mem) {α : Type} {enc : α → List Value} {k : Nat} {e : TypeId} : Ent L (L ++ [some (.own (vec 0 0 0 0 k e (([] : List α).flatMap enc)))]) := Ent.add (fun w => vec_nil k e 0 0 w) (fun _ h => h.1 rfl)
/-- What is known of memory when a function begins may be used ahead of its run. -/
theorem CallOb.of {P : Program} {f : FuncId} {args : Array Value} {pre : Mem} {c : CRec} (h : (∃ w, PreOk w pre) → CallOb P f args pre c) : CallOb P f args pre c := fun w hw => h ⟨w, hw⟩ w hw
theorem seg_pre {α : Type} {enc : α → List Value} {k : Nat} (h : EncOk enc k) {pre : Mem} {b off : Nat} {xs : List α} (i : Nat) (hi : pre[i]? = some (some (.ro (seg b off (xs.flatMap enc))))) (hE : ∃ w, PreOk w pre) : b = 0 → xs.length = 0 := by
  obtain ⟨w, hw⟩ := hE
  exact h.nil (hw.ok i _ hi)
/-- Some of what is known, in another order. -/
theorem Ent.sel {L L' : Mem} (ks : List Nat) (ho : onceB L ks = true) (h : pick ks L = L') : Ent L L' := fun _ _ hw => h ▸ hw.pick ho
end Go.Proofs.YtemfcbgmgfcjeaaDoor.Fl
