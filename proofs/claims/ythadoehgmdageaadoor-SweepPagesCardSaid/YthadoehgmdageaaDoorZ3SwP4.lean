/- Page by page; pages' ends; the small heap. Plain lemmas; conditions: in each. -/
import Derived.Test.YthadoehgmdageaaDoorZ3SwP3
import Derived.Test.YthadoehgmdageaaDoorZ3SwC
set_option linter.unusedVariables false
set_option linter.unusedSimpArgs false
namespace Go.Proofs.YthadoehgmdageaaDoor.Fl
open Go.RowKit
attribute [local irreducible] blkB zeroB
def StI (cs : List Cc) (e : Bool) (ws : List Int) (sp : List Sp) (s : SW) (l : Int) : Prop := AlI cs e ws sp s ∧ -1 ≤ l ∧ l < ((sp.length : Nat) : Int) ∧ ∀ q : Nat, stP s.xs ((q : Nat) : Int) = 2 → stP sp ((q : Nat) : Int) = 2 ∧ l < ((q : Nat) : Int)
theorem StI.zero {cs : List Cc} {e : Bool} {ws : List Int} {sp : List Sp} {bw ow mw bs os ms : Nat} (h1 : ws.length ≤ mw) (h2 : sp.length ≤ ms) (h3 : bw = 0 → ws.length = 0) (h4 : bs = 0 → sp.length = 0) : StI cs e ws sp (SW.mk 0 bw ow mw ws bs os ms sp 0) (-1) := ⟨AlI.zero h1 h2 h3 h4, by omega, by omega, fun q hq => ⟨hq, by omega⟩⟩
theorem StI.page {cs : List Cc} {e : Bool} {ws : List Int} {sp : List Sp} {s : SW} {l : Int} (h : StI cs e ws sp s l) (hm : FmI ws sp) (ho : onOk s.xs = true) : onP s.xs = ((Int.toNat (dyI s.xs) : Nat) : Int) ∧ Int.toNat (dyI s.xs) < sp.length ∧ l < onP s.xs ∧ (sp.getD (Int.toNat (dyI s.xs)) (0, 0, 0)).1 = 2 := by
  have hd := on_ok ho
  obtain ⟨hp, hlt, hst, _⟩ := dy_ix hd
  have hP : onP s.xs = dyI s.xs := (on_pt hd).1.symm
  have hl := (h.1.parts hm).2.1
  rw [hp] at hst
  have := h.2.2.2 _ hst
  exact ⟨hP.trans hp, by omega, by omega, this.1⟩
theorem StI.next {cs : List Cc} {e : Bool} {ws : List Int} {sp : List Sp} {s : SW} {l : Int} (h : StI cs e ws sp s l) (hm : FmI ws sp) (ho : onOk s.xs = true) {bw ow mw bs os ms : Nat} (l1 : (onX cs e s.xw s.xs).1.length ≤ mw) (l2 : (onX cs e s.xw s.xs).2.1.length ≤ ms) (b1 : bw = 0 → (onX cs e s.xw s.xs).1.length = 0) (b2 : bs = 0 → (onX cs e s.xw s.xs).2.1.length = 0) : StI cs e ws sp (SW.mk (s.i + 1) bw ow mw (onX cs e s.xw s.xs).1 bs os ms (onX cs e s.xw s.xs).2.1 (s.f + (onX cs e s.xw s.xs).2.2)) (onP s.xs) := by
  have hpg := h.page hm ho
  have hd := on_ok ho
  obtain ⟨hp, hlt, hst, hfst⟩ := dy_ix hd
  have hx := onX_fm (h.1.parts hm).1 cs e hd
  refine ⟨(h.1.next hm ho l1 l2 b1 b2).1, by omega, by omega, fun q hq => ?_⟩
  have hq' : stP (onX cs e s.xw s.xs).2.1 ((q : Nat) : Int) = 2 := hq
  have hne : q ≠ Int.toNat (dyI s.xs) := fun e1 => hx.2.2.2.2.1 (by rw [hp, ← e1]; exact hq')
  rw [hx.2.2.2.1 q hne] at hq'
  have hge : ¬ q < Int.toNat (dyI s.xs) := fun h1 => hfst q h1 hq'
  exact ⟨(h.2.2.2 q hq').1, by rw [hpg.1]; omega⟩
theorem StI.done {cs : List Cc} {e : Bool} {ws : List Int} {sp : List Sp} {s : SW} {l : Int} (h : StI cs e ws sp s l) (hm : FmI ws sp) (ho : onOk s.xs = false) : (((s.i : Nat) : Int) == ((dyN sp : Nat) : Int)) = true ∧ ((alX cs e ws sp).2.2 == s.f) = true ∧ (alX cs e ws sp).1 = s.xw ∧ (alX cs e ws sp).2.1 = s.xs := by
  have hd := h.1.done hm ho
  have hp := h.1.parts hm
  have h0 : dyN s.xs = 0 := dyTo_none (dy_none (on_nok ho)) _
  refine ⟨beq_iff_eq.2 (by have := hp.2.2.2.1; omega), beq_iff_eq.2 hd.2.2.symm, hd.1.symm, hd.2.1.symm⟩
/-- Are two heaps alike? -/
def smB (ws : List Int) (sp : List Sp) (e : Bool) (ws' : List Int) (sp' : List Sp) (e' : Bool) : Bool := decide (e = e') && (decide (ws = ws') && decide (sp = sp'))
theorem sm_refl (ws : List Int) (sp : List Sp) (e : Bool) : smB ws sp e ws sp e = true := by unfold smB; simp
theorem sm_f {ws : List Int} {sp : List Sp} {e : Bool} {ws' : List Int} {sp' : List Sp} {e' : Bool} (h : ¬ e = e' ∨ ¬ ws = ws' ∨ ¬ sp = sp') : false = smB ws sp e ws' sp' e' := by
  unfold smB
  rcases h with h | h | h <;> rw [decide_eq_false h] <;> simp
theorem sm_t {ws : List Int} {sp : List Sp} {e : Bool} {ws' : List Int} {sp' : List Sp} {e' : Bool} (h1 : e = e') (h2 : ws = ws') (h3 : sp = sp') : true = smB ws sp e ws' sp' e' := by rw [h1, h2, h3]; exact (sm_refl _ _ _).symm
theorem sp_eqB {a b : Sp} (h : ((a.1 == b.1) && ((a.2.1 == b.2.1) && ((a.2.2 == b.2.2) && true))) = true) : a = b := by
  simp only [Bool.and_eq_true, beq_iff_eq] at h
  exact Prod.ext h.1 (Prod.ext h.2.1 h.2.2.1)
theorem sp_neB {a b : Sp} (h : ((a.1 == b.1) && ((a.2.1 == b.2.1) && ((a.2.2 == b.2.2) && true))) = false) : ¬ a = b := fun e => by rw [e] at h; simp at h
def lfTo (l : List Int) (p : Int) (i : Nat) : Bool := (l.take i).any fun z => z / 32 == p
theorem any_take {α : Type} {p : α → Bool} {l : List α} {i : Nat} (d : α) (h : i < l.length) : (l.take (i + 1)).any p = ((l.take i).any p || p (l.getD i d)) := by
  rw [List.take_succ_eq_append_getElem h, List.any_append]
  simp [List.getD, h]
theorem lf_t {l : List Int} {p : Int} {i : Nat} (hi : i < l.length) (h : lfTo l p i = true) : true = lfTo l p (i + 1) := by unfold lfTo at *; rw [any_take 0 hi, h]; rfl
theorem lf_x {l : List Int} {p : Int} {i : Nat} {c : Bool} {y : Int} (hi : i < l.length) (h : c = lfTo l p i) (hc : c = false) (hy : y = l.getD i 0 / 32) : (y == p) = lfTo l p (i + 1) := by
  subst hc
  unfold lfTo at *; rw [any_take 0 hi, ← h, hy]; rfl
theorem lf_end {l : List Int} {p : Int} {i : Nat} {c : Bool} (h : c = lfTo l p i) (hi : ¬ ((i : Nat) : Int) < ((l.length : Nat) : Int)) : c = lfB l p := by rw [h]; unfold lfTo lfB; rw [List.take_of_length_le (by omega)]
def kpTo (cs : List Cc) (p : Int) (i : Nat) : Bool := (cs.take i).any fun c => inC c p
theorem kp_t {cs : List Cc} {p : Int} {i : Nat} (hi : i < cs.length) (h : kpTo cs p i = true) : true = kpTo cs p (i + 1) := by unfold kpTo at *; rw [any_take (0, 0, 0, 0) hi, h]; rfl
theorem kp_x {cs : List Cc} {p : Int} {i : Nat} (hi : i < cs.length) (h : (cs.getD i (0, 0, 0, 0)).1 = p ∨ (cs.getD i (0, 0, 0, 0)).2.1 = p ∨ (cs.getD i (0, 0, 0, 0)).2.2.1 = p ∨ (cs.getD i (0, 0, 0, 0)).2.2.2 = p) : true = kpTo cs p (i + 1) := by
  unfold kpTo; rw [any_take (0, 0, 0, 0) hi]
  have : inC (cs.getD i (0, 0, 0, 0)) p = true := by
    generalize cs.getD i (0, 0, 0, 0) = c at h
    unfold inC
    rcases h with h | h | h | h <;> simp [h]
  rw [this, Bool.or_true]
theorem kp_l {cs : List Cc} {p : Int} {i : Nat} {c : Bool} (hi : i < cs.length) (h : c = kpTo cs p i) (hc : c = false) (h1 : ¬ (cs.getD i (0, 0, 0, 0)).1 = p) (h2 : ¬ (cs.getD i (0, 0, 0, 0)).2.1 = p) (h3 : ¬ (cs.getD i (0, 0, 0, 0)).2.2.1 = p) : ((cs.getD i (0, 0, 0, 0)).2.2.2 == p) = kpTo cs p (i + 1) := by
  subst hc
  unfold kpTo at *; rw [any_take (0, 0, 0, 0) hi, ← h]
  have e4 : ∀ a : Int, (a == p) = (p == a) := fun a => by
    by_cases h : a = p
    · subst h; rfl
    · rw [beq_eq_false_iff_ne.2 h, beq_eq_false_iff_ne.2 (fun e => h e.symm)]
  have n1 := beq_eq_false_iff_ne.2 h1; have n2 := beq_eq_false_iff_ne.2 h2; have n3 := beq_eq_false_iff_ne.2 h3
  rw [e4] at n1 n2 n3 ⊢
  show _ = (false || (List.any [_, _, _, _] fun z => p == z))
  simp only [List.any_cons, List.any_nil, n1, n2, n3, Bool.false_or, Bool.or_false]
theorem kp_end {cs : List Cc} {p : Nat} {i : Nat} {c : Bool} (h : c = kpTo cs ((p : Nat) : Int) i) (hi : ¬ ((i : Nat) : Int) < ((cs.length : Nat) : Int)) : c = kpB cs ((p : Nat) : Int) := by
  rw [h]; unfold kpTo kpB; rw [List.take_of_length_le (by omega), decide_eq_true (show ((p : Nat) : Int) ≥ 0 by omega)]; rfl
theorem pg_1 {cs : List Cc} {e : Bool} {ws : List Int} {sp : List Sp} (h : FbI ws sp) {q : Nat} {l k : Bool} (hs : (sp.getD q (0, 0, 0)).1 = 2) (hl : l = lfB (lsA (alX cs e ws sp).1 (alX cs e ws sp).2.1) ((q : Nat) : Int)) (hk : k = kpB cs ((q : Nat) : Int)) (h1 : l = true ∨ k = true) : (((alX cs e ws sp).2.1.getD q (0, 0, 0)).1 == 1) = true := by
  rw [al_pgs h hs, ← hl, ← hk]
  rcases h1 with h1 | h1 <;> rw [h1] <;> simp
theorem pg_0 {cs : List Cc} {e : Bool} {ws : List Int} {sp : List Sp} (h : FbI ws sp) {q : Nat} {l k : Bool} (hs : (sp.getD q (0, 0, 0)).1 = 2) (hl : l = lfB (lsA (alX cs e ws sp).1 (alX cs e ws sp).2.1) ((q : Nat) : Int)) (hk : k = kpB cs ((q : Nat) : Int)) (h1 : l = false) (h2 : k = false) : (((alX cs e ws sp).2.1.getD q (0, 0, 0)).1 == 0) = true := by
  rw [al_pgs h hs, ← hl, ← hk, h1, h2]; simp
theorem pg_n {cs : List Cc} {e : Bool} {ws : List Int} {sp : List Sp} (h : FbI ws sp) {q : Nat} (hs : ¬ (sp.getD q (0, 0, 0)).1 = 2) : ((((alX cs e ws sp).2.1.getD q (0, 0, 0)).1 == (sp.getD q (0, 0, 0)).1) && ((((alX cs e ws sp).2.1.getD q (0, 0, 0)).2.1 == (sp.getD q (0, 0, 0)).2.1) && ((((alX cs e ws sp).2.1.getD q (0, 0, 0)).2.2 == (sp.getD q (0, 0, 0)).2.2) && true))) = true := by
  rw [al_pgn h hs]; simp
def smD : List (Int × Int × Int) := [(0, 0, 3), (1, 0, 9), (5, 0, 0), (1, 0, 8)]
def smW : List Int := (mdH 1 smD 4).1
def smP : List Sp := (mdH 1 smD 4).2.1
def smS : List Sp := bgS smP
def smE : Bool := (mdH 1 smD 4).2.2
theorem u32_of {sp : List Sp} (h : (sp.all fun s => decide (0 ≤ s.2.2) && decide (s.2.2 < 4294967296)) = true) : ∀ s ∈ sp, inU32 s.2.2 := fun s hs => by
  have := List.all_eq_true.1 h s hs
  simp only [Bool.and_eq_true, decide_eq_true_eq] at this
  unfold inU32; omega
theorem u64_of {ws : List Int} (h : (ws.all fun x => decide (0 ≤ x) && decide (x < 18446744073709551616)) = true) : ∀ x ∈ ws, inU64 x := fun x hx => by
  have := List.all_eq_true.1 h x hx
  simp only [Bool.and_eq_true, decide_eq_true_eq] at this
  unfold inU64; omega
theorem smp_fm : FmI smW smP := ⟨by decide +kernel, u32_of (by decide +kernel), u64_of (by decide +kernel)⟩
theorem sm_fm : FmI smW smS := smp_fm.bg _ (Nat.le_refl _)



theorem al_lw {cs : List Cc} {e : Bool} {ws : List Int} {sp : List Sp} (h : FmI ws sp) : (alX cs e ws sp).1.length = ws.length ∧ (alX cs e ws sp).2.1.length = sp.length := by
  have h1 := alX_fm h cs e
  have h2 := (form_p h1.1.form).2.2.2; have h3 := (form_p h.form).2.2.2; have h4 := h1.2.1
  exact ⟨by omega, h4⟩
theorem not_bne1 {a c : Int} (h : (a == c) = true) : (a != c) = false := bne_eq_false_iff_eq.2 (eq_of_beq h)
theorem ls_q {ws : List Int} {sp : List Sp} (h : 1 ≤ sp.length ∧ sp.length ≤ 16 ∧ ws.length = 32 * sp.length) {i : Nat} (hi : ((i : Nat) : Int) < ((lsA ws sp).length : Int)) : iQuo .i64 ((lsA ws sp).getD i 0) 32 = (lsA ws sp).getD i 0 / 32 := by
  have h1 := ls_ix h.2.2 h.2.1 hi
  have h2 := (fn_parts (gt_parts (ls_get hi)).1).1
  rw [h1.1]; omega
end Go.Proofs.YthadoehgmdageaaDoor.Fl
