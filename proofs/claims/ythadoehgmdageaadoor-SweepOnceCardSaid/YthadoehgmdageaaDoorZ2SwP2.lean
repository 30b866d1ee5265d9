/- What sweeps do. Plain lemmas; conditions: in each. -/
import Derived.Test.YthadoehgmdageaaDoorZ2SwP
set_option linter.unusedVariables false
set_option linter.unusedSimpArgs false
namespace Go.Proofs.YthadoehgmdageaaDoor.Fl
open Go.RowKit
attribute [local irreducible] blkB zeroB
def toF (e : Bool) (ws : List Int) (sp : List Sp) (q j : Nat) : Bool := gtOk ws sp (adr sp q j) && !(blB ws sp e (adr sp q j))
def frTo (e : Bool) (ws : List Int) (sp : List Sp) (q : Nat) : Nat → Int
  | 0 => 0
  | j + 1 => if toF e ws sp q j = true then frTo e ws sp q j + cWords (clP sp ((q : Nat) : Int)) else frTo e ws sp q j
structure SwQ (e : Bool) (ws : List Int) (sp : List Sp) (p i : Nat) (x : St3) : Prop where
  fb : FbI x.1 x.2.1
  len : x.2.1.length = sp.length
  lenw : x.1.length = ws.length
  stc : ∀ q : Nat, stP x.2.1 ((q : Nat) : Int) = stP sp ((q : Nat) : Int) ∧ clP x.2.1 ((q : Nat) : Int) = clP sp ((q : Nat) : Int)
  oth : ∀ q : Nat, q ≠ p → spAt x.2.1 ((q : Nat) : Int) = spAt sp ((q : Nat) : Int)
  wrd : ∀ y : Nat, y < ws.length → x.1.getD y 0 = ws.getD y 0 ∨ (x.1.getD y 0 = 0 ∧ ∃ j : Nat, j < i ∧ BlAt sp p j ∧ toF e ws sp p j = true ∧ adr sp p j ≤ ((y : Nat) : Int) ∧ ((y : Nat) : Int) < adr sp p j + cWords (clP sp ((p : Nat) : Int)))
  gt : ∀ q j : Nat, BlAt sp q j → gtOk x.1 x.2.1 (adr sp q j) = (gtOk ws sp (adr sp q j) && !(decide (q = p ∧ j < i) && toF e ws sp q j))
  sum : x.2.2 = frTo e ws sp p i
  pop : ((popN (frP x.2.1 ((p : Nat) : Int)).toNat : Nat) : Int) * cWords (clP sp ((p : Nat) : Int)) = ((popN (frP sp ((p : Nat) : Int)).toNat : Nat) : Int) * cWords (clP sp ((p : Nat) : Int)) + x.2.2
theorem pop_with {f i : Int} (hr : 0 ≤ i ∧ i < 32) (h : hasB f i = false) : popN (withI f i).toNat = popN f.toNat + 1 := by
  have h2 : f.toNat.testBit i.toNat = false := by unfold hasB at h; rw [decide_eq_true hr, Bool.true_and] at h; exact h
  have := countTo_del (m := (withI f i).toNat) (k := i.toNat) f.toNat (by rw [with_bit, decide_eq_true hr]; simp) (fun j => by
    rw [with_bit, decide_eq_true hr]
    by_cases e : i.toNat = j
    · rw [← e, h2]; simp
    · simp [e]) 32
  rw [if_pos (by omega)] at this
  exact this.symm
theorem SwQ.zero {e : Bool} {ws : List Int} {sp : List Sp} (h : FbI ws sp) (p : Nat) : SwQ e ws sp p 0 (ws, sp, 0) :=
  ⟨h, rfl, rfl, fun _ => ⟨rfl, rfl⟩, fun _ _ => rfl, fun _ _ => .inl rfl, fun q j _ => by rw [decide_eq_false (by omega)]; simp, rfl, by simp⟩
theorem SwQ.at' {e : Bool} {ws : List Int} {sp : List Sp} {p i : Nat} {x : St3} (hf : FbI ws sp) (h : SwQ e ws sp p i x) (hb : BlAt sp p i) : gtOk x.1 x.2.1 (adr sp p i) = gtOk ws sp (adr sp p i) ∧ blB x.1 x.2.1 e (adr sp p i) = blB ws sp e (adr sp p i) := by
  obtain ⟨_, f3, f4⟩ := hf.frm
  have hr := blk_range f3 hb; have hlen := blk_len f3 hb f4
  have hs := gt_same4 (ws := ws) (ws' := x.1) (sp := sp) (sp' := x.2.1) (b := adr sp p i) h.len (by rw [hr.2.2.1]; exact (h.stc p).1) (by rw [hr.2.2.1]; exact (h.stc p).2) fun _ => by
    rcases h.wrd (adr sp p i).toNat (by omega) with h1 | ⟨_, j, hj, hbj, _, h2, h3⟩
    · exact h1
    · obtain ⟨_, e2⟩ := blk_uniq f3 hb hbj (x := adr sp p i) (by omega) (by omega)
      omega
  refine ⟨hs.1, ?_⟩
  unfold blB; rw [hs.1, hs.2.1]
theorem SwQ.succ {e : Bool} {ws : List Int} {sp : List Sp} {p i : Nat} {x : St3} (hf : FbI ws sp) (h : SwQ e ws sp p i x) (hb : BlAt sp p i) : SwQ e ws sp p (i + 1) (swSt e (clP sp ((p : Nat) : Int)) (adr sp p i) x) := by
  obtain ⟨_, f3, f4⟩ := hf.frm
  obtain ⟨ha, hbl⟩ := h.at' hf hb
  have hbx : BlAt x.2.1 p i := ⟨by rw [h.len]; exact hb.1, by rw [(h.stc p).1]; exact hb.2.1, by rw [(h.stc p).2]; exact hb.2.2⟩
  have hadr : ∀ q j : Nat, adr x.2.1 q j = adr sp q j := fun q j => by unfold adr; rw [(h.stc q).2]
  cases ht : toF e ws sp p i with
  | false =>
    have hno : gtOk x.1 x.2.1 (adr sp p i) = false ∨ blB x.1 x.2.1 e (adr sp p i) = true := by
      unfold toF at ht; rw [ha, hbl]
      cases e1 : gtOk ws sp (adr sp p i) with
      | false => exact .inl rfl
      | true => rw [e1] at ht; exact .inr (by simpa using ht)
    rw [swSt_no (by rcases hno with h1 | h1; exact .inl h1; exact .inr (.inl h1))]
    refine ⟨h.fb, h.len, h.lenw, h.stc, h.oth, fun y hy => ?_, fun q j hq => ?_, ?_, h.pop⟩
    · rcases h.wrd y hy with h1 | ⟨h1, j, hj, h2⟩
      · exact .inl h1
      · exact .inr ⟨h1, j, by omega, h2⟩
    · rw [h.gt q j hq]
      by_cases e1 : q = p ∧ j = i
      · obtain ⟨rfl, rfl⟩ := e1; rw [ht]; simp
      · rw [show decide (q = p ∧ j < i + 1) = decide (q = p ∧ j < i) by congr 1; exact propext ⟨fun ⟨a, b⟩ => ⟨a, by omega⟩, fun ⟨a, b⟩ => ⟨a, by omega⟩⟩]
    · rw [h.sum]; show _ = (if _ then _ else _); rw [if_neg (by rw [ht]; decide)]
  | true =>
    have ht' := ht
    unfold toF at ht'
    simp only [Bool.and_eq_true, Bool.not_eq_true'] at ht'
    have hg : gtOk x.1 x.2.1 (adr x.2.1 p i) = true := by rw [hadr, ha]; exact ht'.1
    obtain ⟨hP, hX, hre⟩ := h.fb.can hbx hg
    obtain ⟨n1, n2, n3⟩ := h.fb.re hbx hg
    rw [hadr] at hP hX hre n1 n2 n3
    rw [swSt_yes (by rw [ha]; exact ht'.1) (by rw [hbl]; exact ht'.2) hre]
    have hob := h.fb.obj hbx
    rw [hg] at hob
    have hh : hasB (frP x.2.1 ((p : Nat) : Int)) ((i : Nat) : Int) = false := by simpa using hob.symm
    have h16 := blocks_range (clP sp ((p : Nat) : Int)); have hi := hb.2.2
    refine ⟨n1, (re_lenS _ _).trans h.len, (re_lenW _ _ _).trans h.lenw, fun q => ?_, fun q hq => ?_, fun y hy => ?_, fun q j hq => ?_, ?_, ?_⟩
    · exact ⟨(re_st _ _ q).1.trans (h.stc q).1, (re_st _ _ q).2.trans (h.stc q).2⟩
    · show spAt (reS _ _) _ = _
      rw [re_at, hP, if_neg (fun hx => hq (by have := hx.2; omega))]; exact h.oth q hq
    · show (reW _ _ _).getD y 0 = _ ∨ ((reW _ _ _).getD y 0 = 0 ∧ _)
      rw [re_w _ _ _ (by rw [h.lenw]; exact hy), hP, (h.stc p).2]
      have hr := blk_range f3 hb
      by_cases e1 : (adr sp p i).toNat ≤ y ∧ y < (adr sp p i).toNat + (cWords (clP sp ((p : Nat) : Int))).toNat
      · rw [if_pos ⟨hre, e1⟩]
        exact .inr ⟨rfl, i, by omega, hb, ht, by omega, by omega⟩
      · rw [if_neg (fun hx => e1 hx.2)]
        rcases h.wrd y hy with h1 | ⟨h1, j, hj, h2⟩
        · exact .inl h1
        · exact .inr ⟨h1, j, by omega, h2⟩
    · have hqx : BlAt x.2.1 q j := ⟨by rw [h.len]; exact hq.1, by rw [(h.stc q).1]; exact hq.2.1, by rw [(h.stc q).2]; exact hq.2.2⟩
      show gtOk (reW _ _ _) (reS _ _) _ = _
      by_cases e1 : q = p ∧ j = i
      · obtain ⟨rfl, rfl⟩ := e1
        rw [n3, ht, decide_eq_true ⟨rfl, by omega⟩]; simp
      · have h2 := (n2 q j hqx e1).1
        rw [hadr] at h2
        rw [h2, h.gt q j hq, show decide (q = p ∧ j < i + 1) = decide (q = p ∧ j < i) by congr 1; exact propext ⟨fun ⟨a, b⟩ => ⟨a, by omega⟩, fun ⟨a, b⟩ => ⟨a, by omega⟩⟩]
    · show x.2.2 + _ = (if _ then _ else _); rw [if_pos ht, h.sum]
    · show ((popN (frP (reS _ _) _).toNat : Nat) : Int) * _ = _ + (x.2.2 + _)
      have e1 : frP (reS x.2.1 (adr sp p i)) ((p : Nat) : Int) = withI (frP x.2.1 ((p : Nat) : Int)) ((i : Nat) : Int) := by
        unfold frP; rw [re_at, hP, hX, if_pos ⟨hre, rfl⟩]; rfl
      rw [e1, pop_with (by omega) hh]
      have := h.pop
      generalize cWords (clP sp ((p : Nat) : Int)) = W at *
      rw [show (((popN (frP x.2.1 ((p : Nat) : Int)).toNat + 1 : Nat)) : Int) = ((popN (frP x.2.1 ((p : Nat) : Int)).toNat : Nat) : Int) + 1 by omega, Int.add_mul, Int.one_mul]
      omega
theorem swTo_Q {e : Bool} {ws : List Int} {sp : List Sp} (hf : FbI ws sp) {p : Nat} (hp : p < sp.length) (hs : stP sp ((p : Nat) : Int) ≠ 0) : ∀ i : Nat, ((i : Nat) : Int) ≤ cBlocks (clP sp ((p : Nat) : Int)) → SwQ e ws sp p i (swTo e ((p : Nat) : Int) (clP sp ((p : Nat) : Int)) ws sp i)
  | 0, _ => SwQ.zero hf p
  | i + 1, hi => (swTo_Q hf hp hs i (by omega)).succ hf ⟨hp, hs, by omega⟩
structure OnI (cs : List Cc) (e : Bool) (ws : List Int) (sp : List Sp) (p : Nat) (y : St3) : Prop where
  fb : FbI y.1 y.2.1
  len : y.2.1.length = sp.length
  lenw : y.1.length = ws.length
  oth : ∀ q : Nat, q ≠ p → spAt y.2.1 ((q : Nat) : Int) = spAt sp ((q : Nat) : Int)
  wo : ∀ w : Nat, w / 32 ≠ p → y.1.getD w 0 = ws.getD w 0
  gt : ∀ z : Int, z / 32 = ((p : Nat) : Int) → gtOk y.1 y.2.1 z = (gtOk ws sp z && blB ws sp e z)
  gw : ∀ z : Int, gtOk y.1 y.2.1 z = true → z / 32 = ((p : Nat) : Int) → ∀ w : Nat, z ≤ ((w : Nat) : Int) → ((w : Nat) : Int) ≤ z + gtN ws sp z → y.1.getD w 0 = ws.getD w 0
  st : (stP y.2.1 ((p : Nat) : Int) = 0 ∧ kpB cs ((p : Nat) : Int) = false ∧ ∀ z : Int, z / 32 = ((p : Nat) : Int) → gtOk y.1 y.2.1 z = false) ∨ (stP y.2.1 ((p : Nat) : Int) = 1 ∧ (kpB cs ((p : Nat) : Int) = true ∨ ∃ z : Int, z / 32 = ((p : Nat) : Int) ∧ gtOk y.1 y.2.1 z = true))
  sum : y.2.2 = frTo e ws sp p (cBlocks (clP sp ((p : Nat) : Int))).toNat
  us : usS y.2.1 + y.2.2 = usS sp




theorem fn_st {sp sp' : List Sp} (hl : sp'.length = sp.length) (h : ∀ q : Nat, (stP sp' ((q : Nat) : Int) == 0) = (stP sp ((q : Nat) : Int) == 0) ∧ clP sp' ((q : Nat) : Int) = clP sp ((q : Nat) : Int)) (z : Int) : fnOk sp' z = fnOk sp z := by
  unfold fnOk
  by_cases hz : 0 ≤ z
  · have := h (z / 32).toNat
    rw [Int.toNat_of_nonneg (by omega)] at this
    rw [hl, this.1, this.2]
  · rw [decide_eq_false hz]; rfl
theorem gt_st {ws : List Int} {sp sp' : List Sp} {z : Int} (h : fnOk sp' z = fnOk sp z) : gtOk ws sp' z = gtOk ws sp z ∧ gtB ws sp' z = gtB ws sp z ∧ gtC ws sp' z = gtC ws sp z ∧ gtN ws sp' z = gtN ws sp z := by
  unfold gtB gtC gtN gtOk; rw [h]; exact ⟨rfl, rfl, rfl, rfl⟩
/-- Spans of other states, not free ones: the same objects. -/
theorem FbI.state {ws : List Int} {sp sp' : List Sp} (h : FbI ws sp) (hm : FmI ws sp') (hl : sp'.length = sp.length) (hs : ∀ q : Nat, (stP sp' ((q : Nat) : Int) == 0) = (stP sp ((q : Nat) : Int) == 0) ∧ clP sp' ((q : Nat) : Int) = clP sp ((q : Nat) : Int) ∧ frP sp' ((q : Nat) : Int) = frP sp ((q : Nat) : Int)) : FbI ws sp' ∧ ∀ z : Int, gtOk ws sp' z = gtOk ws sp z ∧ gtB ws sp' z = gtB ws sp z ∧ gtC ws sp' z = gtC ws sp z ∧ gtN ws sp' z = gtN ws sp z := by
  have hg : ∀ z : Int, gtOk ws sp' z = gtOk ws sp z ∧ gtB ws sp' z = gtB ws sp z ∧ gtC ws sp' z = gtC ws sp z ∧ gtN ws sp' z = gtN ws sp z := fun z => gt_st (fn_st hl (fun q => ⟨(hs q).1, (hs q).2.1⟩) z)
  refine ⟨FbI.mk' hm (fun q hq h0 => ?_) (fun q j hb => ?_), hg⟩
  · have := (hs q).1
    rw [h0] at this
    exact h.pg q (by omega) (eq_of_beq (this.symm.trans (by decide)))
  · have hb' : BlAt sp q j := ⟨by have := hb.1; omega, fun e => by have := (hs q).1; rw [e] at this; exact hb.2.1 (eq_of_beq (this.trans (by decide))), by rw [← (hs q).2.1]; exact hb.2.2⟩
    have := h.bl hb'
    have ha : adr sp' q j = adr sp q j := by unfold adr; rw [(hs q).2.1]
    unfold filF behF at this ⊢
    rw [ha, (hs q).2.1, (hs q).2.2, (hg _).1, (hg _).2.2.1, (hg _).2.2.2]
    exact this
theorem FbI.page0 {ws : List Int} {sp : List Sp} (h : FbI ws sp) {p : Nat} (hp : p < sp.length) (hall : ∀ j : Nat, BlAt sp p j → hasB (frP sp ((p : Nat) : Int)) ((j : Nat) : Int) = true) : ∀ w : Nat, w / 32 = p → ws.getD w 0 = 0 := fun w hw => Classical.byContradiction fun hne => by
  obtain ⟨_, f3, f4⟩ := h.frm
  obtain ⟨q, j, m, hb, h1, h2, h3, h4⟩ := word_at h.fm.u32 h.fm.form h.fil h.beh (x := w) (by omega) hne
  have hr := blk_range f3 hb
  have hob := obj_blk h.fm.form h.fil hb h2
  have hq : q = p := by omega
  subst hq
  rw [hall j hb] at h1; cases h1
theorem FbI.close {ws : List Int} {sp : List Sp} (h : FbI ws sp) {p : Nat} (hp : p < sp.length) (hall : ∀ j : Nat, BlAt sp p j → hasB (frP sp ((p : Nat) : Int)) ((j : Nat) : Int) = true) : FbI ws (sp.set p (0, 0, 0)) ∧ ∀ z : Int, gtOk ws (sp.set p (0, 0, 0)) z = gtOk ws sp z := by
  obtain ⟨_, f3, f4⟩ := h.frm
  have hm : FmI ws (sp.set p (0, 0, 0)) := h.fm.set p rfl h.fm.u64 emS_right ⟨by decide, by decide⟩
  have hl : (sp.set p ((0, 0, 0) : Sp)).length = sp.length := List.length_set
  have h0 := h.page0 hp hall
  have hoth : ∀ q : Nat, q ≠ p → spAt (sp.set p (0, 0, 0)) ((q : Nat) : Int) = spAt sp ((q : Nat) : Int) := fun q hq => by rw [spAt_set, if_neg (fun e => hq e.1.symm)]
  have hat : spAt (sp.set p (0, 0, 0)) ((p : Nat) : Int) = (0, 0, 0) := by rw [spAt_set, if_pos ⟨rfl, hp⟩]
  have hg : ∀ z : Int, gtOk ws (sp.set p (0, 0, 0)) z = gtOk ws sp z := fun z => by
    by_cases hz : z / 32 = ((p : Nat) : Int)
    · have e1 : gtOk ws sp z = false := by
        cases e : gtOk ws sp z with
        | false => rfl
        | true =>
          obtain ⟨q, j, hb, e1, e2⟩ := fn_blk (gt_parts e).1
          obtain rfl : q = p := by omega
          rw [e1, h.obj hb, hall j hb] at e; cases e
      have e2 : fnOk (sp.set p (0, 0, 0)) z = false := by
        unfold fnOk; rw [hz, show stP (sp.set p (0, 0, 0)) ((p : Nat) : Int) = 0 by unfold stP; rw [hat]]; simp
      rw [e1]; unfold gtOk; rw [e2]; rfl
    · by_cases hz0 : 0 ≤ z
      · refine (page_same hl (q := (z / 32).toNat) (hoth _ (by omega)) (fun _ _ => rfl) (by omega)).1
      · unfold gtOk fnOk; rw [decide_eq_false hz0]; rfl
  refine ⟨FbI.mk' hm (fun q hq hs => ?_) (fun q j hb => ?_), hg⟩
  · by_cases e : q = p
    · subst e; exact (zero_iff (by omega)).2 fun k hk => h0 _ (by omega)
    · refine h.pg q (by omega) ?_
      have := hoth q e; unfold stP at hs ⊢; rw [← this]; exact hs
  · have hq : q ≠ p := fun e => by subst e; exact hb.2.1 (by unfold stP; rw [hat])
    have hs := hoth q hq
    have hb' : BlAt sp q j := ⟨by have := hb.1; omega, by have := hb.2.1; unfold stP at this ⊢; rw [← hs]; exact this, by have := hb.2.2; unfold clP at this ⊢; rw [← hs]; exact this⟩
    have hr := blk_range f3 hb'
    obtain ⟨g1, g2, g3, g4⟩ := page_same (ws := ws) (ws' := ws) hl hs (fun _ _ => rfl) (z := adr sp q j) hr.2.2.1
    have := h.bl hb'
    have ha : adr (sp.set p (0, 0, 0)) q j = adr sp q j := by unfold adr clP; rw [hs]
    unfold filF behF at this ⊢
    rw [ha, g1, g3, g4, show clP (sp.set p (0, 0, 0)) ((q : Nat) : Int) = clP sp ((q : Nat) : Int) by unfold clP; rw [hs], show frP (sp.set p (0, 0, 0)) ((q : Nat) : Int) = frP sp ((q : Nat) : Int) by unfold frP; rw [hs]]
    exact this
theorem not_whl {c f : Int} (hf : inU32 f) (hn : NoHi f (cBlocks c)) (h : (f == whl c) = false) : ∃ j : Nat, ((j : Nat) : Int) < cBlocks c ∧ hasB f ((j : Nat) : Int) = false := Classical.byContradiction fun hno => by
  refine absurd ?_ (ne_of_beq_false h)
  refine u32_ext hf (whl_u32 c) fun i hi => ?_
  rw [whl_bit]
  by_cases e : ((i : Nat) : Int) < cBlocks c
  · rw [decide_eq_true e, ← hasB_nat f hi]
    cases hh : hasB f ((i : Nat) : Int) with
    | true => rfl
    | false => exact absurd ⟨i, e, hh⟩ hno
  · rw [decide_eq_false e]; exact hn i (by omega)
def usT (sp : List Sp) (q : Nat) : Int := if stP sp ((q : Nat) : Int) = 0 then 0 else (cBlocks (clP sp ((q : Nat) : Int)) - ((popN (frP sp ((q : Nat) : Int)).toNat : Nat) : Int)) * cWords (clP sp ((q : Nat) : Int))
theorem usT_succ (sp : List Sp) (i : Nat) : usTo sp (i + 1) = usTo sp i + usT sp i := by
  show (if stP sp ((i : Nat) : Int) = 0 then _ else _) = _
  unfold usT; split
  · omega
  · rfl
theorem us_change {sp sp' : List Sp} {p : Nat} (h : ∀ q : Nat, q ≠ p → spAt sp' ((q : Nat) : Int) = spAt sp ((q : Nat) : Int)) : ∀ i, usTo sp' i + (if p < i then usT sp p else 0) = usTo sp i + (if p < i then usT sp' p else 0)
  | 0 => rfl
  | i + 1 => by
    have ih := us_change h i
    rw [usT_succ, usT_succ]
    by_cases e : i = p
    · subst e
      rw [if_pos (by omega), if_pos (by omega)]
      rw [if_neg (by omega), if_neg (by omega)] at ih; omega
    · have e1 : usT sp' i = usT sp i := by unfold usT stP clP frP; rw [h i e]
      have e2 : ∀ a : Int, (if p < i + 1 then a else 0) = (if p < i then a else 0) := fun a => by by_cases h2 : p < i <;> simp [h2] <;> omega
      rw [e1, e2, e2]; omega




theorem toF_f {e : Bool} {ws : List Int} {sp : List Sp} {q j : Nat} (h : blB ws sp e (adr sp q j) = true) : toF e ws sp q j = false := by unfold toF; rw [h]; simp
theorem onX_I {cs : List Cc} {e : Bool} {ws : List Int} {sp : List Sp} (h : FbI ws sp) (hd : ¬ dyI sp < 0) : OnI cs e ws sp (Int.toNat (dyI sp)) (onX cs e ws sp) := by
  obtain ⟨hp, hlt, hst, _⟩ := dy_ix hd
  obtain ⟨_, f3, f4⟩ := h.frm
  have hbr := blocks_range (clP sp (dyI sp))
  unfold onX swX; rw [if_neg hd]
  generalize Int.toNat (dyI sp) = p at *
  rw [hp] at hst hbr ⊢
  have Q := swTo_Q (e := e) h hlt (by rw [hst]; decide) (cBlocks (clP sp ((p : Nat) : Int))).toNat (by omega)
  have hN : (((cBlocks (clP sp ((p : Nat) : Int))).toNat : Nat) : Int) = cBlocks (clP sp ((p : Nat) : Int)) := by omega
  generalize (cBlocks (clP sp ((p : Nat) : Int))).toNat = N at *
  generalize hx : swTo e ((p : Nat) : Int) (clP sp ((p : Nat) : Int)) ws sp N = x at *
  have hltx : p < x.2.1.length := by rw [Q.len]; exact hlt
  have hstx : stP x.2.1 ((p : Nat) : Int) = 2 := by rw [(Q.stc p).1]; exact hst
  -- the page made clean
  have hm2 : FmI x.1 (mkCl x.2.1 p) := Q.fb.fm.set p rfl Q.fb.fm.u64 (right_1 hstx (Q.fb.fm.right hltx)) (Q.fb.fm.fu ((p : Nat) : Int))
  obtain ⟨fb2, g2⟩ := Q.fb.state hm2 (mkCl_len _ _) (fun q => by
    unfold stP clP frP; rw [mkCl_at _ hltx]
    by_cases e1 : q = p
    · subst e1; rw [if_pos rfl]; exact ⟨by rw [show (spAt x.2.1 ((q : Nat) : Int)).1 = 2 from hstx]; rfl, rfl, rfl⟩
    · rw [if_neg e1]; exact ⟨rfl, rfl, rfl⟩)
  have hat2 : spAt (mkCl x.2.1 p) ((p : Nat) : Int) = (1, clP x.2.1 ((p : Nat) : Int), frP x.2.1 ((p : Nat) : Int)) := by rw [mkCl_at _ hltx, if_pos rfl]
  have hl2 : (mkCl x.2.1 p).length = sp.length := (mkCl_len _ _).trans Q.len
  have e1 : stP (mkCl x.2.1 p) ((p : Nat) : Int) = 1 := by unfold stP; rw [hat2]
  have e2 : clP (mkCl x.2.1 p) ((p : Nat) : Int) = clP sp ((p : Nat) : Int) := by rw [← (Q.stc p).2]; unfold clP; rw [hat2]; rfl
  have e3 : frP (mkCl x.2.1 p) ((p : Nat) : Int) = frP x.2.1 ((p : Nat) : Int) := by unfold frP; rw [hat2]; rfl
  -- the page's span at the end
  have key : ∃ sp', onS cs x.2.1 ((p : Nat) : Int) = sp' ∧ FbI x.1 sp' ∧ (∀ z : Int, gtOk x.1 sp' z = gtOk x.1 x.2.1 z) ∧
      ((stP sp' ((p : Nat) : Int) = 0 ∧ kpB cs ((p : Nat) : Int) = false ∧ ∀ z : Int, z / 32 = ((p : Nat) : Int) → gtOk x.1 sp' z = false) ∨ (stP sp' ((p : Nat) : Int) = 1 ∧ (kpB cs ((p : Nat) : Int) = true ∨ ∃ z : Int, z / 32 = ((p : Nat) : Int) ∧ gtOk x.1 sp' z = true))) ∧ usT sp' p = (cBlocks (clP sp ((p : Nat) : Int)) - ((popN (frP x.2.1 ((p : Nat) : Int)).toNat : Nat) : Int)) * cWords (clP sp ((p : Nat) : Int)) := by
    refine ⟨_, rfl, ?_⟩
    have hcl : clB1 cs x.2.1 ((p : Nat) : Int) = ((frP x.2.1 ((p : Nat) : Int) == whl (clP sp ((p : Nat) : Int))) && !(kpB cs ((p : Nat) : Int))) := by
      unfold clB1 emB; rw [Int.toNat_natCast, e1, e2, e3]; rfl
    unfold onS; rw [Int.toNat_natCast, hcl]
    cases hw : (frP x.2.1 ((p : Nat) : Int) == whl (clP sp ((p : Nat) : Int))) with
    | true =>
      cases hk : kpB cs ((p : Nat) : Int) with
      | false =>
        have hall : ∀ j : Nat, BlAt (mkCl x.2.1 p) p j → hasB (frP (mkCl x.2.1 p) ((p : Nat) : Int)) ((j : Nat) : Int) = true := fun j hb => by
          rw [e3, eq_of_beq hw, whl_has, ← e2, decide_eq_true (And.intro (Int.natCast_nonneg j) hb.2.2)]
        obtain ⟨fb3, g3⟩ := fb2.close (by rw [hl2]; exact hlt) hall
        have hat3 : spAt ((mkCl x.2.1 p).set p (0, 0, 0)) ((p : Nat) : Int) = (0, 0, 0) := by rw [spAt_set, if_pos ⟨rfl, by rw [hl2]; exact hlt⟩]
        rw [if_pos (by rfl)]
        refine ⟨fb3, fun z => (g3 z).trans (g2 z).1, .inl ⟨by unfold stP; rw [hat3], rfl, fun z hz => ?_⟩, ?_⟩
        · unfold gtOk fnOk; rw [hz, show stP ((mkCl x.2.1 p).set p (0, 0, 0)) ((p : Nat) : Int) = 0 by unfold stP; rw [hat3]]; simp
        · unfold usT; rw [if_pos (by unfold stP; rw [hat3])]
          have hpw := pop_whole (c := clP sp ((p : Nat) : Int)) (Q.fb.fm.fu ((p : Nat) : Int)) (by
            have := (spR_noHi (Q.fb.fm.fu ((p : Nat) : Int)) (Q.fb.fm.right hltx)).1
            rw [← (Q.stc p).2]; exact this)
          rw [hw] at hpw
          rw [eq_of_beq hpw]; simp
      | true =>
        rw [if_neg (by simp)]
        refine ⟨fb2, fun z => (g2 z).1, .inr ⟨e1, .inl rfl⟩, ?_⟩
        unfold usT; rw [if_neg (by rw [e1]; decide), e2, e3]
    | false =>
      rw [if_neg (by simp)]
      obtain ⟨j, hj, hh⟩ := not_whl (c := clP sp ((p : Nat) : Int)) (Q.fb.fm.fu ((p : Nat) : Int)) (by
            have := (spR_noHi (Q.fb.fm.fu ((p : Nat) : Int)) (Q.fb.fm.right hltx)).1
            rw [← (Q.stc p).2]; exact this) hw
      have hb : BlAt x.2.1 p j := ⟨hltx, by rw [hstx]; decide, by rw [(Q.stc p).2]; exact hj⟩
      refine ⟨fb2, fun z => (g2 z).1, .inr ⟨e1, .inr ⟨adr x.2.1 p j, (blk_range (by rw [Q.len]; exact f3) hb).2.2.1, ?_⟩⟩, ?_⟩
      · rw [(g2 _).1, Q.fb.obj hb, hh]; rfl
      · unfold usT; rw [if_neg (by rw [e1]; decide), e2, e3]
  obtain ⟨sp', hsp', fb', g', st', us'⟩ := key
  have hoth : ∀ q : Nat, q ≠ p → spAt sp' ((q : Nat) : Int) = spAt sp ((q : Nat) : Int) := fun q hq => by rw [← hsp', onS_at _ _ hltx, if_neg hq]; exact Q.oth q hq
  have hl' : sp'.length = sp.length := by rw [← hsp', onS_len]; exact Q.len
  have hgt : ∀ z : Int, z / 32 = ((p : Nat) : Int) → gtOk x.1 sp' z = (gtOk ws sp z && blB ws sp e z) := fun z hz => by
    rw [g' z]
    cases hf : fnOk sp z with
    | false =>
      have : fnOk x.2.1 z = false := by rw [fn_st Q.len (fun q => ⟨by rw [(Q.stc q).1], (Q.stc q).2⟩) z]; exact hf
      unfold gtOk; rw [hf, this]; rfl
    | true =>
      obtain ⟨q, j, hb, rfl, hq⟩ := fn_blk hf
      obtain rfl : q = p := by omega
      rw [Q.gt q j hb, decide_eq_true ⟨rfl, by have := hb.2.2; omega⟩]
      unfold toF
      cases gtOk ws sp (adr sp q j) <;> cases blB ws sp e (adr sp q j) <;> rfl
  show OnI cs e ws sp p (x.1, onS cs x.2.1 ((p : Nat) : Int), x.2.2)
  rw [hsp']
  refine ⟨fb', hl', Q.lenw, hoth, fun w hw => ?_, hgt, fun z hz hz2 w h1 h2 => ?_, st', Q.sum.trans (congrArg (frTo e ws sp p) (by omega)), ?_⟩
  · by_cases hwl : w < ws.length
    · rcases Q.wrd w hwl with h1 | ⟨_, j, _, hb, _, h2, h3⟩
      · exact h1
      · have := blk_range f3 hb; omega
    · have := Q.lenw
      show x.1.getD w 0 = _
      simp [List.getD, List.getElem?_eq_none (show x.1.length ≤ w by omega), List.getElem?_eq_none (show ws.length ≤ w by omega)]
  · have hz' := hz
    have hz : gtOk x.1 sp' z = true := hz'
    rw [hgt z hz2] at hz
    simp only [Bool.and_eq_true] at hz
    obtain ⟨q, j, hb, rfl, hq⟩ := fn_blk (gt_parts hz.1).1
    obtain rfl : q = p := by omega
    have hr := blk_range f3 hb; have hlen := blk_len f3 hb f4
    have hob := obj_blk h.fm.form h.fil hb hz.1
    rcases Q.wrd w (by omega) with h3 | ⟨_, j', _, hb', ht, h3, h4⟩
    · exact h3
    · obtain ⟨_, rfl⟩ := blk_uniq f3 hb hb' (x := ((w : Nat) : Int)) ⟨h1, by omega⟩ ⟨h3, h4⟩
      rw [toF_f hz.2] at ht; cases ht
  · have := us_change hoth sp.length
    rw [if_pos hlt, if_pos hlt] at this
    have hp2 := Q.pop
    have hu : usT sp p = (cBlocks (clP sp ((p : Nat) : Int)) - ((popN (frP sp ((p : Nat) : Int)).toNat : Nat) : Int)) * cWords (clP sp ((p : Nat) : Int)) := by unfold usT; rw [if_neg (by rw [hst]; decide)]
    show usTo sp' sp'.length + x.2.2 = usTo sp sp.length
    rw [us', hu, Int.sub_mul, Int.sub_mul] at this
    rw [hl']; omega
def phT (e : Bool) (ws : List Int) (sp : List Sp) (q : Nat) : Int := if stP sp ((q : Nat) : Int) = 2 then frTo e ws sp q (cBlocks (clP sp ((q : Nat) : Int))).toNat else 0
def phTo (e : Bool) (ws : List Int) (sp : List Sp) : Nat → Int
  | 0 => 0
  | i + 1 => phTo e ws sp i + phT e ws sp i
theorem fr_same {e : Bool} {ws ws' : List Int} {sp sp' : List Sp} (hl16 : sp.length ≤ 16) (hl : sp'.length = sp.length) {q : Nat} (hs : spAt sp' ((q : Nat) : Int) = spAt sp ((q : Nat) : Int)) (hq : q < sp.length) (hst : stP sp ((q : Nat) : Int) ≠ 0) (hw : ∀ x : Nat, x / 32 = q → ws'.getD x 0 = ws.getD x 0) : ∀ i : Nat, ((i : Nat) : Int) ≤ cBlocks (clP sp ((q : Nat) : Int)) → frTo e ws' sp' q i = frTo e ws sp q i
  | 0, _ => rfl
  | i + 1, hi => by
    have ih := fr_same (e := e) hl16 hl hs hq hst hw i (by omega)
    have hc : clP sp' ((q : Nat) : Int) = clP sp ((q : Nat) : Int) := by unfold clP; rw [hs]
    have ha : adr sp' q i = adr sp q i := by unfold adr; rw [hc]
    have hb : BlAt sp q i := ⟨hq, hst, by omega⟩
    obtain ⟨g1, g2, _, _⟩ := page_same hl hs hw (z := adr sp q i) (blk_range hl16 hb).2.2.1
    have ht : toF e ws' sp' q i = toF e ws sp q i := by unfold toF blB; rw [ha, g1, g2]
    show (if _ then _ else _) = (if _ then _ else _)
    rw [ht, hc, ih]
theorem ph_change {e : Bool} {ws ws' : List Int} {sp sp' : List Sp} (hl16 : sp.length ≤ 16) (hl : sp'.length = sp.length) {p : Nat} (h : ∀ q : Nat, q ≠ p → spAt sp' ((q : Nat) : Int) = spAt sp ((q : Nat) : Int)) (hw : ∀ x : Nat, x / 32 ≠ p → ws'.getD x 0 = ws.getD x 0) : ∀ i, i ≤ sp.length → phTo e ws' sp' i + (if p < i then phT e ws sp p else 0) = phTo e ws sp i + (if p < i then phT e ws' sp' p else 0)
  | 0, _ => rfl
  | i + 1, hi => by
    have ih := ph_change (e := e) hl16 hl h hw i (by omega)
    show phTo e ws' sp' i + phT e ws' sp' i + _ = phTo e ws sp i + phT e ws sp i + _
    by_cases e0 : i = p
    · subst e0
      rw [if_pos (by omega), if_pos (by omega)]
      rw [if_neg (by omega), if_neg (by omega)] at ih; omega
    · have e1 : phT e ws' sp' i = phT e ws sp i := by
        have hs := h i e0
        unfold phT
        rw [show stP sp' ((i : Nat) : Int) = stP sp ((i : Nat) : Int) by unfold stP; rw [hs], show clP sp' ((i : Nat) : Int) = clP sp ((i : Nat) : Int) by unfold clP; rw [hs]]
        split
        · rename_i h2
          exact fr_same hl16 hl hs (by omega) (by rw [h2]; decide) (fun x hx => hw x (by omega)) _ (by have := blocks_range (clP sp ((i : Nat) : Int)); omega)
        · rfl
      have e2 : ∀ a : Int, (if p < i + 1 then a else 0) = (if p < i then a else 0) := fun a => by by_cases h2 : p < i <;> simp [h2] <;> omega
      rw [e1, e2, e2]; omega
structure AlQ (cs : List Cc) (e : Bool) (ws : List Int) (sp : List Sp) (y : St3) : Prop where
  fb : FbI y.1 y.2.1
  len : y.2.1.length = sp.length
  lenw : y.1.length = ws.length
  cl : ∀ q : Nat, stP sp ((q : Nat) : Int) ≠ 2 ∨ stP y.2.1 ((q : Nat) : Int) = 2 → spAt y.2.1 ((q : Nat) : Int) = spAt sp ((q : Nat) : Int) ∧ ∀ w : Nat, w / 32 = q → y.1.getD w 0 = ws.getD w 0
  gt : ∀ q : Nat, stP sp ((q : Nat) : Int) = 2 → stP y.2.1 ((q : Nat) : Int) ≠ 2 → ∀ z : Int, z / 32 = ((q : Nat) : Int) → gtOk y.1 y.2.1 z = (gtOk ws sp z && blB ws sp e z)
  gw : ∀ q : Nat, stP sp ((q : Nat) : Int) = 2 → stP y.2.1 ((q : Nat) : Int) ≠ 2 → ∀ z : Int, gtOk y.1 y.2.1 z = true → z / 32 = ((q : Nat) : Int) → ∀ w : Nat, z ≤ ((w : Nat) : Int) → ((w : Nat) : Int) ≤ z + gtN ws sp z → y.1.getD w 0 = ws.getD w 0
  st : ∀ q : Nat, stP sp ((q : Nat) : Int) = 2 → stP y.2.1 ((q : Nat) : Int) ≠ 2 → (stP y.2.1 ((q : Nat) : Int) = 0 ∧ kpB cs ((q : Nat) : Int) = false ∧ ∀ z : Int, z / 32 = ((q : Nat) : Int) → gtOk y.1 y.2.1 z = false) ∨ (stP y.2.1 ((q : Nat) : Int) = 1 ∧ (kpB cs ((q : Nat) : Int) = true ∨ ∃ z : Int, z / 32 = ((q : Nat) : Int) ∧ gtOk y.1 y.2.1 z = true))
  sum : y.2.2 + phTo e y.1 y.2.1 sp.length = phTo e ws sp sp.length
  us : usS y.2.1 + y.2.2 = usS sp
theorem AlQ.zero {cs : List Cc} {e : Bool} {ws : List Int} {sp : List Sp} (h : FbI ws sp) : AlQ cs e ws sp (ws, sp, 0) :=
  ⟨h, rfl, rfl, fun _ _ => ⟨rfl, fun _ _ => rfl⟩, fun q h1 h2 => absurd h1 h2, fun q h1 h2 => absurd h1 h2, fun q h1 h2 => absurd h1 h2, by simp, by simp⟩
theorem AlQ.succ {cs : List Cc} {e : Bool} {ws : List Int} {sp : List Sp} {y : St3} (h : AlQ cs e ws sp y) (hd : ¬ dyI y.2.1 < 0) : AlQ cs e ws sp ((onX cs e y.1 y.2.1).1, (onX cs e y.1 y.2.1).2.1, y.2.2 + (onX cs e y.1 y.2.1).2.2) := by
  obtain ⟨hp, hlt, hst, _⟩ := dy_ix hd
  have O := onX_I (cs := cs) (e := e) h.fb hd
  generalize Int.toNat (dyI y.2.1) = p at *
  rw [hp] at hst
  clear hp hd
  obtain ⟨_, f3, f4⟩ := h.fb.frm
  generalize onX cs e y.1 y.2.1 = v at *
  have h0 := h.cl p (.inr hst)
  have hst0 : stP sp ((p : Nat) : Int) = 2 := by rw [← hst]; unfold stP; rw [h0.1]
  have hps : ∀ z : Int, z / 32 = ((p : Nat) : Int) → gtOk y.1 y.2.1 z = gtOk ws sp z ∧ gtB y.1 y.2.1 z = gtB ws sp z ∧ gtC y.1 y.2.1 z = gtC ws sp z ∧ gtN y.1 y.2.1 z = gtN ws sp z := fun z hz => page_same h.len h0.1 h0.2 hz
  have hps2 : ∀ q : Nat, q ≠ p → ∀ z : Int, z / 32 = ((q : Nat) : Int) → gtOk v.1 v.2.1 z = gtOk y.1 y.2.1 z := fun q hq z hz => (page_same O.len (O.oth q hq) (fun x hx => O.wo x (by omega)) hz).1
  have hstv : stP v.2.1 ((p : Nat) : Int) ≠ 2 := by rcases O.st with ⟨h1, _⟩ | ⟨h1, _⟩ <;> rw [h1] <;> decide
  have hsame : ∀ q : Nat, q ≠ p → stP v.2.1 ((q : Nat) : Int) = stP y.2.1 ((q : Nat) : Int) := fun q hq => by unfold stP; rw [O.oth q hq]
  refine ⟨O.fb, O.len.trans h.len, O.lenw.trans h.lenw, fun q hq => ?_, fun q h1 h2 z hz => ?_, fun q h1 h2 z hg hz w hw1 hw2 => ?_, fun q h1 h2 => ?_, ?_, ?_⟩
  · have hne : q ≠ p := fun e1 => by
      subst e1
      rcases hq with hq | hq
      · exact hq hst0
      · exact hstv hq
    have := h.cl q (by rcases hq with hq | hq; exact .inl hq; exact .inr (by rw [← hsame q hne]; exact hq))
    exact ⟨(O.oth q hne).trans this.1, fun w hw => (O.wo w (by omega)).trans (this.2 w hw)⟩
  · by_cases e1 : q = p
    · subst e1
      show gtOk v.1 v.2.1 z = _
      rw [O.gt z hz, (hps z hz).1]; unfold blB; rw [(hps z hz).1, (hps z hz).2.1]
    · show gtOk v.1 v.2.1 z = _
      rw [hps2 q e1 z hz]; exact h.gt q h1 (by rw [← hsame q e1]; exact h2) z hz
  · have hg' : gtOk v.1 v.2.1 z = true := hg
    show v.1.getD w 0 = _
    by_cases e1 : q = p
    · subst e1
      have hgy : gtOk y.1 y.2.1 z = true := by rw [O.gt z hz] at hg'; simp only [Bool.and_eq_true] at hg'; exact hg'.1
      rw [O.gw z hg' hz w hw1 (by rw [(hps z hz).2.2.2]; exact hw2)]
      have hpt := gt_parts hgy
      have hn0 := gt_range (ws := ws) (sp := sp) (a := z)
      have := (hps z hz).2.2.2
      exact h0.2 w (by have := hpt.2.2.2.2; have := (fn_parts hpt.1).1; omega)
    · have hgy : gtOk y.1 y.2.1 z = true := by rw [← hps2 q e1 z hz]; exact hg'
      have hpt := gt_parts hgy
      have hzz := (fn_parts hpt.1).1
      have hsy : stP y.2.1 ((q : Nat) : Int) ≠ 2 := by rw [← hsame q e1]; exact h2
      have hws : gtOk ws sp z = true := by have := h.gt q h1 hsy z hz; rw [hgy] at this; cases hgs : gtOk ws sp z with | true => rfl | false => rw [hgs] at this; cases this
      have hpt2 := gt_parts hws
      rw [O.wo w (by have := hpt2.2.2.2.2; omega)]
      exact h.gw q h1 hsy z hgy hz w hw1 hw2
  · by_cases e1 : q = p
    · subst e1; exact O.st
    · have hsy : stP y.2.1 ((q : Nat) : Int) ≠ 2 := by rw [← hsame q e1]; exact h2
      show (stP v.2.1 _ = 0 ∧ _ ∧ ∀ z : Int, _ → gtOk v.1 v.2.1 z = false) ∨ (stP v.2.1 _ = 1 ∧ (_ ∨ ∃ z : Int, _ ∧ gtOk v.1 v.2.1 z = true))
      rw [hsame q e1]
      rcases h.st q h1 hsy with ⟨a1, a2, a3⟩ | ⟨a1, a2⟩
      · exact .inl ⟨a1, a2, fun z hz => (hps2 q e1 z hz).trans (a3 z hz)⟩
      · refine .inr ⟨a1, ?_⟩
        rcases a2 with a2 | ⟨z, hz, a2⟩
        · exact .inl a2
        · exact .inr ⟨z, hz, (hps2 q e1 z hz).trans a2⟩
  · have := ph_change (e := e) f3 O.len O.oth O.wo y.2.1.length (Nat.le_refl _)
    rw [if_pos hlt, if_pos hlt] at this
    have e1 : phT e v.1 v.2.1 p = 0 := by unfold phT; rw [if_neg hstv]
    have e2 : phT e y.1 y.2.1 p = v.2.2 := by unfold phT; rw [if_pos hst, O.sum]
    have := h.sum
    show y.2.2 + v.2.2 + phTo e v.1 v.2.1 sp.length = _
    rw [h.len] at *; omega
  · have h1 := h.us; have h2 := O.us
    show usS v.2.1 + (y.2.2 + v.2.2) = _; omega
theorem alTo_Q {cs : List Cc} {e : Bool} {ws : List Int} {sp : List Sp} (h : FbI ws sp) : ∀ k, k ≤ dyN sp → AlQ cs e ws sp (alTo cs e ws sp k)
  | 0, _ => AlQ.zero h
  | k + 1, hk => by
    have ih := alTo_Q (cs := cs) (e := e) h k (by omega)
    refine ih.succ fun hn => ?_
    have hf := alTo_fm h.fm cs e k (by omega)
    have h2 : dyN (alTo cs e ws sp k).2.1 = 0 := dyTo_none (dy_none hn) _
    omega
theorem alX_Q {cs : List Cc} {e : Bool} {ws : List Int} {sp : List Sp} (h : FbI ws sp) : AlQ cs e ws sp (alX cs e ws sp) := alTo_Q h _ (Nat.le_refl _)

end Go.Proofs.YthadoehgmdageaaDoor.Fl
