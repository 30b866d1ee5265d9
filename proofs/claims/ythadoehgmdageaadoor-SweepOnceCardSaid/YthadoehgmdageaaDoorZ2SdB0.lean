/- What sound's reference says. Plain lemmas; conditions: in each. -/
import Derived.Test.YthadoehgmdageaaDoorZ2SdA0
set_option linter.unusedVariables false
set_option linter.unusedSimpArgs false
namespace Go.Proofs.YthadoehgmdageaaDoor.Fl
open Go.RowKit
attribute [local irreducible] blkB zeroB
theorem gt_zero {ws : List Int} {sp : List Sp} {a : Int} (h : wAt ws a = 0) : gtOk ws sp a = false := by unfold gtOk; rw [h]; simp [show hdGood 0 = false by decide]
theorem gtN_no {ws : List Int} {sp : List Sp} {a : Int} (h : gtOk ws sp a = false) : gtN ws sp a = 0 := by unfold gtN; rw [if_neg (by rw [h]; decide)]
theorem beh_free {ws : List Int} {sp : List Sp} {q j : Nat} {f : Bool} (hl : sp.length ≤ 16) (hn : ws.length = 32 * sp.length) (hb : BlAt sp q j) (hz : zeroB ws (adr sp q j).toNat (cWords (clP sp ((q : Nat) : Int))).toNat = true) : behF ws sp ((q : Nat) : Int) (adr sp q j) f = true := by
  have h0 := blk_range hl hb; have h2 := blk_len hl hb hn
  have hz := (zero_iff (by omega)).1 hz
  have hg := gtN_no (gt_zero (ws := ws) (sp := sp) (a := adr sp q j) (hz 0 (by omega)))
  unfold behF; rw [hg]
  refine (zero_iff (by omega)).2 fun k hk => ?_
  have := hz (k + 1) (by omega)
  rwa [show (adr sp q j).toNat + (k + 1) = (adr sp q j + 1 + 0).toNat + k by omega] at this
def CkInv (ws : List Int) (sp : List Sp) (p i : Nat) (bad : Int) : Prop := PgTo ws sp p ∧ BlTo sp (filF ws sp) p i ∧ ((bad = 0 ∧ BlTo sp (behF ws sp) p i) ∨ (bad = 3 ∧ behA ws sp = false))
theorem CkInv.zero {ws : List Int} {sp : List Sp} : CkInv ws sp 0 0 0 := ⟨PgTo.zero, BlTo.zero, .inl ⟨rfl, BlTo.zero⟩⟩
theorem pg_nt {ws : List Int} {sp : List Sp} {p : Nat} (hl : sp.length ≤ 16) (hn : ws.length = 32 * sp.length) (hp : p < sp.length) : 0 ≤ iMul .i64 32 ((p : Nat) : Int) ∧ iMul .i64 32 ((p : Nat) : Int) + 32 ≤ ((ws.length : Nat) : Int) ∧ zeroB ws (Int.toNat (iMul .i64 32 ((p : Nat) : Int))) (Int.toNat 32) = zeroB ws (32 * p) 32 := by
  rw [mul_i64 (by unfold Fl.in64; omega)]
  exact ⟨by omega, by omega, by rw [show Int.toNat (32 * ((p : Nat) : Int)) = 32 * p by omega]; rfl⟩
theorem CkInv.page {ws : List Int} {sp : List Sp} {p : Nat} {bad : Int} (h : CkInv ws sp p 0 bad) (hl : sp.length ≤ 16) (hn : ws.length = 32 * sp.length) (hp : p < sp.length) (hs : stP sp ((p : Nat) : Int) = 0) (hz : zeroB ws (Int.toNat (iMul .i64 32 ((p : Nat) : Int))) (Int.toNat 32) = true) : CkInv ws sp (p + 1) 0 bad :=
  ⟨h.1.succ fun _ => (pg_nt hl hn hp).2.2.symm.trans hz, h.2.1.next (.inl hs), h.2.2.imp (fun x => ⟨x.1, x.2.next (.inl hs)⟩) id⟩
theorem CkInv.nextp {ws : List Int} {sp : List Sp} {p i : Nat} {bad : Int} (h : CkInv ws sp p i bad) (hx : ¬ ((i : Nat) : Int) < cBlocks (clP sp ((p : Nat) : Int))) (hs : ¬ stP sp ((p : Nat) : Int) = 0) : CkInv ws sp (p + 1) 0 bad :=
  ⟨h.1.succ fun e => absurd e hs, h.2.1.next (.inr hx), h.2.2.imp (fun x => ⟨x.1, x.2.next (.inr hx)⟩) id⟩
theorem CkInv.free {ws : List Int} {sp : List Sp} {p i : Nat} {bad : Int} (h : CkInv ws sp p i bad) (hl : sp.length ≤ 16) (hn : ws.length = 32 * sp.length) (hb : BlAt sp p i) (hf : hasB (frP sp ((p : Nat) : Int)) ((i : Nat) : Int) = true) (hz : zeroB ws (Int.toNat (adr sp p i)) (Int.toNat (cWords (clP sp ((p : Nat) : Int)))) = true) : CkInv ws sp p (i + 1) bad :=
  ⟨h.1, h.2.1.succ fun _ => by rw [hf]; unfold filF; rw [if_pos rfl]; exact hz, h.2.2.imp (fun x => ⟨x.1, x.2.succ fun _ => beh_free hl hn hb hz⟩) id⟩
theorem beh_ix {ws : List Int} {sp : List Sp} {p i : Nat} (hl : sp.length ≤ 16) (hn : ws.length = 32 * sp.length) (hb : BlAt sp p i) (hg : gtOk ws sp (adr sp p i) = true) (hc : gtC ws sp (adr sp p i) = clP sp ((p : Nat) : Int)) : 0 ≤ iAdd .i64 (iAdd .i64 (adr sp p i) 1) (gtN ws sp (adr sp p i)) ∧ iAdd .i64 (iAdd .i64 (adr sp p i) 1) (gtN ws sp (adr sp p i)) + iSub .i64 (iSub .i64 (cWords (clP sp ((p : Nat) : Int))) 1) (gtN ws sp (adr sp p i)) ≤ ((ws.length : Nat) : Int) ∧ ∀ f, zeroB ws (Int.toNat (iAdd .i64 (iAdd .i64 (adr sp p i) 1) (gtN ws sp (adr sp p i)))) (Int.toNat (iSub .i64 (iSub .i64 (cWords (clP sp ((p : Nat) : Int))) 1) (gtN ws sp (adr sp p i)))) = behF ws sp ((p : Nat) : Int) (adr sp p i) f := by
  have h0 := blk_range hl hb; have h1 := hb.1; have h2 := blk_len hl hb hn; have h3 := gt_range (ws := ws) (sp := sp) (a := adr sp p i)
  rw [add_i64 (x := adr sp p i) (by unfold Fl.in64; omega), add_i64 (by unfold Fl.in64; omega), sub_i64 (x := cWords _) (by unfold Fl.in64; omega), sub_i64 (by unfold Fl.in64; omega)]
  exact ⟨by omega, by omega, fun _ => rfl⟩
theorem CkInv.obj {ws : List Int} {sp : List Sp} {p i : Nat} {bad : Int} (h : CkInv ws sp p i bad) (hl : sp.length ≤ 16) (hn : ws.length = 32 * sp.length) (hb : BlAt sp p i) (hf : hasB (frP sp ((p : Nat) : Int)) ((i : Nat) : Int) = false) (hg : gtOk ws sp (adr sp p i) = true) (hc : gtC ws sp (adr sp p i) = clP sp ((p : Nat) : Int)) (hz : zeroB ws (Int.toNat (iAdd .i64 (iAdd .i64 (adr sp p i) 1) (gtN ws sp (adr sp p i)))) (Int.toNat (iSub .i64 (iSub .i64 (cWords (clP sp ((p : Nat) : Int))) 1) (gtN ws sp (adr sp p i)))) = true) : CkInv ws sp p (i + 1) bad :=
  ⟨h.1, h.2.1.succ fun _ => by unfold filF; rw [hf, if_neg (by decide), hg, hc, beq_self_eq_true]; rfl, h.2.2.imp (fun x => ⟨x.1, x.2.succ fun _ => ((beh_ix hl hn hb hg hc).2.2 _).symm.trans hz⟩) id⟩
theorem CkInv.bad {ws : List Int} {sp : List Sp} {p i : Nat} {bad : Int} (h : CkInv ws sp p i bad) (hl : sp.length ≤ 16) (hn : ws.length = 32 * sp.length) (hb : BlAt sp p i) (hf : hasB (frP sp ((p : Nat) : Int)) ((i : Nat) : Int) = false) (hg : gtOk ws sp (adr sp p i) = true) (hc : gtC ws sp (adr sp p i) = clP sp ((p : Nat) : Int)) (hz : zeroB ws (Int.toNat (iAdd .i64 (iAdd .i64 (adr sp p i) 1) (gtN ws sp (adr sp p i)))) (Int.toNat (iSub .i64 (iSub .i64 (cWords (clP sp ((p : Nat) : Int))) 1) (gtN ws sp (adr sp p i)))) = false) : CkInv ws sp p (i + 1) 3 :=
  ⟨h.1, h.2.1.succ fun _ => by unfold filF; rw [hf, if_neg (by decide), hg, hc, beq_self_eq_true]; rfl, .inr ⟨rfl, blk_f hb (((beh_ix hl hn hb hg hc).2.2 _).symm.trans hz)⟩⟩
theorem fil_f {ws : List Int} {sp : List Sp} {p i : Nat} (hb : BlAt sp p i) (h : filF ws sp ((p : Nat) : Int) (adr sp p i) (hasB (frP sp ((p : Nat) : Int)) ((i : Nat) : Int)) = false) : filA ws sp = false := by unfold filA; rw [blk_f hb h]; simp
theorem ck_pg {ws : List Int} {sp : List Sp} {e : Bool} {p : Nat} (hz : zeroB ws (Int.toNat (iMul .i64 32 ((p : Nat) : Int))) (Int.toNat 32) = false) (hf : formB ws.length sp = true) (hp : ((p : Nat) : Int) < (sp.length : Int)) (hs : stP sp ((p : Nat) : Int) = 0) : 2 = chkI ws sp e :=
  chk_2 hf (PgTo.bad (by omega) hs ((pg_nt (form_p hf).2.2.1 (form_p hf).2.2.2 (by omega)).2.2.symm.trans hz)).symm
theorem ck_fr {ws : List Int} {sp : List Sp} {e : Bool} {p i : Nat} (hz : zeroB ws (Int.toNat (adr sp p i)) (Int.toNat (cWords (clP sp ((p : Nat) : Int)))) = false) (hh : hasB (frP sp ((p : Nat) : Int)) ((i : Nat) : Int) = true) (hf : formB ws.length sp = true) (hb : BlAt sp p i) : 2 = chkI ws sp e :=
  chk_2 hf (fil_f hb (by unfold filF; rw [hh, if_pos rfl]; exact hz))
theorem ck_g {ws : List Int} {sp : List Sp} {e : Bool} {p i : Nat} (hz : gtOk ws sp (adr sp p i) = false) (hh : hasB (frP sp ((p : Nat) : Int)) ((i : Nat) : Int) = false) (hf : formB ws.length sp = true) (hb : BlAt sp p i) : 2 = chkI ws sp e :=
  chk_2 hf (fil_f hb (by unfold filF; rw [hh, if_neg (by decide), hz]; rfl))
theorem ck_c {ws : List Int} {sp : List Sp} {e : Bool} {p i : Nat} (hz : gtC ws sp (adr sp p i) ≠ clP sp ((p : Nat) : Int)) (hh : hasB (frP sp ((p : Nat) : Int)) ((i : Nat) : Int) = false) (hf : formB ws.length sp = true) (hb : BlAt sp p i) : 2 = chkI ws sp e :=
  chk_2 hf (fil_f hb (by unfold filF; rw [hh, if_neg (by decide), beq_eq_false_iff_ne.2 hz]; simp))
theorem ck_fil {ws : List Int} {sp : List Sp} {p : Nat} {bad : Int} (h : CkInv ws sp p 0 bad) (hp : ¬ ((p : Nat) : Int) < (sp.length : Int)) : filA ws sp = true := (fil_end h.1 hp).symm.trans (h.2.1.all hp).symm
theorem ck_bad {ws : List Int} {sp : List Sp} {e : Bool} {p : Nat} {bad : Int} (h : CkInv ws sp p 0 bad) (hp : ¬ ((p : Nat) : Int) < (sp.length : Int)) (hf : formB ws.length sp = true) (hb : bad ≠ 0) : bad = chkI ws sp e := by
  rcases h.2.2 with x | x
  · exact absurd x.1 hb
  · rw [x.1]; exact chk_3 hf (ck_fil h hp) x.2
theorem ck_beh {ws : List Int} {sp : List Sp} {p : Nat} {bad : Int} (h : CkInv ws sp p 0 bad) (hp : ¬ ((p : Nat) : Int) < (sp.length : Int)) (hb : bad = 0) : behA ws sp = true := by
  rcases h.2.2 with x | x
  · exact (x.2.all hp).symm
  · omega
theorem zero_fx {ws : List Int} {a n i : Nat} (hz : ws.getD (a + i) 0 ≠ 0) (h : a + n ≤ ws.length) (hi : i < n) : false = zeroB ws a n := zero_f h hi hz
theorem zero_tx {ws : List Int} {a n i : Nat} (hz : ZeroTo ws a i) (h : n = 0 ∨ a + n ≤ ws.length) (hi : n ≤ i) : true = zeroB ws a n := by
  rcases h with h | h
  · subst h; unfold zeroB; simp
  · exact zero_t h hz hi
theorem in_get {ws : List Int} {sp : List Sp} (hn : ws.length = 32 * sp.length) (u : Int) : (lsA ws sp).any (fun z : Int => z == u) = gtOk ws sp u := by
  cases e : gtOk ws sp u with
  | true =>
    have h := fn_lt (gt_parts e).1 hn
    exact List.any_eq_true.2 ⟨u, ls_mem.2 ⟨by omega, e⟩, beq_self_eq_true _⟩
  | false =>
    refine List.any_eq_false.2 fun z hz he => ?_
    have := (ls_mem.1 hz).2
    rw [eq_of_beq he, e] at this; cases this
theorem ls_get {ws : List Int} {sp : List Sp} {i : Nat} (hi : ((i : Nat) : Int) < ((lsA ws sp).length : Int)) : gtOk ws sp ((lsA ws sp).getD i 0) = true := by
  have hlt : i < (lsA ws sp).length := by omega
  have : (lsA ws sp).getD i 0 ∈ lsA ws sp := by rw [show (lsA ws sp).getD i 0 = (lsA ws sp)[i] by simp [List.getD, hlt]]; exact List.getElem_mem hlt
  exact (ls_mem.1 this).2
theorem ls_ix {ws : List Int} {sp : List Sp} (hn : ws.length = 32 * sp.length) (hl : sp.length ≤ 16) {i : Nat} (hi : ((i : Nat) : Int) < ((lsA ws sp).length : Int)) : iQuo .i64 ((lsA ws sp).getD i 0) 32 = ((Int.toNat ((lsA ws sp).getD i 0 / 32) : Nat) : Int) ∧ Int.toNat ((lsA ws sp).getD i 0 / 32) < sp.length ∧ in64 ((lsA ws sp).getD i 0) := by
  obtain ⟨f1, f2, _⟩ := fn_parts (gt_parts (ls_get hi)).1
  rw [quo32 f1 (by omega)]
  exact ⟨by omega, by omega, by unfold Fl.in64; omega⟩
def RfTo (ws : List Int) (sp : List Sp) (e : Bool) (i : Nat) : Prop := ∀ j : Nat, j < i → refF ws sp e ((lsA ws sp).getD j 0 / 32) ((lsA ws sp).getD j 0) true = true
theorem RfTo.zero {ws : List Int} {sp : List Sp} {e : Bool} : RfTo ws sp e 0 := fun j h => by omega
theorem RfTo.succ {ws : List Int} {sp : List Sp} {e : Bool} {i : Nat} (h : RfTo ws sp e i) (hx : refF ws sp e ((lsA ws sp).getD i 0 / 32) ((lsA ws sp).getD i 0) true = true) : RfTo ws sp e (i + 1) := fun j hj => by
  by_cases e : j = i
  · subst e; exact hx
  · exact h j (by omega)
theorem RfTo.skip {ws : List Int} {sp : List Sp} {e : Bool} {i : Nat} (h : RfTo ws sp e i) (h1 : (stP sp ((lsA ws sp).getD i 0 / 32) != 1) = true) (h2 : blB ws sp e ((lsA ws sp).getD i 0) = false) : RfTo ws sp e (i + 1) :=
  h.succ (rf_0 (beq_eq_false_iff_ne.2 (bne_iff_ne.1 h1)) h2).symm
theorem RfTo.step {ws : List Int} {sp : List Sp} {e : Bool} {i k : Nat} (h : RfTo ws sp e i) (hn : ws.length = 32 * sp.length) (hz : NoneTo (fun u : Int => !((lsA ws sp).any fun z : Int => z == u)) (refTo ws ((lsA ws sp).getD i 0) (gtN ws sp ((lsA ws sp).getD i 0)).toNat) k) (hk : ¬ ((k : Nat) : Int) < ((refTo ws ((lsA ws sp).getD i 0) (gtN ws sp ((lsA ws sp).getD i 0)).toNat).length : Int)) : RfTo ws sp e (i + 1) :=
  h.succ (by
    have := hz.any hk
    simp only [in_get hn] at this
    unfold refF; rw [this]; simp)
theorem ref_bad {ws : List Int} {sp : List Sp} {e : Bool} {i k : Nat} (hz : (lsA ws sp).any (fun z : Int => z == (refTo ws ((lsA ws sp).getD i 0) (gtN ws sp ((lsA ws sp).getD i 0)).toNat).getD k 0) = false) (hn : ws.length = 32 * sp.length) (hi : ((i : Nat) : Int) < ((lsA ws sp).length : Int)) (hk : ((k : Nat) : Int) < ((refTo ws ((lsA ws sp).getD i 0) (gtN ws sp ((lsA ws sp).getD i 0)).toNat).length : Int)) (ha : (stP sp ((lsA ws sp).getD i 0 / 32) == 1) = true ∨ blB ws sp e ((lsA ws sp).getD i 0) = true) : refA ws sp e = false := by
  obtain ⟨q, j, hb, e1, e2⟩ := fn_blk (gt_parts (ls_get hi)).1
  refine blk_f hb ?_
  rw [← e1, ← e2]
  have hlt : k < (refTo ws ((lsA ws sp).getD i 0) (gtN ws sp ((lsA ws sp).getD i 0)).toNat).length := by omega
  have hm : ((refTo ws ((lsA ws sp).getD i 0) (gtN ws sp ((lsA ws sp).getD i 0)).toNat).any fun z => !(gtOk ws sp z)) = true := by
    rw [in_get hn] at hz
    exact NoneTo.anyT (d := 0) (n := k) (by rw [hz]; rfl) hlt
  unfold refF; rw [hm]
  rcases ha with h | h <;> rw [h] <;> simp
theorem RfTo.all {ws : List Int} {sp : List Sp} {e : Bool} {i : Nat} (h : RfTo ws sp e i) (hi : ¬ ((i : Nat) : Int) < ((lsA ws sp).length : Int)) (hn : ws.length = 32 * sp.length) (hl : sp.length ≤ 16) : refA ws sp e = true := blk_iff.2 fun q j hb => by
  cases hg : gtOk ws sp (adr sp q j) with
  | true =>
    have hm : adr sp q j ∈ lsA ws sp := ls_mem.2 ⟨by have := fn_lt (gt_parts hg).1 hn; omega, hg⟩
    obtain ⟨m, hm1, hm2⟩ := List.getElem_of_mem hm
    have := h m (by omega)
    rw [show (lsA ws sp).getD m 0 = adr sp q j by rw [← hm2]; simp [List.getD, hm1], (blk_range hl hb).2.2.1] at this
    exact this
  | false => unfold refF; rw [gtN_no hg]; simp [refTo]
theorem ck_4 {ws : List Int} {sp : List Sp} {e : Bool} {p : Nat} {bad : Int} (hr : refA ws sp e = false) (h : CkInv ws sp p 0 bad) (hp : ¬ ((p : Nat) : Int) < (sp.length : Int)) (hf : formB ws.length sp = true) (hb : bad = 0) : 4 = chkI ws sp e := chk_4 hf (ck_fil h hp) (ck_beh h hp hb) hr
theorem ck_0 {ws : List Int} {sp : List Sp} {e : Bool} {p : Nat} {bad : Int} (hr : refA ws sp e = true) (h : CkInv ws sp p 0 bad) (hp : ¬ ((p : Nat) : Int) < (sp.length : Int)) (hf : formB ws.length sp = true) (hb : bad = 0) : 0 = chkI ws sp e := chk_0 hf (ck_fil h hp) (ck_beh h hp hb) hr

end Go.Proofs.YthadoehgmdageaaDoor.Fl
