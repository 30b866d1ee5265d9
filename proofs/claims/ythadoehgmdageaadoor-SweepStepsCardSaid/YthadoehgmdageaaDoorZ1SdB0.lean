/- What sound's reference says. Plain lemmas; conditions: in each. -/
import Derived.Test.YthadoehgmdageaaDoorZ1SdA0
set_option linter.unusedVariables false
set_option linter.unusedSimpArgs false
namespace Go.Proofs.YthadoehgmdageaaDoor.Fl
open Go.RowKit
attribute [local irreducible] blkB zeroB
theorem gt_zero {ws : List Int} {sp : List Sp} {a : Int} (h : wAt ws a = 0) : gtOk ws sp a = false := by unfold gtOk; rw [h]; simp [show hdGood 0 = false by decide]
theorem gtN_no {ws : List Int} {sp : List Sp} {a : Int} (h : gtOk ws sp a = false) : gtN ws sp a = 0 := by unfold gtN; rw [if_neg (by rw [h]; decide)]
theorem beh_free {ws : List Int} {sp : List Sp} {q j : Nat} {f : Bool} (hl : sp.length ≤ 16) (hn : ws.length = 32 * sp.length) (hb : BlAt sp q j) (hz : zeroB ws (adr sp q j).toNat (cWords (clP sp ((q : Nat) : Int))).toNat = true) : behF ws sp ((q : Nat) : Int) (adr sp q j) f = true := by
  have h0 := blk_range hl hb; have h2 := blk_len hl hb hn
  have hz := (zero_iff (by omega)).1 hz
  have hg := gtN_no (gt_zero (ws := ws) (sp := sp) (a := adr sp q j) (hz 0 (by omega)))
  unfold behF; rw [hg]
  refine (zero_iff (by omega)).2 fun k hk => ?_
  have := hz (k + 1) (by omega)
  rwa [show (adr sp q j).toNat + (k + 1) = (adr sp q j + 1 + 0).toNat + k by omega] at this
def CkInv (ws : List Int) (sp : List Sp) (p i : Nat) (bad : Int) : Prop := PgTo ws sp p ∧ BlTo sp (filF ws sp) p i ∧ ((bad = 0 ∧ BlTo sp (behF ws sp) p i) ∨ (bad = 3 ∧ behA ws sp = false))
theorem CkInv.zero {ws : List Int} {sp : List Sp} : CkInv ws sp 0 0 0 := ⟨PgTo.zero, BlTo.zero, .inl ⟨rfl, BlTo.zero⟩⟩
theorem pg_nt {ws : List Int} {sp : List Sp} {p : Nat} (hl : sp.length ≤ 16) (hn : ws.length = 32 * sp.length) (hp : p < sp.length) : 0 ≤ iMul .i64 32 ((p : Nat) : Int) ∧ iMul .i64 32 ((p : Nat) : Int) + 32 ≤ ((ws.length : Nat) : Int) ∧ zeroB ws (Int.toNat (iMul .i64 32 ((p : Nat) : Int))) (Int.toNat 32) = zeroB ws (32 * p) 32 := by
  rw [mul_i64 (by unfold Fl.in64; omega)]
  exact ⟨by omega, by omega, by rw [show Int.toNat (32 * ((p : Nat) : Int)) = 32 * p by omega]; rfl⟩
theorem CkInv.page {ws : List Int} {sp : List Sp} {p : Nat} {bad : Int} (h : CkInv ws sp p 0 bad) (hl : sp.length ≤ 16) (hn : ws.length = 32 * sp.length) (hp : p < sp.length) (hs : stP sp ((p : Nat) : Int) = 0) (hz : zeroB ws (Int.toNat (iMul .i64 32 ((p : Nat) : Int))) (Int.toNat 32) = true) : CkInv ws sp (p + 1) 0 bad :=
  ⟨h.1.succ fun _ => (pg_nt hl hn hp).2.2.symm.trans hz, h.2.1.next (.inl hs), h.2.2.imp (fun x => ⟨x.1, x.2.next (.inl hs)⟩) id⟩
theorem CkInv.free {ws : List Int} {sp : List Sp} {p i : Nat} {bad : Int} (h : CkInv ws sp p i bad) (hl : sp.length ≤ 16) (hn : ws.length = 32 * sp.length) (hb : BlAt sp p i) (hf : hasB (frP sp ((p : Nat) : Int)) ((i : Nat) : Int) = true) (hz : zeroB ws (Int.toNat (adr sp p i)) (Int.toNat (cWords (clP sp ((p : Nat) : Int)))) = true) : CkInv ws sp p (i + 1) bad :=
  ⟨h.1, h.2.1.succ fun _ => by rw [hf]; unfold filF; rw [if_pos rfl]; exact hz, h.2.2.imp (fun x => ⟨x.1, x.2.succ fun _ => beh_free hl hn hb hz⟩) id⟩
theorem beh_ix {ws : List Int} {sp : List Sp} {p i : Nat} (hl : sp.length ≤ 16) (hn : ws.length = 32 * sp.length) (hb : BlAt sp p i) (hg : gtOk ws sp (adr sp p i) = true) (hc : gtC ws sp (adr sp p i) = clP sp ((p : Nat) : Int)) : 0 ≤ iAdd .i64 (iAdd .i64 (adr sp p i) 1) (gtN ws sp (adr sp p i)) ∧ iAdd .i64 (iAdd .i64 (adr sp p i) 1) (gtN ws sp (adr sp p i)) + iSub .i64 (iSub .i64 (cWords (clP sp ((p : Nat) : Int))) 1) (gtN ws sp (adr sp p i)) ≤ ((ws.length : Nat) : Int) ∧ ∀ f, zeroB ws (Int.toNat (iAdd .i64 (iAdd .i64 (adr sp p i) 1) (gtN ws sp (adr sp p i)))) (Int.toNat (iSub .i64 (iSub .i64 (cWords (clP sp ((p : Nat) : Int))) 1) (gtN ws sp (adr sp p i)))) = behF ws sp ((p : Nat) : Int) (adr sp p i) f := by
  have h0 := blk_range hl hb; have h1 := hb.1; have h2 := blk_len hl hb hn; have h3 := gt_range (ws := ws) (sp := sp) (a := adr sp p i)
  rw [add_i64 (x := adr sp p i) (by unfold Fl.in64; omega), add_i64 (by unfold Fl.in64; omega), sub_i64 (x := cWords _) (by unfold Fl.in64; omega), sub_i64 (by unfold Fl.in64; omega)]
  exact ⟨by omega, by omega, fun _ => rfl⟩
theorem CkInv.obj {ws : List Int} {sp : List Sp} {p i : Nat} {bad : Int} (h : CkInv ws sp p i bad) (hl : sp.length ≤ 16) (hn : ws.length = 32 * sp.length) (hb : BlAt sp p i) (hf : hasB (frP sp ((p : Nat) : Int)) ((i : Nat) : Int) = false) (hg : gtOk ws sp (adr sp p i) = true) (hc : gtC ws sp (adr sp p i) = clP sp ((p : Nat) : Int)) (hz : zeroB ws (Int.toNat (iAdd .i64 (iAdd .i64 (adr sp p i) 1) (gtN ws sp (adr sp p i)))) (Int.toNat (iSub .i64 (iSub .i64 (cWords (clP sp ((p : Nat) : Int))) 1) (gtN ws sp (adr sp p i)))) = true) : CkInv ws sp p (i + 1) bad :=
  ⟨h.1, h.2.1.succ fun _ => by unfold filF; rw [hf, if_neg (by decide), hg, hc, beq_self_eq_true]; rfl, h.2.2.imp (fun x => ⟨x.1, x.2.succ fun _ => ((beh_ix hl hn hb hg hc).2.2 _).symm.trans hz⟩) id⟩
theorem in_get {ws : List Int} {sp : List Sp} (hn : ws.length = 32 * sp.length) (u : Int) : (lsA ws sp).any (fun z : Int => z == u) = gtOk ws sp u := by
  cases e : gtOk ws sp u with
  | true =>
    have h := fn_lt (gt_parts e).1 hn
    exact List.any_eq_true.2 ⟨u, ls_mem.2 ⟨by omega, e⟩, beq_self_eq_true _⟩
  | false =>
    refine List.any_eq_false.2 fun z hz he => ?_
    have := (ls_mem.1 hz).2
    rw [eq_of_beq he, e] at this; cases this
def RfTo (ws : List Int) (sp : List Sp) (e : Bool) (i : Nat) : Prop := ∀ j : Nat, j < i → refF ws sp e ((lsA ws sp).getD j 0 / 32) ((lsA ws sp).getD j 0) true = true
theorem RfTo.zero {ws : List Int} {sp : List Sp} {e : Bool} : RfTo ws sp e 0 := fun j h => by omega
theorem RfTo.succ {ws : List Int} {sp : List Sp} {e : Bool} {i : Nat} (h : RfTo ws sp e i) (hx : refF ws sp e ((lsA ws sp).getD i 0 / 32) ((lsA ws sp).getD i 0) true = true) : RfTo ws sp e (i + 1) := fun j hj => by
  by_cases e : j = i
  · subst e; exact hx
  · exact h j (by omega)
theorem RfTo.skip {ws : List Int} {sp : List Sp} {e : Bool} {i : Nat} (h : RfTo ws sp e i) (h1 : (stP sp ((lsA ws sp).getD i 0 / 32) != 1) = true) (h2 : blB ws sp e ((lsA ws sp).getD i 0) = false) : RfTo ws sp e (i + 1) :=
  h.succ (rf_0 (beq_eq_false_iff_ne.2 (bne_iff_ne.1 h1)) h2).symm
theorem RfTo.step {ws : List Int} {sp : List Sp} {e : Bool} {i k : Nat} (h : RfTo ws sp e i) (hn : ws.length = 32 * sp.length) (hz : NoneTo (fun u : Int => !((lsA ws sp).any fun z : Int => z == u)) (refTo ws ((lsA ws sp).getD i 0) (gtN ws sp ((lsA ws sp).getD i 0)).toNat) k) (hk : ¬ ((k : Nat) : Int) < ((refTo ws ((lsA ws sp).getD i 0) (gtN ws sp ((lsA ws sp).getD i 0)).toNat).length : Int)) : RfTo ws sp e (i + 1) :=
  h.succ (by
    have := hz.any hk
    simp only [in_get hn] at this
    unfold refF; rw [this]; simp)
theorem RfTo.all {ws : List Int} {sp : List Sp} {e : Bool} {i : Nat} (h : RfTo ws sp e i) (hi : ¬ ((i : Nat) : Int) < ((lsA ws sp).length : Int)) (hn : ws.length = 32 * sp.length) (hl : sp.length ≤ 16) : refA ws sp e = true := blk_iff.2 fun q j hb => by
  cases hg : gtOk ws sp (adr sp q j) with
  | true =>
    have hm : adr sp q j ∈ lsA ws sp := ls_mem.2 ⟨by have := fn_lt (gt_parts hg).1 hn; omega, hg⟩
    obtain ⟨m, hm1, hm2⟩ := List.getElem_of_mem hm
    have := h m (by omega)
    rw [show (lsA ws sp).getD m 0 = adr sp q j by rw [← hm2]; simp [List.getD, hm1], (blk_range hl hb).2.2.1] at this
    exact this
  | false => unfold refF; rw [gtN_no hg]; simp [refTo]
end Go.Proofs.YthadoehgmdageaaDoor.Fl
