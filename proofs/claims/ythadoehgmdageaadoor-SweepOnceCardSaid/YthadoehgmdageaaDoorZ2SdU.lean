/- An object laid, freed. Plain lemmas; conditions: in each. -/
import Derived.Test.YthadoehgmdageaaDoorZ2SdT
set_option linter.unusedVariables false
set_option linter.unusedSimpArgs false
namespace Go.Proofs.YthadoehgmdageaaDoor.Fl
open Go.RowKit
theorem has_with_self {f i : Int} (h : 0 ≤ i ∧ i < 32) : hasB (withI f i) i = true := by
  unfold hasB; rw [with_bit, decide_eq_true h, decide_eq_true (rfl : i.toNat = i.toNat)]; simp
theorem spR_keep {s c f g : Int} (hf : inU32 f) (hr : spR s c f = true) (hu : inU s = true) (hc : isC c = true) (hg : inU32 g) (hn : NoHi g (cBlocks c)) : spR s c g = true := by
  unfold spR at hr ⊢
  have h1 := (noHi_iff hg).2 hn
  split at hr
  · rename_i h0; rw [h0] at hu; exact absurd hu (by decide)
  · rename_i h0; rw [if_neg h0]; rw [hu, hc, h1]; rfl



attribute [local irreducible] blkB zeroB
theorem MadeI.lay {ws : List Int} {sp : List Sp} (h : MadeI ws sp) (e : Bool) (p n : Int) : MadeI (lyW ws sp e p n) (lyS sp p n) := by
  cases hb : lyB sp p n with
  | false => rw [← (ly_no (ws := ws) (e := e) hb).1, ← (ly_no (ws := ws) (e := e) hb).2.1]; exact h
  | true =>
    obtain ⟨f1, f2, f3, f4⟩ := form_p h.form
    obtain ⟨j0, j1, jb, jp, jA, jh, jst⟩ := ly_at h.u32 h.form hb
    have hmay := ly_may (e := e) h.form h.u32 hb
    have hgood := good_put hmay
    have hb' := hb
    unfold lyB at hb'
    simp only [Bool.and_eq_true, decide_eq_true_eq] at hb'
    obtain ⟨hp, hn, ht⟩ := hb'
    have hfu : inU32 (frP sp p) := getD_u32 h.u32 _
    obtain ⟨t1, t2, t3, t4, t5⟩ := tk_parts hfu ht
    have hright := sp_right h.form (p := p) (by have := inR_t hp; omega) (by have := inR_t hp; omega)
    have hc : isC (clP sp p) = true := by rw [jp]; exact sp_isC h.u32 h.form jb.1 jb.2.1
    have hr0 := blk_range f3 jb; have hlen0 := blk_len f3 jb f4
    unfold lyW lyS
    rw [if_pos hb, if_pos hb, jA, t3]
    have hsplit : p = ((p.toNat : Nat) : Int) := jp
    generalize p.toNat = q at *
    subst hsplit
    have hget : ∀ x : Nat, x < ws.length → ((zTo ws (Int.toNat (adr sp q j0)) (Int.toNat (cWords (clP sp ((q : Nat) : Int))))).set (Int.toNat (adr sp q j0)) (hPut true e (clP sp ((q : Nat) : Int)) n)).getD x 0 = if Int.toNat (adr sp q j0) = x then hPut true e (clP sp ((q : Nat) : Int)) n else if Int.toNat (adr sp q j0) ≤ x ∧ x < Int.toNat (adr sp q j0) + Int.toNat (cWords (clP sp ((q : Nat) : Int))) then 0 else ws.getD x 0 := fun x hx => by
      rw [set_getD, zTo_len, zTo_get ws _ _ hx]
      by_cases e1 : Int.toNat (adr sp q j0) = x
      · rw [if_pos e1, if_pos ⟨e1, hx⟩]
      · rw [if_neg e1, if_neg (fun y => e1 y.1)]
    have hj0 : ((j0 : Nat) : Int) = lstI (frP sp ((q : Nat) : Int)) := by rw [j1, t4]
    refine h.block jb (by rw [List.length_set, zTo_len]) (set_u64 (zTo_u64 h.u64 _ _) (hput_u64 hmay)) (fun x hx hne => ?_) ?_ (without_u32 _ _ hfu) (fun j hj => has_without_ne hfu (by omega)) ?_
    · rw [hget x hx, if_neg (by omega), if_neg (by omega)]
    · rw [t1]; exact spR_one (without_u32 _ _ hfu) hc (without_noHi hfu (spR_noHi hfu hright).1)
    · obtain ⟨hnew, hold⟩ := stG_at (sp := sp) (p := ((q : Nat) : Int)) (by have := jb.1; omega) (stP sp ((q : Nat) : Int), clP sp ((q : Nat) : Int), withoutI (frP sp ((q : Nat) : Int)) (lstI (frP sp ((q : Nat) : Int))))
      rw [Int.toNat_natCast] at hnew
      have hlen : (stG sp ((q : Nat) : Int) (stP sp ((q : Nat) : Int), clP sp ((q : Nat) : Int), withoutI (frP sp ((q : Nat) : Int)) (lstI (frP sp ((q : Nat) : Int))))).length = sp.length := stG_len _ _ _
      generalize stG sp ((q : Nat) : Int) (stP sp ((q : Nat) : Int), clP sp ((q : Nat) : Int), withoutI (frP sp ((q : Nat) : Int)) (lstI (frP sp ((q : Nat) : Int)))) = sp' at *
      have e1 : stP sp' ((q : Nat) : Int) = stP sp ((q : Nat) : Int) := by unfold stP; rw [hnew]; rfl
      have e2 : clP sp' ((q : Nat) : Int) = clP sp ((q : Nat) : Int) := by unfold clP; rw [hnew]; rfl
      have hwa : wAt ((zTo ws (Int.toNat (adr sp q j0)) (Int.toNat (cWords (clP sp ((q : Nat) : Int))))).set (Int.toNat (adr sp q j0)) (hPut true e (clP sp ((q : Nat) : Int)) n)) (adr sp q j0) = hPut true e (clP sp ((q : Nat) : Int)) n := by
        unfold wAt; rw [hget _ (by omega), if_pos rfl]
      have hfn : fnOk sp' (adr sp q j0) = true := by
        have := blk_fn (sp := sp') (q := q) (j := j0) (by omega) ⟨by have := jb.1; omega, by rw [e1]; exact jb.2.1, by rw [e2]; exact jb.2.2⟩
        unfold adr at this ⊢; rw [e2] at this; exact this
      have hgt : gtOk ((zTo ws (Int.toNat (adr sp q j0)) (Int.toNat (cWords (clP sp ((q : Nat) : Int))))).set (Int.toNat (adr sp q j0)) (hPut true e (clP sp ((q : Nat) : Int)) n)) sp' (adr sp q j0) = true := by
        unfold gtOk; rw [hfn, hwa, hgood.1, hgood.2.2.2, decide_eq_true (by omega)]; rfl
      unfold mdF
      rw [hj0, has_without hfu, if_neg (by decide), hgt, (gt_parts hgt).2.2.2.1, hwa, hgood.2.2.1, e2, beq_self_eq_true]
      simp only [Bool.true_and]
      refine (zero_iff (by rw [List.length_set, zTo_len]; omega)).2 fun k hk => ?_
      rw [hget _ (by omega), if_neg (by omega), if_pos (by omega)]
theorem MadeI.free {ws : List Int} {sp : List Sp} (h : MadeI ws sp) (a : Int) : MadeI (reW ws sp a) (reS sp a) := by
  cases hb : reB sp a with
  | false => rw [← (re_no (ws := ws) hb).1, ← (re_no (ws := ws) hb).2]; exact h
  | true =>
    obtain ⟨f1, f2, f3, f4⟩ := form_p h.form
    unfold reW reS
    rw [if_pos hb, if_pos hb]
    unfold reB at hb
    simp only [Bool.and_eq_true] at hb
    obtain ⟨q, j0, jb, ja, jq⟩ := fn_blk hb.1
    have hP : fnP sp a = ((q : Nat) : Int) := by rw [(fn_parts hb.1).2.2.2.2.1, jq]
    have hgv := hb.2
    have hX : fnX sp a = ((j0 : Nat) : Int) := by
      rw [(fn_parts hb.1).2.2.2.2.2, jq, ja]
      have hc := (pl_block (blk_range f3 jb).2.2.2.2.2).1
      exact (ad_lt hc (q := q) (j := j0) (by have := jb.1; omega) jb.2.2).2.2.2.2
    rw [hP, hX] at hgv ⊢
    have hgF : gvF (stP sp ((q : Nat) : Int)) (clP sp ((q : Nat) : Int)) (frP sp ((q : Nat) : Int)) ((j0 : Nat) : Int) = withI (frP sp ((q : Nat) : Int)) ((j0 : Nat) : Int) := by unfold gvF; rw [if_pos hgv]
    rw [hgF]
    have hfu : inU32 (frP sp ((q : Nat) : Int)) := getD_u32 h.u32 _
    have hright := sp_right h.form (p := ((q : Nat) : Int)) (by omega) (by have := jb.1; omega)
    have hr0 := blk_range f3 jb; have hlen0 := blk_len f3 jb f4
    have hq0 := jb.2.2
    subst ja
    refine h.block jb (zTo_len _ _ _) (zTo_u64 h.u64 _ _) (fun x hx hne => ?_) ?_ (with_u32 _ _ hfu) (fun j hj => has_with_ne (by omega)) ?_
    · rw [zTo_get _ _ _ hx, if_neg (by omega)]
    · rcases (spR_noHi hfu hright).2 with hx | hx
      · exact absurd hx.1 jb.2.1
      · have := spR_keep hfu hright hx.1 hx.2 (with_u32 _ ((j0 : Nat) : Int) hfu) (with_noHi (spR_noHi hfu hright).1 hq0)
        exact this
    · have hlt := blocks_le (clP sp ((q : Nat) : Int))
      obtain ⟨hnew, _⟩ := stG_at (sp := sp) (p := ((q : Nat) : Int)) (by have := jb.1; omega) (stP sp ((q : Nat) : Int), clP sp ((q : Nat) : Int), withI (frP sp ((q : Nat) : Int)) ((j0 : Nat) : Int))
      rw [Int.toNat_natCast] at hnew
      unfold mdF
      rw [has_with_self (by omega), if_pos rfl]
      have e2 : clP (stG sp ((q : Nat) : Int) (stP sp ((q : Nat) : Int), clP sp ((q : Nat) : Int), withI (frP sp ((q : Nat) : Int)) ((j0 : Nat) : Int))) ((q : Nat) : Int) = clP sp ((q : Nat) : Int) := (by have h__ := congrArg (fun s : Sp => s.2.1) hnew; exact h__)
      rw [e2]
      refine (zero_iff (by rw [zTo_len]; omega)).2 fun k hk => ?_
      rw [zTo_get _ _ _ (by omega), if_pos (by omega)]

end Go.Proofs.YthadoehgmdageaaDoor.Fl
