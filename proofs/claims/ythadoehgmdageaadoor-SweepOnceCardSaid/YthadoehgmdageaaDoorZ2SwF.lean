/- A page swept, all pages swept: the heap's form. Plain lemmas; conditions: in each. -/
import Derived.Test.YthadoehgmdageaaDoorZ2SwS
set_option linter.unusedVariables false
set_option linter.unusedSimpArgs false
namespace Go.Proofs.YthadoehgmdageaaDoor.Fl
open Go.RowKit
attribute [local irreducible] blkB zeroB
/-- A heap that has its form, of numbers that may be. -/
structure FmI (ws : List Int) (sp : List Sp) : Prop where
  form : formB ws.length sp = true
  u32 : ∀ s ∈ sp, inU32 s.2.2
  u64 : ∀ x ∈ ws, inU64 x
theorem FmI.set {ws ws' : List Int} {sp : List Sp} (h : FmI ws sp) (q : Nat) {s : Sp} (hw : ws'.length = ws.length) (hu : ∀ x ∈ ws', inU64 x) (hr : rightS s = true) (hs : inU32 s.2.2) : FmI ws' (sp.set q s) := by
  obtain ⟨f1, f2, f3, f4⟩ := form_p h.form
  refine ⟨form_of (fun x hx => ?_) (by rw [List.length_set]; exact f2) (by rw [List.length_set]; exact f3) (by rw [List.length_set, hw]; exact f4), fun x hx => ?_, hu⟩
  · rcases List.mem_or_eq_of_mem_set hx with e | e
    · exact f1 x e
    · rw [e]; exact hr
  · rcases List.mem_or_eq_of_mem_set hx with e | e
    · exact h.u32 x e
    · rw [e]; exact hs
theorem sp_get (sp : List Sp) (q x : Nat) (s : Sp) : (sp.set q s).getD x (0, 0, 0) = if q = x ∧ x < sp.length then s else sp.getD x (0, 0, 0) := by
  rw [List.getD, List.getElem?_set]
  by_cases e : q = x
  · subst e
    by_cases h : q < sp.length
    · rw [if_pos rfl, if_pos h, if_pos ⟨rfl, h⟩]; rfl
    · rw [if_pos rfl, if_neg h, if_neg (fun x => h x.2)]; simp [List.getD, h]
  · rw [if_neg e, if_neg (fun x => e x.1)]; rfl
theorem spAt_set (sp : List Sp) (q x : Nat) (s : Sp) : spAt (sp.set q s) ((x : Nat) : Int) = if q = x ∧ x < sp.length then s else spAt sp ((x : Nat) : Int) := by
  rw [spAt_n, spAt_n, sp_get]
theorem FmI.right {ws : List Int} {sp : List Sp} (h : FmI ws sp) {q : Nat} (hq : q < sp.length) : rightS (spAt sp ((q : Nat) : Int)) = true := by
  refine (form_p h.form).1 _ ?_
  rw [spAt_n, show sp.getD q (0, 0, 0) = sp[q] by simp [List.getD, hq]]; exact List.getElem_mem hq
theorem FmI.fu {ws : List Int} {sp : List Sp} (h : FmI ws sp) (p : Int) : inU32 (frP sp p) := getD_u32 h.u32 _
/-- What a page's span is, when a block is given back. -/
theorem re_at (sp : List Sp) (a : Int) (q : Nat) : spAt (reS sp a) ((q : Nat) : Int) = if reB sp a = true ∧ ((q : Nat) : Int) = fnP sp a then (stP sp ((q : Nat) : Int), clP sp ((q : Nat) : Int), withI (frP sp ((q : Nat) : Int)) (fnX sp a)) else spAt sp ((q : Nat) : Int) := by
  cases hb : reB sp a with
  | false => unfold reS; rw [if_neg (by rw [hb]; decide), if_neg (fun h => by cases h.1)]
  | true =>
    have hp := fn_pi (re_fn hb)
    have hg : gvOk (stP sp (fnP sp a)) (clP sp (fnP sp a)) (frP sp (fnP sp a)) (fnX sp a) = true := by unfold reB at hb; exact (Bool.and_eq_true_iff.1 hb).2
    have hs := stG_at (sp := sp) (p := fnP sp a) (by omega) (stP sp (fnP sp a), clP sp (fnP sp a), gvF (stP sp (fnP sp a)) (clP sp (fnP sp a)) (frP sp (fnP sp a)) (fnX sp a))
    unfold reS; rw [if_pos hb]
    by_cases e : ((q : Nat) : Int) = fnP sp a
    · rw [if_pos ⟨rfl, e⟩]
      have h1 := hs.1
      rw [← hp.1, ← e] at h1
      rw [← e, h1]
      rw [← e] at hg
      unfold gvF; rw [if_pos hg]
    · rw [if_neg (fun h => e h.2)]
      exact hs.2 q (by omega)
theorem re_st (sp : List Sp) (a : Int) (q : Nat) : stP (reS sp a) ((q : Nat) : Int) = stP sp ((q : Nat) : Int) ∧ clP (reS sp a) ((q : Nat) : Int) = clP sp ((q : Nat) : Int) := by
  unfold stP clP; rw [re_at]; split <;> exact ⟨rfl, rfl⟩
theorem re_w (ws : List Int) (sp : List Sp) (a : Int) {x : Nat} (hx : x < ws.length) : (reW ws sp a).getD x 0 = if reB sp a = true ∧ a.toNat ≤ x ∧ x < a.toNat + (cWords (clP sp (fnP sp a))).toNat then 0 else ws.getD x 0 := by
  cases hb : reB sp a with
  | false => unfold reW; rw [if_neg (by rw [hb]; decide), if_neg (fun h => by cases h.1)]
  | true =>
    unfold reW; rw [if_pos hb, zTo_get _ _ _ hx]
    by_cases e : Int.toNat a ≤ x ∧ x < Int.toNat a + Int.toNat (cWords (clP sp (fnP sp a)))
    · rw [if_pos e, if_pos ⟨rfl, e⟩]
    · rw [if_neg e, if_neg (fun h => e h.2)]
theorem FmI.re {ws : List Int} {sp : List Sp} (h : FmI ws sp) (a : Int) : FmI (reW ws sp a) (reS sp a) := by
  cases hb : reB sp a with
  | false => rw [← (re_no (ws := ws) hb).1, ← (re_no (ws := ws) hb).2]; exact h
  | true =>
    have hp := fn_pi (re_fn hb)
    have hg : gvOk (stP sp (fnP sp a)) (clP sp (fnP sp a)) (frP sp (fnP sp a)) (fnX sp a) = true := by unfold reB at hb; exact (Bool.and_eq_true_iff.1 hb).2
    have hfu := h.fu (fnP sp a)
    have hright : rightS (spAt sp ((Int.toNat (fnP sp a) : Nat) : Int)) = true := h.right hp.2
    rw [← hp.1] at hright
    have hright : spR (stP sp (fnP sp a)) (clP sp (fnP sp a)) (frP sp (fnP sp a)) = true := hright
    have hg2 := hg
    unfold gvOk at hg2
    simp only [Bool.and_eq_true, decide_eq_true_eq] at hg2
    have hno := spR_noHi hfu hright
    have hgF : gvF (stP sp (fnP sp a)) (clP sp (fnP sp a)) (frP sp (fnP sp a)) (fnX sp a) = withI (frP sp (fnP sp a)) (fnX sp a) := by unfold gvF; rw [if_pos hg]
    have hX : fnX sp a = ((Int.toNat (fnX sp a) : Nat) : Int) := by have := hg2.2.1.1; omega
    unfold reW reS stG; rw [if_pos hb, if_pos hb, if_pos (by omega), hgF]
    refine h.set _ (zTo_len _ _ _) (zTo_u64 h.u64 _ _) ?_ (with_u32 _ _ hfu)
    rcases hno.2 with hx | hx
    · rw [hx.1] at hg2; exact absurd hg2.1 (by decide)
    · refine spR_keep hfu hright hx.1 hx.2 (with_u32 _ _ hfu) ?_
      rw [hX]; exact with_noHi hno.1 (by omega)
theorem firstIdx_spec {α : Type} {p : α → Bool} {d : α} : ∀ {xs : List α}, 0 ≤ firstIdx p xs → (Int.toNat (firstIdx p xs)) < xs.length ∧ p (xs.getD (Int.toNat (firstIdx p xs)) d) = true ∧ ∀ k, k < Int.toNat (firstIdx p xs) → p (xs.getD k d) = false
  | [], h => absurd h (show ¬ (0 : Int) ≤ -1 by decide)
  | x :: xs, h => by
    unfold firstIdx at h ⊢
    by_cases hx : p x = true
    · rw [if_pos hx]; exact ⟨by simp, by simpa using hx, fun k hk => by simp at hk⟩
    · rw [if_neg hx] at h ⊢
      by_cases hn : firstIdx p xs < 0
      · rw [if_pos hn] at h; exact absurd h (by decide)
      · rw [if_neg hn] at h ⊢
        have ih := firstIdx_spec (p := p) (d := d) (xs := xs) (by omega)
        have e : Int.toNat (firstIdx p xs + 1) = Int.toNat (firstIdx p xs) + 1 := by omega
        rw [e]
        refine ⟨by simp; exact ih.1, by simpa using ih.2.1, fun k hk => ?_⟩
        cases k with
        | zero => simpa using hx
        | succ k => simpa using ih.2.2 k (by omega)
theorem firstIdx_neg {α : Type} {p : α → Bool} {d : α} : ∀ {xs : List α}, firstIdx p xs < 0 → ∀ k, k < xs.length → p (xs.getD k d) = false
  | [], _, k, hk => by simp at hk
  | x :: xs, h, k, hk => by
    unfold firstIdx at h
    by_cases hx : p x = true
    · rw [if_pos hx] at h; exact absurd h (by decide)
    · rw [if_neg hx] at h
      by_cases hn : firstIdx p xs < 0
      · cases k with
        | zero => simpa using hx
        | succ k => simpa using firstIdx_neg (d := d) hn k (by simpa using hk)
      · rw [if_neg hn] at h; omega
def dyI (sp : List Sp) : Int := firstIdx (fun s : Sp => s.1 == 2) sp
theorem dy_ix {sp : List Sp} (h : ¬ dyI sp < 0) : dyI sp = ((Int.toNat (dyI sp) : Nat) : Int) ∧ Int.toNat (dyI sp) < sp.length ∧ stP sp (dyI sp) = 2 ∧ ∀ q : Nat, q < Int.toNat (dyI sp) → stP sp ((q : Nat) : Int) ≠ 2 := by
  have hs := firstIdx_spec (p := fun s : Sp => s.1 == 2) (d := (0, 0, 0)) (xs := sp) (by unfold dyI at h; omega)
  refine ⟨by omega, hs.1, eq_of_beq hs.2.1, fun q hq e => ?_⟩
  have := hs.2.2 q hq
  exact absurd e (ne_of_beq_false this)
theorem dy_none {sp : List Sp} (h : dyI sp < 0) : ∀ q : Nat, stP sp ((q : Nat) : Int) ≠ 2 := fun q e => by
  by_cases hq : q < sp.length
  · exact absurd e (ne_of_beq_false (firstIdx_neg (p := fun s : Sp => s.1 == 2) (d := (0, 0, 0)) h q hq))
  · rw [show stP sp ((q : Nat) : Int) = 0 by unfold stP; rw [spAt_n]; simp [List.getD, hq]] at e; exact absurd e (by decide)
theorem dyTo_change {sp sp' : List Sp} {p : Nat} (hp : stP sp ((p : Nat) : Int) = 2) (hp' : stP sp' ((p : Nat) : Int) ≠ 2) (h : ∀ q : Nat, q ≠ p → stP sp' ((q : Nat) : Int) = stP sp ((q : Nat) : Int)) : ∀ i, dyTo sp' i + (if p < i then 1 else 0) = dyTo sp i
  | 0 => rfl
  | i + 1 => by
    have ih := dyTo_change hp hp' h i
    show (if stP sp' ((i : Nat) : Int) = 2 then _ else _) + _ = (if stP sp ((i : Nat) : Int) = 2 then _ else _)
    by_cases e : i = p
    · subst e
      rw [if_neg hp', if_pos hp, if_pos (by omega)]
      rw [if_neg (by omega)] at ih; omega
    · rw [h i e]
      have : (if p < i + 1 then 1 else 0) = (if p < i then 1 else 0) := by by_cases h2 : p < i <;> simp [h2] <;> omega
      rw [this]; split <;> omega
theorem dyTo_none {sp : List Sp} (h : ∀ q : Nat, stP sp ((q : Nat) : Int) ≠ 2) : ∀ i, dyTo sp i = 0
  | 0 => rfl
  | i + 1 => by show (if stP sp ((i : Nat) : Int) = 2 then _ else _) = 0; rw [if_neg (h i)]; exact dyTo_none h i
abbrev St3 := List Int × List Sp × Int
def swA (p c : Int) (i : Nat) : Int := 32 * p + ((i : Nat) : Int) * cWords c
def swSt (e : Bool) (c a : Int) (x : St3) : St3 := if gtOk x.1 x.2.1 a = true ∧ blB x.1 x.2.1 e a = false ∧ reB x.2.1 a = true then (reW x.1 x.2.1 a, reS x.2.1 a, x.2.2 + cWords c) else x
def swTo (e : Bool) (p c : Int) (ws : List Int) (sp : List Sp) : Nat → St3
  | 0 => (ws, sp, 0)
  | i + 1 => swSt e c (swA p c i) (swTo e p c ws sp i)
def mkCl (sp : List Sp) (p : Nat) : List Sp := sp.set p (1, (sp.getD p (0, 0, 0)).2.1, (sp.getD p (0, 0, 0)).2.2)
def clB1 (cs : List Cc) (sp : List Sp) (p : Int) : Bool := emB (stP (mkCl sp p.toNat) p) (clP (mkCl sp p.toNat) p) (frP (mkCl sp p.toNat) p) && !(kpB cs p)
def onS (cs : List Cc) (sp : List Sp) (p : Int) : List Sp := if clB1 cs sp p = true then (mkCl sp p.toNat).set p.toNat (0, 0, 0) else mkCl sp p.toNat
def swX (e : Bool) (ws : List Int) (sp : List Sp) : St3 := swTo e (dyI sp) (clP sp (dyI sp)) ws sp (cBlocks (clP sp (dyI sp))).toNat
def onX (cs : List Cc) (e : Bool) (ws : List Int) (sp : List Sp) : St3 := if dyI sp < 0 then (ws, sp, 0) else ((swX e ws sp).1, onS cs (swX e ws sp).2.1 (dyI sp), (swX e ws sp).2.2)
def onP (sp : List Sp) : Int := if dyI sp < 0 then 0 else dyI sp
def onOk (sp : List Sp) : Bool := !(decide (dyI sp < 0))
def alTo (cs : List Cc) (e : Bool) (ws : List Int) (sp : List Sp) : Nat → St3
  | 0 => (ws, sp, 0)
  | k + 1 => ((onX cs e (alTo cs e ws sp k).1 (alTo cs e ws sp k).2.1).1, (onX cs e (alTo cs e ws sp k).1 (alTo cs e ws sp k).2.1).2.1, (alTo cs e ws sp k).2.2 + (onX cs e (alTo cs e ws sp k).1 (alTo cs e ws sp k).2.1).2.2)
def alX (cs : List Cc) (e : Bool) (ws : List Int) (sp : List Sp) : St3 := alTo cs e ws sp (dyN sp)
theorem mkCl_len (sp : List Sp) (p : Nat) : (mkCl sp p).length = sp.length := List.length_set
theorem onS_len (cs : List Cc) (sp : List Sp) (p : Int) : (onS cs sp p).length = sp.length := by unfold onS; split; rw [List.length_set]; exact mkCl_len _ _; exact mkCl_len _ _
theorem swSt_yes {e : Bool} {c a : Int} {x : St3} (h1 : gtOk x.1 x.2.1 a = true) (h2 : blB x.1 x.2.1 e a = false) (h3 : reB x.2.1 a = true) : swSt e c a x = (reW x.1 x.2.1 a, reS x.2.1 a, x.2.2 + cWords c) := by unfold swSt; rw [if_pos ⟨h1, h2, h3⟩]
theorem swSt_no {e : Bool} {c a : Int} {x : St3} (h : gtOk x.1 x.2.1 a = false ∨ blB x.1 x.2.1 e a = true ∨ reB x.2.1 a = false) : swSt e c a x = x := by
  unfold swSt; rw [if_neg]
  rintro ⟨h1, h2, h3⟩
  rcases h with h | h | h
  · rw [h] at h1; cases h1
  · rw [h] at h2; cases h2
  · rw [h] at h3; cases h3
theorem swTo_fm {e : Bool} {p c : Int} {ws : List Int} {sp : List Sp} (h : FmI ws sp) : ∀ i, FmI (swTo e p c ws sp i).1 (swTo e p c ws sp i).2.1 ∧ (swTo e p c ws sp i).2.1.length = sp.length ∧ (∀ q : Nat, stP (swTo e p c ws sp i).2.1 ((q : Nat) : Int) = stP sp ((q : Nat) : Int) ∧ clP (swTo e p c ws sp i).2.1 ((q : Nat) : Int) = clP sp ((q : Nat) : Int)) ∧ 0 ≤ (swTo e p c ws sp i).2.2 ∧ (swTo e p c ws sp i).2.2 ≤ 16 * (i : Int)
  | 0 => ⟨h, rfl, fun _ => ⟨rfl, rfl⟩, Int.le_refl _, Int.le_refl _⟩
  | i + 1 => by
    have ih := swTo_fm (e := e) (p := p) (c := c) h i
    show FmI (swSt _ _ _ _).1 (swSt _ _ _ _).2.1 ∧ (swSt _ _ _ _).2.1.length = _ ∧ (∀ q : Nat, stP (swSt _ _ _ _).2.1 _ = _ ∧ clP (swSt _ _ _ _).2.1 _ = _) ∧ 0 ≤ (swSt _ _ _ _).2.2 ∧ (swSt _ _ _ _).2.2 ≤ _
    generalize swTo e p c ws sp i = x at *
    unfold swSt
    split
    · refine ⟨ih.1.re _, (re_lenS _ _).trans ih.2.1, fun q => ?_, ?_, ?_⟩
      · exact ⟨(re_st _ _ q).1.trans (ih.2.2.1 q).1, (re_st _ _ q).2.trans (ih.2.2.1 q).2⟩
      · have := words_ge c; show 0 ≤ x.2.2 + _; omega
      · have := cW_le c; show x.2.2 + _ ≤ _; omega
    · exact ⟨ih.1, ih.2.1, ih.2.2.1, ih.2.2.2.1, by omega⟩
theorem right_1 {s c f : Int} (hs : s = 2) (h : rightS (s, c, f) = true) : rightS (1, c, f) = true := by
  subst hs; exact h
theorem emS_right : rightS ((0, 0, 0) : Sp) = true := rfl
theorem mkCl_at (sp : List Sp) {p : Nat} (hp : p < sp.length) (q : Nat) : spAt (mkCl sp p) ((q : Nat) : Int) = if q = p then (1, clP sp ((p : Nat) : Int), frP sp ((p : Nat) : Int)) else spAt sp ((q : Nat) : Int) := by
  unfold mkCl; rw [spAt_set]
  by_cases e : q = p
  · subst e; rw [if_pos ⟨rfl, hp⟩, if_pos rfl]; rfl
  · rw [if_neg (fun h => e h.1.symm), if_neg e]
theorem onS_at (cs : List Cc) (sp : List Sp) {p : Nat} (hp : p < sp.length) (q : Nat) : spAt (onS cs sp ((p : Nat) : Int)) ((q : Nat) : Int) = if q = p then (if clB1 cs sp ((p : Nat) : Int) = true then (0, 0, 0) else (1, clP sp ((p : Nat) : Int), frP sp ((p : Nat) : Int))) else spAt sp ((q : Nat) : Int) := by
  unfold onS; rw [Int.toNat_natCast]
  by_cases hc : clB1 cs sp ((p : Nat) : Int) = true
  · rw [if_pos hc, if_pos hc, spAt_set, mkCl_len]
    by_cases e : q = p
    · subst e; rw [if_pos ⟨rfl, hp⟩, if_pos rfl]
    · rw [if_neg (fun h => e h.1.symm), if_neg e, mkCl_at sp hp, if_neg e]
  · rw [if_neg hc, if_neg hc]; exact mkCl_at sp hp q
theorem FmI.on {ws : List Int} {sp : List Sp} (h : FmI ws sp) (cs : List Cc) {p : Nat} (hp : p < sp.length) (hs : stP sp ((p : Nat) : Int) = 2) : FmI ws (onS cs sp ((p : Nat) : Int)) := by
  have h1 : FmI ws (mkCl sp p) := h.set p rfl h.u64 (right_1 hs (h.right hp)) (h.fu ((p : Nat) : Int))
  unfold onS; rw [Int.toNat_natCast]
  split
  · exact h1.set p rfl h.u64 emS_right ⟨by decide, by decide⟩
  · exact h1
theorem onX_fm {ws : List Int} {sp : List Sp} (h : FmI ws sp) (cs : List Cc) (e : Bool) (hd : ¬ dyI sp < 0) : FmI (onX cs e ws sp).1 (onX cs e ws sp).2.1 ∧ (onX cs e ws sp).2.1.length = sp.length ∧ dyN (onX cs e ws sp).2.1 + 1 = dyN sp ∧ (∀ q : Nat, q ≠ Int.toNat (dyI sp) → stP (onX cs e ws sp).2.1 ((q : Nat) : Int) = stP sp ((q : Nat) : Int)) ∧ stP (onX cs e ws sp).2.1 (dyI sp) ≠ 2 ∧ 0 ≤ (onX cs e ws sp).2.2 ∧ (onX cs e ws sp).2.2 ≤ 256 := by
  obtain ⟨hp, hlt, hst, hfst⟩ := dy_ix hd
  have hf := swTo_fm (e := e) (p := dyI sp) (c := clP sp (dyI sp)) h (cBlocks (clP sp (dyI sp))).toNat
  have hbl := blocks_range (clP sp (dyI sp))
  unfold onX swX; rw [if_neg hd]
  generalize swTo e (dyI sp) (clP sp (dyI sp)) ws sp (cBlocks (clP sp (dyI sp))).toNat = x at *
  generalize Int.toNat (dyI sp) = p at *
  rw [hp] at hst ⊢
  have hlt' : p < x.2.1.length := by rw [hf.2.1]; exact hlt
  have hoth : ∀ q : Nat, q ≠ p → stP (onS cs x.2.1 ((p : Nat) : Int)) ((q : Nat) : Int) = stP sp ((q : Nat) : Int) := fun q hq => by
    rw [← (hf.2.2.1 q).1]; unfold stP; rw [onS_at cs _ hlt', if_neg hq]
  have hat : stP (onS cs x.2.1 ((p : Nat) : Int)) ((p : Nat) : Int) ≠ 2 := by
    unfold stP; rw [onS_at cs _ hlt', if_pos rfl]; split
    · show (0 : Int) ≠ 2; decide
    · show (1 : Int) ≠ 2; decide
  refine ⟨hf.1.on cs hlt' (by rw [(hf.2.2.1 p).1]; exact hst), (onS_len _ _ _).trans hf.2.1, ?_, hoth, hat, hf.2.2.2.1, by show x.2.2 ≤ 256; omega⟩
  have := dyTo_change hst hat hoth sp.length
  rw [if_pos hlt] at this
  show dyTo _ (onS cs x.2.1 ((p : Nat) : Int)).length + 1 = _
  rw [onS_len, hf.2.1]; exact this
theorem alTo_fm {ws : List Int} {sp : List Sp} (h : FmI ws sp) (cs : List Cc) (e : Bool) : ∀ k, k ≤ dyN sp → FmI (alTo cs e ws sp k).1 (alTo cs e ws sp k).2.1 ∧ (alTo cs e ws sp k).2.1.length = sp.length ∧ dyN (alTo cs e ws sp k).2.1 + k = dyN sp ∧ 0 ≤ (alTo cs e ws sp k).2.2 ∧ (alTo cs e ws sp k).2.2 ≤ 256 * (k : Int)
  | 0, _ => ⟨h, rfl, rfl, Int.le_refl _, Int.le_refl _⟩
  | k + 1, hk => by
    have ih := alTo_fm h cs e k (by omega)
    have hd : ¬ dyI (alTo cs e ws sp k).2.1 < 0 := fun hn => by
      have := dyTo_none (dy_none hn) (alTo cs e ws sp k).2.1.length
      have h2 : dyN (alTo cs e ws sp k).2.1 = 0 := this
      omega
    have ho := onX_fm ih.1 cs e hd
    unfold alTo
    refine ⟨ho.1, ho.2.1.trans ih.2.1, ?_, ?_, ?_⟩
    · have := ho.2.2.1; show dyN (onX cs e (alTo cs e ws sp k).1 (alTo cs e ws sp k).2.1).2.1 + (k + 1) = _; omega
    · have := ho.2.2.2.2.2; show 0 ≤ (alTo cs e ws sp k).2.2 + _; omega
    · have := ho.2.2.2.2.2; show (alTo cs e ws sp k).2.2 + _ ≤ _; omega
theorem dyN_le {ws : List Int} {sp : List Sp} (h : FmI ws sp) : dyN sp ≤ 16 := by
  have := dy_le sp sp.length; have := (form_p h.form).2.2.1; show dyTo sp sp.length ≤ 16; omega
theorem dy_zero {sp : List Sp} (h : dyN sp = 0) : dyI sp < 0 := Classical.byContradiction fun hd => by
  obtain ⟨hp, hlt, hst, _⟩ := dy_ix hd
  have key : ∀ i, Int.toNat (dyI sp) < i → 0 < dyTo sp i := fun i => by
    induction i with
    | zero => intro h; omega
    | succ i ih =>
      intro hi
      show 0 < (if stP sp ((i : Nat) : Int) = 2 then _ else _)
      by_cases e2 : i = Int.toNat (dyI sp)
      · rw [if_pos (by rw [e2, ← hp]; exact hst)]; omega
      · have := ih (by omega); split <;> omega
  have := key sp.length hlt
  unfold dyN at h; omega
theorem alX_fm {ws : List Int} {sp : List Sp} (h : FmI ws sp) (cs : List Cc) (e : Bool) : FmI (alX cs e ws sp).1 (alX cs e ws sp).2.1 ∧ (alX cs e ws sp).2.1.length = sp.length ∧ dyN (alX cs e ws sp).2.1 = 0 ∧ 0 ≤ (alX cs e ws sp).2.2 ∧ (alX cs e ws sp).2.2 ≤ 4096 := by
  have := alTo_fm h cs e (dyN sp) (Nat.le_refl _)
  have hl := dyN_le h
  exact ⟨this.1, this.2.1, by have := this.2.2.1; show dyN (alTo cs e ws sp (dyN sp)).2.1 = 0; omega, this.2.2.2.1, by have := this.2.2.2.2; show (alTo cs e ws sp (dyN sp)).2.2 ≤ _; omega⟩

end Go.Proofs.YthadoehgmdageaaDoor.Fl
