/- Package report's memory, and what the library's calls come to. Conditions: each in its premises. -/
import Derived.Test.YtemfcbgmgfcjeaaDoorRpBase
import Derived.Test.YtemfcbgmgfcjeaaDoorShelf
import Derived.Lib.AppendIntMem
import Derived.Lib.SplitLaws
import Derived.Lib.IndexBytes
set_option linter.unusedVariables false
set_option linter.unusedSimpArgs false
namespace Go.Proofs.YtemfcbgmgfcjeaaDoor.Fl
open Go.RowKit

/-! ### What the functions need of memory that all share -/
def anyInt (g : Nat) : Ro where
  fp x := x = g
  ok w := ∃ m, w.cell? ⟨g, 0, none⟩ = some (.int .i64 m)
  stable w w' h := fun ⟨m, hm⟩ => ⟨m, by
    unfold World.cell? at hm ⊢
    rw [show w'.heap[(⟨g, 0, none⟩ : Addr).block]? = w.heap[(⟨g, 0, none⟩ : Addr).block]? from h g rfl]; exact hm⟩
  lt w := fun ⟨m, hm⟩ b hb => by
    subst hb
    unfold World.cell? at hm
    rcases Nat.lt_or_ge b w.heap.size with h | h
    · exact h
    · rw [show w.heap[(⟨b, 0, none⟩ : Addr).block]? = none from Array.getElem?_eq_none h] at hm; simp at hm
theorem var2 (w : World) : w.var? P0 "internal/strconv.uint64pow10" = (match (w.heap[2]? : Option Obj) with | some (Obj.cells cs _ _) => some cs | _ => none) := by
  unfold World.var?
  rw [show P0.globalNamed "internal/strconv.uint64pow10" = some 2 by kernel_rfl]
  rfl
def tab10 : Ro where
  fp x := x = 2
  ok w := Lib.TabIs P0 w "internal/strconv.uint64pow10" .u64 Lib.pow10Tab
  stable w w' h hw := by
    unfold Lib.TabIs at hw ⊢
    rw [var2] at hw ⊢
    rw [h 2 rfl]; exact hw
  lt w hw b hb := by
    subst hb
    unfold Lib.TabIs at hw
    rw [var2] at hw
    rcases Nat.lt_or_ge 2 w.heap.size with h | h
    · exact h
    · rw [Array.getElem?_eq_none h] at hw; simp at hw
def both (a b : Ro) : Ro where
  fp x := a.fp x ∨ b.fp x
  ok w := a.ok w ∧ b.ok w
  stable w w' h hw := ⟨a.stable w w' (fun x hx => h x (.inl hx)) hw.1, b.stable w w' (fun x hx => h x (.inr hx)) hw.2⟩
  lt w hw x hx := hx.elim (a.lt w hw.1 x) (b.lt w hw.2 x)
def names5 : List (List UInt8) := [[99, 121, 99, 108, 101], [102, 114, 101, 101], [108, 105, 118, 101], [102, 108, 111, 97, 116, 105, 110, 103], [102, 114, 101, 101, 100]]
def G : Ro := both (seg 1 0 (names5.flatMap encS)) (both tab10 (anyInt 1))
theorem reads_name {j : Nat} {l : List UInt8} (h : names5[j]? = some l) : Reads P0 (.ro G) 9 ⟨0, j, none⟩ (.string (bs l)) := fun w hw =>
  reads_seg (b := 0) (off := 0) (encS_ok.load1 ta9 tq9 h rfl) (by omega) w hw.1
theorem own0 {w w' : World} {L : Mem} (h : Below w.heap.size w w') : Own (ctxOf w L) w' [] :=
  ⟨⟨h.os, h.tape, h.output, h.size, fun k hk _ => h.block k hk⟩, fun i r hi => by simp at hi, fun i r hi => by simp at hi, fun i j r s hi => by simp at hi⟩
theorem ob_pure {f : FuncId} {args : Array Value} {v : Value} {L : Mem} (h : ∀ w, PreOk w L → Calls P0 f args w fun e w' => e = .returned v ∧ Below w.heap.size w w') : CallOb P0 f args L (pureRec v) :=
  fun w hw => (h w hw).mono fun e w' ⟨he, hb⟩ => ⟨fun _ => 0, he, trivial, own0 hb⟩
theorem preG {w : World} {L : Mem} (h : PreOk w (some (.ro G) :: L)) : G.ok w := h.ok 0 _ rfl
theorem below_drewn (w : World) (n : Nat) : Below w.heap.size w (w.drewN n) := ⟨rfl, rfl, rfl, Nat.le_refl _, fun _ _ => rfl⟩
/-! ### strings.Cut, Split, Join, strconv.Itoa in plain words -/
def cutL (c : UInt8) : List UInt8 → List UInt8 × List UInt8 × Bool
  | [] => ([], [], false)
  | b :: l => if b = c then ([], l, true) else (b :: (cutL c l).1, (cutL c l).2)
def splitL (c : UInt8) : List UInt8 → List (List UInt8)
  | [] => [[]]
  | b :: l => if b = c then [] :: splitL c l else (b :: (splitL c l).headD []) :: (splitL c l).tail
def decF : Nat → Nat → List UInt8
  | 0, _ => []
  | f + 1, u => if u < 10 then [UInt8.ofNat (48 + u)] else decF f (u / 10) ++ [UInt8.ofNat (48 + u % 10)]
def decL (n : Int) : List UInt8 := if n < 0 then 45 :: decF 20 n.natAbs else decF 20 n.toNat
theorem decF_is : ∀ (f u : Nat), u < 10 ^ f → 0 < f → decF f u = Lib.decDigits u
  | 0, _, _, h => absurd h (by decide)
  | f + 1, u, h, _ => by
    rw [Lib.decDigits]
    unfold decF
    by_cases hu : u < 10
    · rw [if_pos hu, dif_pos hu]
    · rw [if_neg hu, dif_neg hu]
      have hf : 0 < f := by
        rcases Nat.eq_zero_or_pos f with rfl | h0
        · simp at h; omega
        · exact h0
      rw [decF_is f (u / 10) (by rw [Nat.pow_succ] at h; omega) hf]
theorem decL_is {n : Int} (h : in64 n) : decL n = Lib.itoa n := by
  unfold in64 at h
  unfold decL Lib.itoa
  split
  · rw [decF_is 20 _ (by omega) (by decide)]
  · rw [decF_is 20 _ (by omega) (by decide)]
theorem ix_cons (b c : UInt8) (l : List UInt8) : Lib.index (b :: l) [c] = if b = c then 0 else if Lib.index l [c] = -1 then -1 else Lib.index l [c] + 1 := by
  rw [Lib.index_one, Lib.index_one]
  show (if b == c then (0 : Int) else if Lib.indexByte l c == -1 then -1 else Lib.indexByte l c + 1) = _
  by_cases h : b = c
  · rw [if_pos h, if_pos (by simpa using h)]
  · rw [if_neg h, if_neg (by simpa using h)]
    by_cases h2 : Lib.indexByte l c = -1
    · rw [if_pos h2, if_pos (by simpa using h2)]
    · rw [if_neg h2, if_neg (by simpa using h2)]
theorem ix_ge (l : List UInt8) (c : UInt8) : -1 ≤ Lib.index l [c] := by rw [Lib.index_one]; exact Lib.indexByte_ge l c
theorem cutL_is (c : UInt8) : ∀ s : List UInt8, Lib.cut s [c] = cutL c s
  | [] => by unfold Lib.cut; rw [Lib.index_one]; rfl
  | b :: l => by
    have ih := cutL_is c l
    unfold Lib.cut at ih ⊢
    rw [ix_cons]
    unfold cutL
    by_cases h : b = c
    · rw [if_pos h, if_pos h]; simp
    · rw [if_neg h, if_neg h, ← ih]
      have hg := ix_ge l c
      by_cases h2 : Lib.index l [c] = -1
      · rw [if_pos h2, if_neg (by omega), if_neg (by omega)]
      · have h3 : 0 ≤ Lib.index l [c] := by omega
        rw [if_neg h2, if_pos (by omega), if_pos h3]
        obtain ⟨k, hk⟩ : ∃ k : Nat, Lib.index l [c] = (k : Int) := ⟨(Lib.index l [c]).toNat, by omega⟩
        rw [hk]
        simp only [show ((k : Int) + 1).toNat = k + 1 by omega, Int.toNat_natCast, List.take_succ_cons, List.length_cons, List.length_nil, show k + 1 + (0 + 1) = (k + 1) + 1 by omega, show k + (0 + 1) = k + 1 by omega, List.drop_succ_cons]
theorem splitL_ne (c : UInt8) : ∀ s : List UInt8, splitL c s ≠ []
  | [] => by simp [splitL]
  | b :: l => by unfold splitL; split <;> simp
theorem headD_tail {l : List (List UInt8)} (h : l ≠ []) : l.headD [] :: l.tail = l := by cases l with | nil => exact absurd rfl h | cons a l => rfl
theorem split_cons_eq (c : UInt8) (l : List UInt8) : Lib.split (c :: l) [c] = [] :: Lib.split l [c] := by
  unfold Lib.split
  rw [Lib.count_cons_eq, Nat.add_comm]
  have h := ix_cons c c l
  rw [if_pos rfl] at h
  show (if Lib.index (c :: l) [c] == -1 then [c :: l] else _) = _
  rw [h]
  rfl
theorem split_cons_ne {b c : UInt8} (h : b ≠ c) (l : List UInt8) : Lib.split (b :: l) [c] = (b :: (Lib.split l [c]).headD []) :: (Lib.split l [c]).tail := by
  unfold Lib.split
  rw [Lib.count_cons_ne _ _ _ h]
  cases hk : Lib.count l [c] with
  | zero => rfl
  | succ k =>
    have hg := ix_ge l c
    have h2 : Lib.index l [c] ≠ -1 := fun e => by rw [Lib.count_miss e] at hk; cases hk
    obtain ⟨i, hi⟩ : ∃ i : Nat, Lib.index l [c] = (i : Int) := ⟨(Lib.index l [c]).toNat, by omega⟩
    unfold Lib.splitK
    rw [ix_cons, if_neg h, if_neg h2, hi, if_neg (by simp; omega), if_neg (by simp)]
    simp only [show ((i : Int) + 1).toNat = i + 1 by omega, Int.toNat_natCast, Nat.add_zero, List.take_succ_cons, List.length_cons, List.length_nil, show i + 1 + (0 + 1) = (i + 1) + 1 by omega, show i + (0 + 1) = i + 1 by omega, List.drop_succ_cons, List.headD_cons, List.tail_cons]
theorem splitL_is (c : UInt8) : ∀ s : List UInt8, Lib.split s [c] = splitL c s
  | [] => by unfold Lib.split; rw [Lib.count_one]; rfl
  | b :: l => by
    unfold splitL
    by_cases h : b = c
    · rw [if_pos h, h, split_cons_eq, splitL_is c l]
    · rw [if_neg h, split_cons_ne h, splitL_is c l]
/-! ### Calls of the library -/
theorem ob_Cut (l : List UInt8) (hl : l.length ≤ 1000000) : CallOb P0 14 #[.string (bs l), .string (bs [10])] [some (.ro G)] (pureRec (.tuple #[.string (bs (cutL 10 l).1), .string (bs (cutL 10 l).2.1), .bool (cutL 10 l).2.2])) :=
  ob_pure fun w hw => by
    obtain ⟨m, hm⟩ := (preG hw).2.2
    refine (Tryd.strings_Cut (bs l) (bs [10]) m w (by rw [bs_size]; omega) hm).mono fun e w' ⟨he, n, hn⟩ => ⟨?_, hn ▸ below_drewn w n⟩
    rw [he, bs_data, bs_data, cutL_is]; rfl
theorem ob_Itoa (n : Int) (hn : in64 n) : CallOb P0 28 #[.int .i64 n] [some (.ro G)] (pureRec (.string (bs (decL n)))) :=
  ob_pure fun w hw => by
    refine (Tryd.strconv_Itoa n hn.1 hn.2 w (preG hw).2.1).mono fun e w' ⟨he, k, os, hw'⟩ => ⟨?_, hw' ▸ Lib.below_grow w.heap.size w (Nat.le_refl _) k os⟩
    rw [he, decL_is hn]; rfl
theorem splitB_map (s sep : List UInt8) : (Lib.splitB (bs sep) 0 (Lib.countB (bs s) (bs sep)) (bs s)).map (·.data.toList) = Lib.split s sep := Lib.splitB_data (bs sep) 0 _ (bs s)
theorem map_strs (l : List ByteArray) : l.map Value.string = (l.map (·.data.toList)).flatMap encS := by
  induction l with
  | nil => rfl
  | cons b l ih => rw [List.map_cons, List.map_cons, List.flatMap_cons, ← ih]; rfl
theorem splitL_len (l : List UInt8) : (splitL 32 l).length = Lib.countB (bs l) (bs [32]) + 1 := by
  rw [← splitL_is, ← splitB_map, List.length_map, Lib.splitB_all _ (by decide) 0 _ _ rfl]
theorem ob_Split (l : List UInt8) (hl : l.length ≤ 1000000) : CallOb P0 24 #[.string (bs l), .string (bs [32])] [some (.ro G)] ⟨fun y => .slice (sb (y 0 + 1) 0) (splitL 32 l).length (splitL 32 l).length, fun y => [], fun y => [.ro (seg (y 0 + 1) 0 ((splitL 32 l).flatMap encS))]⟩ :=
  fun w hw => by
    obtain ⟨m, hm⟩ := (preG hw).2.2
    refine (Tryd.strings_Split (bs l) (bs [32]) m w (by rw [bs_size]; omega) hm (by decide)).mono fun e w' ⟨he, hw'⟩ => ⟨fun _ => w.heap.size, ?_, trivial, ?_⟩
    · rw [he, splitL_len]; rfl
    · subst hw'
      refine Own.one ⟨rfl, rfl, rfl, by simp, fun k hk _ => Lib.alloc_old w _ k hk⟩ ?_ (fun b hb => .inl (by have : b + 1 = w.heap.size + 1 := hb.2; omega))
      intro _
      refine ⟨w.heap.size, _, 9, _, rfl, heap_alloc_new w _, fun i hi => ?_⟩
      rw [Nat.zero_add, map_strs, splitB_map, splitL_is]
      simp
def joinW (xs : List (List UInt8)) : List UInt8 := Lib.join xs [32]
theorem bs_map (xs : List (List UInt8)) : (xs.map bs).map (·.data.toList) = xs := by
  induction xs with
  | nil => rfl
  | cons x xs ih => rw [List.map_cons, List.map_cons, ih]; rfl
theorem ob_Join (k o c : Nat) (xs : List (List UInt8)) (hx : xs ≠ []) (hc : xs.length ≤ c) (hl : (joinW xs).length ≤ 1000000) (hn : xs.length ≤ 1000000) : CallOb P0 29 #[.slice (sb (k + 1) o) xs.length c, .string (bs [32])] [some (.ro (seg (k + 1) o (xs.flatMap encS)))] (pureRec (.string (bs (joinW xs)))) :=
  ob_pure fun w hw => by
    have hs : (seg (k + 1) o (xs.flatMap encS)).ok w := hw.ok 0 _ rfl
    have hc' := seg_cells hs
    have hfl : (xs.flatMap encS).length = xs.length := by rw [encS_ok.flen]; omega
    have h := Tryd.strings_Join k o c (xs.map bs) (bs [32]) w (fun j x hj => by
      rw [List.getElem?_map] at hj
      obtain ⟨y, hy, rfl⟩ := Option.map_eq_some_iff.1 hj
      have hlt := (List.getElem?_eq_some_iff.1 hy).1
      rw [hc' j (by omega)]
      have := encS_ok.get hy
      have h0 := congrArg (fun l => l[0]?) this
      simpa [List.getElem?_take, List.getElem?_drop, encS] using h0) (by
      obtain ⟨k', c', t, fr, e, hk, _⟩ := hs (by intro e; have := congrArg List.length e; rw [hfl] at this; cases xs with | nil => exact hx rfl | cons _ _ => simp at this)
      obtain rfl : k = k' := by omega
      exact (Array.getElem?_eq_some_iff.1 hk).1) (by rw [List.length_map]; omega) (by rw [List.length_map]; exact hc) (by rw [bs_map, bs_data]; unfold joinW at hl; omega)
    rw [List.length_map, bs_map, bs_data] at h
    exact h
/-! ### A builder -/
theorem bX72 : Builder.X72 Tryd.prog Tryd.lays156_ren := {
  sizeBuilder := by kernel_rfl
  liesBuilder := by kernel_rfl }
theorem ob_fresh (b : Nat) (v : Value) : CallOb P0 26 #[.pointer (some ⟨b, 0, none⟩)] [some (.blk b [.pointer none, v] 48)] ⟨fun _ => .tuple #[], fun _ => [], fun _ => [.blk b [.pointer (some ⟨b, 0, none⟩), v] 48]⟩ := fun w hw => by
  have hb : w.heap[b]? = some (.cells #[.pointer none, v] 48 (0, 0)) := hw.ok 0 _ rfl
  have hlt := (Array.getElem?_eq_some_iff.1 hb).1
  refine (Any.Builder_copyCheck_fresh { Tryd.lays156 with } bX72 b w (by simp [World.cell?, hb]) (by simp [World.shape?, hb]; rfl) (by simp [World.frozen?, hb])).mono fun e w' ⟨he, hw'⟩ => ⟨fun _ => 0, he, trivial, ?_⟩
  subst hw'
  have hp : w.setCell ⟨b, 0, none⟩ (.pointer (some ⟨b, 0, none⟩)) = putBlk w ⟨b, [.pointer (some ⟨b, 0, none⟩), v], 48⟩ := by
    rw [setCell_eq_setRow w b 0 _ _ _ _ hb]
    exact setRow_put hb [.pointer (some ⟨b, 0, none⟩), v]
  rw [hp]
  exact Own.put 0 rfl hlt _
theorem ob_used (b : Nat) (v : Value) : CallOb P0 26 #[.pointer (some ⟨b, 0, none⟩)] [some (.blk b [.pointer (some ⟨b, 0, none⟩), v] 48)] ⟨fun _ => .tuple #[], fun _ => [], fun _ => [.blk b [.pointer (some ⟨b, 0, none⟩), v] 48]⟩ := fun w hw => by
  have hb : w.heap[b]? = some (.cells #[.pointer (some ⟨b, 0, none⟩), v] 48 (0, 0)) := hw.ok 0 _ rfl
  refine (Any.Builder_copyCheck_used { Tryd.lays156 with } bX72 b w (by simp [World.cell?, hb])).mono fun e w' ⟨he, hw'⟩ => ⟨fun _ => 0, he, trivial, ?_⟩
  subst hw'
  exact Own.one (BelowX.refl w') hb (fun x hx => .inr (.inl ⟨0, _, rfl, rfl, hx⟩))

end Go.Proofs.YtemfcbgmgfcjeaaDoor.Fl
