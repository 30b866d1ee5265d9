/- Contracts of package header's reference. Conditions: each in its premises. -/
import Derived.Test.YtnpbnkfmajokfaaHead
set_option linter.unusedVariables false
set_option linter.unusedSimpArgs false
namespace Go.Proofs.Ytnpbnkfmajokfaa.Fl
open Go.RowKit
theorem ref02_May0 (u : Bool) (c : Bool) (n : Int) : Pure noRo P0 13 #[.agg #[.bool u, .bool c, .int .i64 0, .int .i64 n]] (.bool (hMay u c 0 n)) := by
  intro w0 hG
  have H0 := Own.begin hG
  refine enter (fn := F13) (c := B13) (n := 40) [(0, .agg #[.bool u, .bool c, .int .i64 0, .int .i64 n])] (by kernel_rfl) (by kernel_rfl) (by kernel_rfl) (by kernel_rfl) (by kernel_rfl) ?_
  refine CW.seq (x := (cAt B13 [0])) (y := (cAt B13 [1])) (by kernel_rfl) ?_
  refine CW.region (id := 0) (d := false) H0 (by kernel_rfl) mixed 1 [(0, .key 1)] [] [1, 2] [0, 1] (by kernel_rfl)
    (fun β1 _ => [(1, .pointer (some ⟨(β1 0), 0, none⟩)), (2, .bool false)]) (fun β1 _ => [some (.ro noRo), some (.blk (β1 0) [.bool u, .bool c, .int .i64 0, .int .i64 n] 23)]) (fun β1 _ => []) (fun _ _ => [])
    (fun _ _ => by kernel_rfl) (fun _ _ => trivial) ?_
  intro β1 _ w1 H1 _
  refine NQ.then ?_
  refine CW.seq (x := (cAt B13 [1, 0])) (y := (cAt B13 [1, 1])) (by kernel_rfl) ?_
  refine CW.seq (x := (cAt B13 [1, 0, 0])) (y := (cAt B13 [1, 0, 1])) (by kernel_rfl) ?_
  refine CW.region (id := 1) (d := false) H1 (by kernel_rfl) mixed 0 [(1, .key 1)] [] [1, 2, 5] [0, 1] (by kernel_rfl)
    (fun β2 _ => [(1, .pointer (some ⟨(β1 0), 0, none⟩)), (2, .bool false), (5, .bool (!u))]) (fun β2 _ => [some (.ro noRo), some (.blk (β1 0) [.bool u, .bool c, .int .i64 0, .int .i64 n] 23)]) (fun β2 _ => [(β1 0) = (β1 0)]) (fun _ _ => [])
    (fun _ _ => by kernel_rfl) (fun _ _ => ⟨rfl, trivial⟩) ?_
  intro β2 _ w2 H2 _
  refine NQ.then ?_
  rcases Bool.eq_false_or_eq_true u with h3 | h3
  · refine CW.cond_f (o := .tmp 5) (b := (!u)) (x := (cAt B13 [1, 0, 1, 0])) (y := (cAt B13 [1, 0, 1, 1])) (by kernel_rfl) (by kernel_rfl) (by rw [show u = true from h3]; rfl) ?_
    refine CW.skip (by kernel_rfl) ?_
    refine NQ.then ?_
    refine CW.seq (x := (cAt B13 [1, 1, 0])) (y := (cAt B13 [1, 1, 1])) (by kernel_rfl) ?_
    refine CW.seq (x := (cAt B13 [1, 1, 0, 0])) (y := (cAt B13 [1, 1, 0, 1])) (by kernel_rfl) ?_
    refine CW.region (id := 3) (d := false) H2 (by kernel_rfl) mixed 0 [(1, .key 1), (5, .key 1), (10, .key 1)] [] [1, 2, 31] [0, 1] (by kernel_rfl)
      (fun β4 _ => [(1, .pointer (some ⟨(β1 0), 0, none⟩)), (2, .bool false), (31, .bool (decide (n < 0)))]) (fun β4 _ => [some (.ro noRo), some (.blk (β1 0) [.bool u, .bool c, .int .i64 0, .int .i64 n] 23)]) (fun β4 _ => [(β1 0) = (β1 0), (β1 0) = (β1 0), (β1 0) = (β1 0)]) (fun _ _ => [])
      (fun _ _ => by kernel_rfl) (fun _ _ => ⟨rfl, rfl, rfl, trivial⟩) ?_
    intro β4 _ w4 H4 _
    refine NQ.then ?_
    rcases Bool.eq_false_or_eq_true (decide (n < 0)) with h5 | h5
    · have p5 := of_decide_eq_true h5
      refine CW.cond_t (o := .tmp 31) (b := (decide (n < 0))) (x := (cAt B13 [1, 1, 0, 1, 0])) (y := (cAt B13 [1, 1, 0, 1, 1])) (by kernel_rfl) (by kernel_rfl) h5 ?_
      refine CW.seq (x := (cAt B13 [1, 1, 0, 1, 0, 0])) (y := (cAt B13 [1, 1, 0, 1, 0, 1])) (by kernel_rfl) ?_
      refine CW.region (id := 4) (d := false) H4 (by kernel_rfl) mixed 0 [] [] [1, 2] [0, 1] (by kernel_rfl)
        (fun β6 _ => [(1, .pointer (some ⟨(β1 0), 0, none⟩)), (2, .bool false)]) (fun β6 _ => [some (.ro noRo), some (.blk (β1 0) [.bool u, .bool c, .int .i64 0, .int .i64 n] 23)]) (fun β6 _ => []) (fun _ _ => [])
        (fun _ _ => by kernel_rfl) (fun _ _ => trivial) ?_
      intro β6 _ w6 H6 _
      refine NQ.then ?_
      refine CW.ret (by kernel_rfl) ?_
      refine NQ.then_ret ?_
      refine NQ.ret H6 [.tmp 2] (by kernel_rfl) [] [.bool false] [] (by kernel_rfl) trivial ?_
      exact ⟨congrArg Ending.returned (by clear H0 H1 H2 H4 H6; first | (simp_all [tupV, hMay, two]; done) | (simp_all [tupV, hMay, two] <;> omega)), H6.below⟩
    · have p5 := of_decide_eq_false h5
      refine CW.cond_f (o := .tmp 31) (b := (decide (n < 0))) (x := (cAt B13 [1, 1, 0, 1, 0])) (y := (cAt B13 [1, 1, 0, 1, 1])) (by kernel_rfl) (by kernel_rfl) h5 ?_
      refine CW.skip (by kernel_rfl) ?_
      refine NQ.then ?_
      refine CW.seq (x := (cAt B13 [1, 1, 1, 0])) (y := (cAt B13 [1, 1, 1, 1])) (by kernel_rfl) ?_
      refine CW.region (id := 5) (d := true) H4 (by kernel_rfl) mixed 1 [(1, .key 1), (2, .key 2), (4, .key 1), (6, .key 2)] [] [1, 2] [0, 1, 2] (by kernel_rfl)
        (fun β7 _ => [(1, .pointer (some ⟨(β1 0), 0, none⟩)), (2, .bool (decide (n ≤ 1)))]) (fun β7 _ => [some (.ro noRo), some (.blk (β1 0) [.bool u, .bool c, .int .i64 0, .int .i64 n] 23), some (.blk (β7 2) [.int .i64 1, .int .i64 3, .int .i64 7, .int .i64 15] 3)]) (fun β7 _ => [(β1 0) = (β1 0), (β1 0) = (β1 0), (0 : Int) ≤ 0 ∧ 0 < ((4 : Nat) : Int), (β7 2) = (β7 2)]) (fun _ _ => [])
        (fun _ _ => by kernel_rfl) (fun _ _ => ⟨rfl, rfl, (by decide), rfl, trivial⟩) ?_
      intro β7 _ w7 H7 _
      refine NQ.then ?_
      refine CW.ret (by kernel_rfl) ?_
      refine NQ.ret H7 [.tmp 2] (by kernel_rfl) [] [.bool (decide (n ≤ 1))] [] (by kernel_rfl) trivial ?_
      exact ⟨congrArg Ending.returned (by clear H0 H1 H2 H4 H7; first | (simp_all [tupV, hMay, two]; done) | (simp_all [tupV, hMay, two] <;> omega)), H7.below⟩
  · refine CW.cond_t (o := .tmp 5) (b := (!u)) (x := (cAt B13 [1, 0, 1, 0])) (y := (cAt B13 [1, 0, 1, 1])) (by kernel_rfl) (by kernel_rfl) (by rw [show u = false from h3]; rfl) ?_
    refine CW.seq (x := (cAt B13 [1, 0, 1, 0, 0])) (y := (cAt B13 [1, 0, 1, 0, 1])) (by kernel_rfl) ?_
    rcases Bool.eq_false_or_eq_true c with h8 | h8
    · refine CW.region (id := 2) (d := false) H2 (by kernel_rfl) mixed 0 [(1, .key 1), (7, .dec false)] [(4, false), (5, false), (6, false)] [1, 2] [0, 1] (by kernel_rfl)
        (fun β9 _ => [(1, .pointer (some ⟨(β1 0), 0, none⟩)), (2, .bool false)]) (fun β9 _ => [some (.ro noRo), some (.blk (β1 0) [.bool u, .bool c, .int .i64 0, .int .i64 n] 23)]) (fun β9 _ => [(β1 0) = (β1 0), ((!c) == true) = false, ((!c) == true) = false, ((!c) == true) = false, (!c) = false]) (fun _ _ => [])
        (fun _ _ => by kernel_rfl) (fun _ _ => ⟨rfl, (by rw [show (!c) = false from (by rw [show c = true from h8]; rfl)]; rfl), (by rw [show (!c) = false from (by rw [show c = true from h8]; rfl)]; rfl), (by rw [show (!c) = false from (by rw [show c = true from h8]; rfl)]; rfl), (by rw [show c = true from h8]; rfl), trivial⟩) ?_
      intro β9 _ w9 H9 _
      refine NQ.then ?_
      refine CW.ret (by kernel_rfl) ?_
      refine NQ.then_ret ?_
      refine NQ.ret H9 [.tmp 2] (by kernel_rfl) [] [.bool false] [] (by kernel_rfl) trivial ?_
      exact ⟨congrArg Ending.returned (by clear H0 H1 H2 H9; first | (simp_all [tupV, hMay, two]; done) | (simp_all [tupV, hMay, two] <;> omega)), H9.below⟩
    · refine CW.region (id := 2) (d := false) H2 (by kernel_rfl) mixed 0 [(1, .key 1), (5, .key 1), (7, .dec true), (10, .key 1)] [(4, true), (5, true), (6, true)] [1, 2] [0, 1] (by kernel_rfl)
        (fun β10 _ => [(1, .pointer (some ⟨(β1 0), 0, none⟩)), (2, .bool (n == 0))]) (fun β10 _ => [some (.ro noRo), some (.blk (β1 0) [.bool u, .bool c, .int .i64 0, .int .i64 n] 23)]) (fun β10 _ => [(β1 0) = (β1 0), ((!c) == true) = true, ((!c) == true) = true, (β1 0) = (β1 0), ((!c) == true) = true, (!c) = true, (β1 0) = (β1 0)]) (fun _ _ => [])
        (fun _ _ => by kernel_rfl) (fun _ _ => ⟨rfl, (by rw [show (!c) = true from (by rw [show c = false from h8]; rfl)]; rfl), (by rw [show (!c) = true from (by rw [show c = false from h8]; rfl)]; rfl), rfl, (by rw [show (!c) = true from (by rw [show c = false from h8]; rfl)]; rfl), (by rw [show c = false from h8]; rfl), rfl, trivial⟩) ?_
      intro β10 _ w10 H10 _
      refine NQ.then ?_
      refine CW.ret (by kernel_rfl) ?_
      refine NQ.then_ret ?_
      refine NQ.ret H10 [.tmp 2] (by kernel_rfl) [] [.bool (n == 0)] [] (by kernel_rfl) trivial ?_
      exact ⟨congrArg Ending.returned (by clear H0 H1 H2 H10; first | (simp_all [tupV, hMay, two]; done) | (simp_all [tupV, hMay, two] <;> omega)), H10.below⟩

theorem ref02_May1 (u : Bool) (c : Bool) (n : Int) : Pure noRo P0 13 #[.agg #[.bool u, .bool c, .int .i64 1, .int .i64 n]] (.bool (hMay u c 1 n)) := by
  intro w0 hG
  have H0 := Own.begin hG
  refine enter (fn := F13) (c := B13) (n := 40) [(0, .agg #[.bool u, .bool c, .int .i64 1, .int .i64 n])] (by kernel_rfl) (by kernel_rfl) (by kernel_rfl) (by kernel_rfl) (by kernel_rfl) ?_
  refine CW.seq (x := (cAt B13 [0])) (y := (cAt B13 [1])) (by kernel_rfl) ?_
  refine CW.region (id := 0) (d := false) H0 (by kernel_rfl) mixed 1 [(0, .key 1)] [] [1, 2] [0, 1] (by kernel_rfl)
    (fun β1 _ => [(1, .pointer (some ⟨(β1 0), 0, none⟩)), (2, .bool false)]) (fun β1 _ => [some (.ro noRo), some (.blk (β1 0) [.bool u, .bool c, .int .i64 1, .int .i64 n] 23)]) (fun β1 _ => []) (fun _ _ => [])
    (fun _ _ => by kernel_rfl) (fun _ _ => trivial) ?_
  intro β1 _ w1 H1 _
  refine NQ.then ?_
  refine CW.seq (x := (cAt B13 [1, 0])) (y := (cAt B13 [1, 1])) (by kernel_rfl) ?_
  refine CW.seq (x := (cAt B13 [1, 0, 0])) (y := (cAt B13 [1, 0, 1])) (by kernel_rfl) ?_
  refine CW.region (id := 1) (d := false) H1 (by kernel_rfl) mixed 0 [(1, .key 1)] [] [1, 2, 5] [0, 1] (by kernel_rfl)
    (fun β2 _ => [(1, .pointer (some ⟨(β1 0), 0, none⟩)), (2, .bool false), (5, .bool (!u))]) (fun β2 _ => [some (.ro noRo), some (.blk (β1 0) [.bool u, .bool c, .int .i64 1, .int .i64 n] 23)]) (fun β2 _ => [(β1 0) = (β1 0)]) (fun _ _ => [])
    (fun _ _ => by kernel_rfl) (fun _ _ => ⟨rfl, trivial⟩) ?_
  intro β2 _ w2 H2 _
  refine NQ.then ?_
  rcases Bool.eq_false_or_eq_true u with h3 | h3
  · refine CW.cond_f (o := .tmp 5) (b := (!u)) (x := (cAt B13 [1, 0, 1, 0])) (y := (cAt B13 [1, 0, 1, 1])) (by kernel_rfl) (by kernel_rfl) (by rw [show u = true from h3]; rfl) ?_
    refine CW.skip (by kernel_rfl) ?_
    refine NQ.then ?_
    refine CW.seq (x := (cAt B13 [1, 1, 0])) (y := (cAt B13 [1, 1, 1])) (by kernel_rfl) ?_
    refine CW.seq (x := (cAt B13 [1, 1, 0, 0])) (y := (cAt B13 [1, 1, 0, 1])) (by kernel_rfl) ?_
    refine CW.region (id := 3) (d := false) H2 (by kernel_rfl) mixed 0 [(1, .key 1), (5, .key 1), (10, .key 1)] [] [1, 2, 31] [0, 1] (by kernel_rfl)
      (fun β4 _ => [(1, .pointer (some ⟨(β1 0), 0, none⟩)), (2, .bool false), (31, .bool (decide (n < 0)))]) (fun β4 _ => [some (.ro noRo), some (.blk (β1 0) [.bool u, .bool c, .int .i64 1, .int .i64 n] 23)]) (fun β4 _ => [(β1 0) = (β1 0), (β1 0) = (β1 0), (β1 0) = (β1 0)]) (fun _ _ => [])
      (fun _ _ => by kernel_rfl) (fun _ _ => ⟨rfl, rfl, rfl, trivial⟩) ?_
    intro β4 _ w4 H4 _
    refine NQ.then ?_
    rcases Bool.eq_false_or_eq_true (decide (n < 0)) with h5 | h5
    · have p5 := of_decide_eq_true h5
      refine CW.cond_t (o := .tmp 31) (b := (decide (n < 0))) (x := (cAt B13 [1, 1, 0, 1, 0])) (y := (cAt B13 [1, 1, 0, 1, 1])) (by kernel_rfl) (by kernel_rfl) h5 ?_
      refine CW.seq (x := (cAt B13 [1, 1, 0, 1, 0, 0])) (y := (cAt B13 [1, 1, 0, 1, 0, 1])) (by kernel_rfl) ?_
      refine CW.region (id := 4) (d := false) H4 (by kernel_rfl) mixed 0 [] [] [1, 2] [0, 1] (by kernel_rfl)
        (fun β6 _ => [(1, .pointer (some ⟨(β1 0), 0, none⟩)), (2, .bool false)]) (fun β6 _ => [some (.ro noRo), some (.blk (β1 0) [.bool u, .bool c, .int .i64 1, .int .i64 n] 23)]) (fun β6 _ => []) (fun _ _ => [])
        (fun _ _ => by kernel_rfl) (fun _ _ => trivial) ?_
      intro β6 _ w6 H6 _
      refine NQ.then ?_
      refine CW.ret (by kernel_rfl) ?_
      refine NQ.then_ret ?_
      refine NQ.ret H6 [.tmp 2] (by kernel_rfl) [] [.bool false] [] (by kernel_rfl) trivial ?_
      exact ⟨congrArg Ending.returned (by clear H0 H1 H2 H4 H6; first | (simp_all [tupV, hMay, two]; done) | (simp_all [tupV, hMay, two] <;> omega)), H6.below⟩
    · have p5 := of_decide_eq_false h5
      refine CW.cond_f (o := .tmp 31) (b := (decide (n < 0))) (x := (cAt B13 [1, 1, 0, 1, 0])) (y := (cAt B13 [1, 1, 0, 1, 1])) (by kernel_rfl) (by kernel_rfl) h5 ?_
      refine CW.skip (by kernel_rfl) ?_
      refine NQ.then ?_
      refine CW.seq (x := (cAt B13 [1, 1, 1, 0])) (y := (cAt B13 [1, 1, 1, 1])) (by kernel_rfl) ?_
      refine CW.region (id := 5) (d := true) H4 (by kernel_rfl) mixed 1 [(1, .key 1), (2, .key 2), (4, .key 1), (6, .key 2)] [] [1, 2] [0, 1, 2] (by kernel_rfl)
        (fun β7 _ => [(1, .pointer (some ⟨(β1 0), 0, none⟩)), (2, .bool (decide (n ≤ 3)))]) (fun β7 _ => [some (.ro noRo), some (.blk (β1 0) [.bool u, .bool c, .int .i64 1, .int .i64 n] 23), some (.blk (β7 2) [.int .i64 1, .int .i64 3, .int .i64 7, .int .i64 15] 3)]) (fun β7 _ => [(β1 0) = (β1 0), (β1 0) = (β1 0), (0 : Int) ≤ 1 ∧ 1 < ((4 : Nat) : Int), (β7 2) = (β7 2)]) (fun _ _ => [])
        (fun _ _ => by kernel_rfl) (fun _ _ => ⟨rfl, rfl, (by decide), rfl, trivial⟩) ?_
      intro β7 _ w7 H7 _
      refine NQ.then ?_
      refine CW.ret (by kernel_rfl) ?_
      refine NQ.ret H7 [.tmp 2] (by kernel_rfl) [] [.bool (decide (n ≤ 3))] [] (by kernel_rfl) trivial ?_
      exact ⟨congrArg Ending.returned (by clear H0 H1 H2 H4 H7; first | (simp_all [tupV, hMay, two]; done) | (simp_all [tupV, hMay, two] <;> omega)), H7.below⟩
  · refine CW.cond_t (o := .tmp 5) (b := (!u)) (x := (cAt B13 [1, 0, 1, 0])) (y := (cAt B13 [1, 0, 1, 1])) (by kernel_rfl) (by kernel_rfl) (by rw [show u = false from h3]; rfl) ?_
    refine CW.seq (x := (cAt B13 [1, 0, 1, 0, 0])) (y := (cAt B13 [1, 0, 1, 0, 1])) (by kernel_rfl) ?_
    rcases Bool.eq_false_or_eq_true c with h8 | h8
    · refine CW.region (id := 2) (d := false) H2 (by kernel_rfl) mixed 0 [(1, .key 1), (7, .dec false)] [(4, false), (5, false), (6, false)] [1, 2] [0, 1] (by kernel_rfl)
        (fun β9 _ => [(1, .pointer (some ⟨(β1 0), 0, none⟩)), (2, .bool false)]) (fun β9 _ => [some (.ro noRo), some (.blk (β1 0) [.bool u, .bool c, .int .i64 1, .int .i64 n] 23)]) (fun β9 _ => [(β1 0) = (β1 0), ((!c) == true) = false, ((!c) == true) = false, ((!c) == true) = false, (!c) = false]) (fun _ _ => [])
        (fun _ _ => by kernel_rfl) (fun _ _ => ⟨rfl, (by rw [show (!c) = false from (by rw [show c = true from h8]; rfl)]; rfl), (by rw [show (!c) = false from (by rw [show c = true from h8]; rfl)]; rfl), (by rw [show (!c) = false from (by rw [show c = true from h8]; rfl)]; rfl), (by rw [show c = true from h8]; rfl), trivial⟩) ?_
      intro β9 _ w9 H9 _
      refine NQ.then ?_
      refine CW.ret (by kernel_rfl) ?_
      refine NQ.then_ret ?_
      refine NQ.ret H9 [.tmp 2] (by kernel_rfl) [] [.bool false] [] (by kernel_rfl) trivial ?_
      exact ⟨congrArg Ending.returned (by clear H0 H1 H2 H9; first | (simp_all [tupV, hMay, two]; done) | (simp_all [tupV, hMay, two] <;> omega)), H9.below⟩
    · refine CW.region (id := 2) (d := false) H2 (by kernel_rfl) mixed 0 [(1, .key 1), (5, .key 1), (7, .dec true)] [(4, true), (5, true), (6, true)] [1, 2] [0, 1] (by kernel_rfl)
        (fun β10 _ => [(1, .pointer (some ⟨(β1 0), 0, none⟩)), (2, .bool false)]) (fun β10 _ => [some (.ro noRo), some (.blk (β1 0) [.bool u, .bool c, .int .i64 1, .int .i64 n] 23)]) (fun β10 _ => [(β1 0) = (β1 0), ((!c) == true) = true, ((!c) == true) = true, (β1 0) = (β1 0), ((!c) == true) = true, (!c) = true]) (fun _ _ => [])
        (fun _ _ => by kernel_rfl) (fun _ _ => ⟨rfl, (by rw [show (!c) = true from (by rw [show c = false from h8]; rfl)]; rfl), (by rw [show (!c) = true from (by rw [show c = false from h8]; rfl)]; rfl), rfl, (by rw [show (!c) = true from (by rw [show c = false from h8]; rfl)]; rfl), (by rw [show c = false from h8]; rfl), trivial⟩) ?_
      intro β10 _ w10 H10 _
      refine NQ.then ?_
      refine CW.ret (by kernel_rfl) ?_
      refine NQ.then_ret ?_
      refine NQ.ret H10 [.tmp 2] (by kernel_rfl) [] [.bool false] [] (by kernel_rfl) trivial ?_
      exact ⟨congrArg Ending.returned (by clear H0 H1 H2 H10; first | (simp_all [tupV, hMay, two]; done) | (simp_all [tupV, hMay, two] <;> omega)), H10.below⟩

theorem ref02_May2 (u : Bool) (c : Bool) (n : Int) : Pure noRo P0 13 #[.agg #[.bool u, .bool c, .int .i64 2, .int .i64 n]] (.bool (hMay u c 2 n)) := by
  intro w0 hG
  have H0 := Own.begin hG
  refine enter (fn := F13) (c := B13) (n := 40) [(0, .agg #[.bool u, .bool c, .int .i64 2, .int .i64 n])] (by kernel_rfl) (by kernel_rfl) (by kernel_rfl) (by kernel_rfl) (by kernel_rfl) ?_
  refine CW.seq (x := (cAt B13 [0])) (y := (cAt B13 [1])) (by kernel_rfl) ?_
  refine CW.region (id := 0) (d := false) H0 (by kernel_rfl) mixed 1 [(0, .key 1)] [] [1, 2] [0, 1] (by kernel_rfl)
    (fun β1 _ => [(1, .pointer (some ⟨(β1 0), 0, none⟩)), (2, .bool false)]) (fun β1 _ => [some (.ro noRo), some (.blk (β1 0) [.bool u, .bool c, .int .i64 2, .int .i64 n] 23)]) (fun β1 _ => []) (fun _ _ => [])
    (fun _ _ => by kernel_rfl) (fun _ _ => trivial) ?_
  intro β1 _ w1 H1 _
  refine NQ.then ?_
  refine CW.seq (x := (cAt B13 [1, 0])) (y := (cAt B13 [1, 1])) (by kernel_rfl) ?_
  refine CW.seq (x := (cAt B13 [1, 0, 0])) (y := (cAt B13 [1, 0, 1])) (by kernel_rfl) ?_
  refine CW.region (id := 1) (d := false) H1 (by kernel_rfl) mixed 0 [(1, .key 1)] [] [1, 2, 5] [0, 1] (by kernel_rfl)
    (fun β2 _ => [(1, .pointer (some ⟨(β1 0), 0, none⟩)), (2, .bool false), (5, .bool (!u))]) (fun β2 _ => [some (.ro noRo), some (.blk (β1 0) [.bool u, .bool c, .int .i64 2, .int .i64 n] 23)]) (fun β2 _ => [(β1 0) = (β1 0)]) (fun _ _ => [])
    (fun _ _ => by kernel_rfl) (fun _ _ => ⟨rfl, trivial⟩) ?_
  intro β2 _ w2 H2 _
  refine NQ.then ?_
  rcases Bool.eq_false_or_eq_true u with h3 | h3
  · refine CW.cond_f (o := .tmp 5) (b := (!u)) (x := (cAt B13 [1, 0, 1, 0])) (y := (cAt B13 [1, 0, 1, 1])) (by kernel_rfl) (by kernel_rfl) (by rw [show u = true from h3]; rfl) ?_
    refine CW.skip (by kernel_rfl) ?_
    refine NQ.then ?_
    refine CW.seq (x := (cAt B13 [1, 1, 0])) (y := (cAt B13 [1, 1, 1])) (by kernel_rfl) ?_
    refine CW.seq (x := (cAt B13 [1, 1, 0, 0])) (y := (cAt B13 [1, 1, 0, 1])) (by kernel_rfl) ?_
    refine CW.region (id := 3) (d := false) H2 (by kernel_rfl) mixed 0 [(1, .key 1), (5, .key 1), (10, .key 1)] [] [1, 2, 31] [0, 1] (by kernel_rfl)
      (fun β4 _ => [(1, .pointer (some ⟨(β1 0), 0, none⟩)), (2, .bool false), (31, .bool (decide (n < 0)))]) (fun β4 _ => [some (.ro noRo), some (.blk (β1 0) [.bool u, .bool c, .int .i64 2, .int .i64 n] 23)]) (fun β4 _ => [(β1 0) = (β1 0), (β1 0) = (β1 0), (β1 0) = (β1 0)]) (fun _ _ => [])
      (fun _ _ => by kernel_rfl) (fun _ _ => ⟨rfl, rfl, rfl, trivial⟩) ?_
    intro β4 _ w4 H4 _
    refine NQ.then ?_
    rcases Bool.eq_false_or_eq_true (decide (n < 0)) with h5 | h5
    · have p5 := of_decide_eq_true h5
      refine CW.cond_t (o := .tmp 31) (b := (decide (n < 0))) (x := (cAt B13 [1, 1, 0, 1, 0])) (y := (cAt B13 [1, 1, 0, 1, 1])) (by kernel_rfl) (by kernel_rfl) h5 ?_
      refine CW.seq (x := (cAt B13 [1, 1, 0, 1, 0, 0])) (y := (cAt B13 [1, 1, 0, 1, 0, 1])) (by kernel_rfl) ?_
      refine CW.region (id := 4) (d := false) H4 (by kernel_rfl) mixed 0 [] [] [1, 2] [0, 1] (by kernel_rfl)
        (fun β6 _ => [(1, .pointer (some ⟨(β1 0), 0, none⟩)), (2, .bool false)]) (fun β6 _ => [some (.ro noRo), some (.blk (β1 0) [.bool u, .bool c, .int .i64 2, .int .i64 n] 23)]) (fun β6 _ => []) (fun _ _ => [])
        (fun _ _ => by kernel_rfl) (fun _ _ => trivial) ?_
      intro β6 _ w6 H6 _
      refine NQ.then ?_
      refine CW.ret (by kernel_rfl) ?_
      refine NQ.then_ret ?_
      refine NQ.ret H6 [.tmp 2] (by kernel_rfl) [] [.bool false] [] (by kernel_rfl) trivial ?_
      exact ⟨congrArg Ending.returned (by clear H0 H1 H2 H4 H6; first | (simp_all [tupV, hMay, two]; done) | (simp_all [tupV, hMay, two] <;> omega)), H6.below⟩
    · have p5 := of_decide_eq_false h5
      refine CW.cond_f (o := .tmp 31) (b := (decide (n < 0))) (x := (cAt B13 [1, 1, 0, 1, 0])) (y := (cAt B13 [1, 1, 0, 1, 1])) (by kernel_rfl) (by kernel_rfl) h5 ?_
      refine CW.skip (by kernel_rfl) ?_
      refine NQ.then ?_
      refine CW.seq (x := (cAt B13 [1, 1, 1, 0])) (y := (cAt B13 [1, 1, 1, 1])) (by kernel_rfl) ?_
      refine CW.region (id := 5) (d := true) H4 (by kernel_rfl) mixed 1 [(1, .key 1), (2, .key 2), (4, .key 1), (6, .key 2)] [] [1, 2] [0, 1, 2] (by kernel_rfl)
        (fun β7 _ => [(1, .pointer (some ⟨(β1 0), 0, none⟩)), (2, .bool (decide (n ≤ 7)))]) (fun β7 _ => [some (.ro noRo), some (.blk (β1 0) [.bool u, .bool c, .int .i64 2, .int .i64 n] 23), some (.blk (β7 2) [.int .i64 1, .int .i64 3, .int .i64 7, .int .i64 15] 3)]) (fun β7 _ => [(β1 0) = (β1 0), (β1 0) = (β1 0), (0 : Int) ≤ 2 ∧ 2 < ((4 : Nat) : Int), (β7 2) = (β7 2)]) (fun _ _ => [])
        (fun _ _ => by kernel_rfl) (fun _ _ => ⟨rfl, rfl, (by decide), rfl, trivial⟩) ?_
      intro β7 _ w7 H7 _
      refine NQ.then ?_
      refine CW.ret (by kernel_rfl) ?_
      refine NQ.ret H7 [.tmp 2] (by kernel_rfl) [] [.bool (decide (n ≤ 7))] [] (by kernel_rfl) trivial ?_
      exact ⟨congrArg Ending.returned (by clear H0 H1 H2 H4 H7; first | (simp_all [tupV, hMay, two]; done) | (simp_all [tupV, hMay, two] <;> omega)), H7.below⟩
  · refine CW.cond_t (o := .tmp 5) (b := (!u)) (x := (cAt B13 [1, 0, 1, 0])) (y := (cAt B13 [1, 0, 1, 1])) (by kernel_rfl) (by kernel_rfl) (by rw [show u = false from h3]; rfl) ?_
    refine CW.seq (x := (cAt B13 [1, 0, 1, 0, 0])) (y := (cAt B13 [1, 0, 1, 0, 1])) (by kernel_rfl) ?_
    rcases Bool.eq_false_or_eq_true c with h8 | h8
    · refine CW.region (id := 2) (d := false) H2 (by kernel_rfl) mixed 0 [(1, .key 1), (7, .dec false)] [(4, false), (5, false), (6, false)] [1, 2] [0, 1] (by kernel_rfl)
        (fun β9 _ => [(1, .pointer (some ⟨(β1 0), 0, none⟩)), (2, .bool false)]) (fun β9 _ => [some (.ro noRo), some (.blk (β1 0) [.bool u, .bool c, .int .i64 2, .int .i64 n] 23)]) (fun β9 _ => [(β1 0) = (β1 0), ((!c) == true) = false, ((!c) == true) = false, ((!c) == true) = false, (!c) = false]) (fun _ _ => [])
        (fun _ _ => by kernel_rfl) (fun _ _ => ⟨rfl, (by rw [show (!c) = false from (by rw [show c = true from h8]; rfl)]; rfl), (by rw [show (!c) = false from (by rw [show c = true from h8]; rfl)]; rfl), (by rw [show (!c) = false from (by rw [show c = true from h8]; rfl)]; rfl), (by rw [show c = true from h8]; rfl), trivial⟩) ?_
      intro β9 _ w9 H9 _
      refine NQ.then ?_
      refine CW.ret (by kernel_rfl) ?_
      refine NQ.then_ret ?_
      refine NQ.ret H9 [.tmp 2] (by kernel_rfl) [] [.bool false] [] (by kernel_rfl) trivial ?_
      exact ⟨congrArg Ending.returned (by clear H0 H1 H2 H9; first | (simp_all [tupV, hMay, two]; done) | (simp_all [tupV, hMay, two] <;> omega)), H9.below⟩
    · refine CW.region (id := 2) (d := false) H2 (by kernel_rfl) mixed 0 [(1, .key 1), (5, .key 1), (7, .dec true)] [(4, true), (5, true), (6, true)] [1, 2] [0, 1] (by kernel_rfl)
        (fun β10 _ => [(1, .pointer (some ⟨(β1 0), 0, none⟩)), (2, .bool false)]) (fun β10 _ => [some (.ro noRo), some (.blk (β1 0) [.bool u, .bool c, .int .i64 2, .int .i64 n] 23)]) (fun β10 _ => [(β1 0) = (β1 0), ((!c) == true) = true, ((!c) == true) = true, (β1 0) = (β1 0), ((!c) == true) = true, (!c) = true]) (fun _ _ => [])
        (fun _ _ => by kernel_rfl) (fun _ _ => ⟨rfl, (by rw [show (!c) = true from (by rw [show c = false from h8]; rfl)]; rfl), (by rw [show (!c) = true from (by rw [show c = false from h8]; rfl)]; rfl), rfl, (by rw [show (!c) = true from (by rw [show c = false from h8]; rfl)]; rfl), (by rw [show c = false from h8]; rfl), trivial⟩) ?_
      intro β10 _ w10 H10 _
      refine NQ.then ?_
      refine CW.ret (by kernel_rfl) ?_
      refine NQ.then_ret ?_
      refine NQ.ret H10 [.tmp 2] (by kernel_rfl) [] [.bool false] [] (by kernel_rfl) trivial ?_
      exact ⟨congrArg Ending.returned (by clear H0 H1 H2 H10; first | (simp_all [tupV, hMay, two]; done) | (simp_all [tupV, hMay, two] <;> omega)), H10.below⟩

theorem ref02_May3 (u : Bool) (c : Bool) (n : Int) : Pure noRo P0 13 #[.agg #[.bool u, .bool c, .int .i64 3, .int .i64 n]] (.bool (hMay u c 3 n)) := by
  intro w0 hG
  have H0 := Own.begin hG
  refine enter (fn := F13) (c := B13) (n := 40) [(0, .agg #[.bool u, .bool c, .int .i64 3, .int .i64 n])] (by kernel_rfl) (by kernel_rfl) (by kernel_rfl) (by kernel_rfl) (by kernel_rfl) ?_
  refine CW.seq (x := (cAt B13 [0])) (y := (cAt B13 [1])) (by kernel_rfl) ?_
  refine CW.region (id := 0) (d := false) H0 (by kernel_rfl) mixed 1 [(0, .key 1)] [] [1, 2] [0, 1] (by kernel_rfl)
    (fun β1 _ => [(1, .pointer (some ⟨(β1 0), 0, none⟩)), (2, .bool false)]) (fun β1 _ => [some (.ro noRo), some (.blk (β1 0) [.bool u, .bool c, .int .i64 3, .int .i64 n] 23)]) (fun β1 _ => []) (fun _ _ => [])
    (fun _ _ => by kernel_rfl) (fun _ _ => trivial) ?_
  intro β1 _ w1 H1 _
  refine NQ.then ?_
  refine CW.seq (x := (cAt B13 [1, 0])) (y := (cAt B13 [1, 1])) (by kernel_rfl) ?_
  refine CW.seq (x := (cAt B13 [1, 0, 0])) (y := (cAt B13 [1, 0, 1])) (by kernel_rfl) ?_
  refine CW.region (id := 1) (d := false) H1 (by kernel_rfl) mixed 0 [(1, .key 1)] [] [1, 2, 5] [0, 1] (by kernel_rfl)
    (fun β2 _ => [(1, .pointer (some ⟨(β1 0), 0, none⟩)), (2, .bool false), (5, .bool (!u))]) (fun β2 _ => [some (.ro noRo), some (.blk (β1 0) [.bool u, .bool c, .int .i64 3, .int .i64 n] 23)]) (fun β2 _ => [(β1 0) = (β1 0)]) (fun _ _ => [])
    (fun _ _ => by kernel_rfl) (fun _ _ => ⟨rfl, trivial⟩) ?_
  intro β2 _ w2 H2 _
  refine NQ.then ?_
  rcases Bool.eq_false_or_eq_true u with h3 | h3
  · refine CW.cond_f (o := .tmp 5) (b := (!u)) (x := (cAt B13 [1, 0, 1, 0])) (y := (cAt B13 [1, 0, 1, 1])) (by kernel_rfl) (by kernel_rfl) (by rw [show u = true from h3]; rfl) ?_
    refine CW.skip (by kernel_rfl) ?_
    refine NQ.then ?_
    refine CW.seq (x := (cAt B13 [1, 1, 0])) (y := (cAt B13 [1, 1, 1])) (by kernel_rfl) ?_
    refine CW.seq (x := (cAt B13 [1, 1, 0, 0])) (y := (cAt B13 [1, 1, 0, 1])) (by kernel_rfl) ?_
    refine CW.region (id := 3) (d := false) H2 (by kernel_rfl) mixed 0 [(1, .key 1), (5, .key 1), (10, .key 1)] [] [1, 2, 31] [0, 1] (by kernel_rfl)
      (fun β4 _ => [(1, .pointer (some ⟨(β1 0), 0, none⟩)), (2, .bool false), (31, .bool (decide (n < 0)))]) (fun β4 _ => [some (.ro noRo), some (.blk (β1 0) [.bool u, .bool c, .int .i64 3, .int .i64 n] 23)]) (fun β4 _ => [(β1 0) = (β1 0), (β1 0) = (β1 0), (β1 0) = (β1 0)]) (fun _ _ => [])
      (fun _ _ => by kernel_rfl) (fun _ _ => ⟨rfl, rfl, rfl, trivial⟩) ?_
    intro β4 _ w4 H4 _
    refine NQ.then ?_
    rcases Bool.eq_false_or_eq_true (decide (n < 0)) with h5 | h5
    · have p5 := of_decide_eq_true h5
      refine CW.cond_t (o := .tmp 31) (b := (decide (n < 0))) (x := (cAt B13 [1, 1, 0, 1, 0])) (y := (cAt B13 [1, 1, 0, 1, 1])) (by kernel_rfl) (by kernel_rfl) h5 ?_
      refine CW.seq (x := (cAt B13 [1, 1, 0, 1, 0, 0])) (y := (cAt B13 [1, 1, 0, 1, 0, 1])) (by kernel_rfl) ?_
      refine CW.region (id := 4) (d := false) H4 (by kernel_rfl) mixed 0 [] [] [1, 2] [0, 1] (by kernel_rfl)
        (fun β6 _ => [(1, .pointer (some ⟨(β1 0), 0, none⟩)), (2, .bool false)]) (fun β6 _ => [some (.ro noRo), some (.blk (β1 0) [.bool u, .bool c, .int .i64 3, .int .i64 n] 23)]) (fun β6 _ => []) (fun _ _ => [])
        (fun _ _ => by kernel_rfl) (fun _ _ => trivial) ?_
      intro β6 _ w6 H6 _
      refine NQ.then ?_
      refine CW.ret (by kernel_rfl) ?_
      refine NQ.then_ret ?_
      refine NQ.ret H6 [.tmp 2] (by kernel_rfl) [] [.bool false] [] (by kernel_rfl) trivial ?_
      exact ⟨congrArg Ending.returned (by clear H0 H1 H2 H4 H6; first | (simp_all [tupV, hMay, two]; done) | (simp_all [tupV, hMay, two] <;> omega)), H6.below⟩
    · have p5 := of_decide_eq_false h5
      refine CW.cond_f (o := .tmp 31) (b := (decide (n < 0))) (x := (cAt B13 [1, 1, 0, 1, 0])) (y := (cAt B13 [1, 1, 0, 1, 1])) (by kernel_rfl) (by kernel_rfl) h5 ?_
      refine CW.skip (by kernel_rfl) ?_
      refine NQ.then ?_
      refine CW.seq (x := (cAt B13 [1, 1, 1, 0])) (y := (cAt B13 [1, 1, 1, 1])) (by kernel_rfl) ?_
      refine CW.region (id := 5) (d := true) H4 (by kernel_rfl) mixed 1 [(1, .key 1), (2, .key 2), (4, .key 1), (6, .key 2)] [] [1, 2] [0, 1, 2] (by kernel_rfl)
        (fun β7 _ => [(1, .pointer (some ⟨(β1 0), 0, none⟩)), (2, .bool (decide (n ≤ 15)))]) (fun β7 _ => [some (.ro noRo), some (.blk (β1 0) [.bool u, .bool c, .int .i64 3, .int .i64 n] 23), some (.blk (β7 2) [.int .i64 1, .int .i64 3, .int .i64 7, .int .i64 15] 3)]) (fun β7 _ => [(β1 0) = (β1 0), (β1 0) = (β1 0), (0 : Int) ≤ 3 ∧ 3 < ((4 : Nat) : Int), (β7 2) = (β7 2)]) (fun _ _ => [])
        (fun _ _ => by kernel_rfl) (fun _ _ => ⟨rfl, rfl, (by decide), rfl, trivial⟩) ?_
      intro β7 _ w7 H7 _
      refine NQ.then ?_
      refine CW.ret (by kernel_rfl) ?_
      refine NQ.ret H7 [.tmp 2] (by kernel_rfl) [] [.bool (decide (n ≤ 15))] [] (by kernel_rfl) trivial ?_
      exact ⟨congrArg Ending.returned (by clear H0 H1 H2 H4 H7; first | (simp_all [tupV, hMay, two]; done) | (simp_all [tupV, hMay, two] <;> omega)), H7.below⟩
  · refine CW.cond_t (o := .tmp 5) (b := (!u)) (x := (cAt B13 [1, 0, 1, 0])) (y := (cAt B13 [1, 0, 1, 1])) (by kernel_rfl) (by kernel_rfl) (by rw [show u = false from h3]; rfl) ?_
    refine CW.seq (x := (cAt B13 [1, 0, 1, 0, 0])) (y := (cAt B13 [1, 0, 1, 0, 1])) (by kernel_rfl) ?_
    rcases Bool.eq_false_or_eq_true c with h8 | h8
    · refine CW.region (id := 2) (d := false) H2 (by kernel_rfl) mixed 0 [(1, .key 1), (7, .dec false)] [(4, false), (5, false), (6, false)] [1, 2] [0, 1] (by kernel_rfl)
        (fun β9 _ => [(1, .pointer (some ⟨(β1 0), 0, none⟩)), (2, .bool false)]) (fun β9 _ => [some (.ro noRo), some (.blk (β1 0) [.bool u, .bool c, .int .i64 3, .int .i64 n] 23)]) (fun β9 _ => [(β1 0) = (β1 0), ((!c) == true) = false, ((!c) == true) = false, ((!c) == true) = false, (!c) = false]) (fun _ _ => [])
        (fun _ _ => by kernel_rfl) (fun _ _ => ⟨rfl, (by rw [show (!c) = false from (by rw [show c = true from h8]; rfl)]; rfl), (by rw [show (!c) = false from (by rw [show c = true from h8]; rfl)]; rfl), (by rw [show (!c) = false from (by rw [show c = true from h8]; rfl)]; rfl), (by rw [show c = true from h8]; rfl), trivial⟩) ?_
      intro β9 _ w9 H9 _
      refine NQ.then ?_
      refine CW.ret (by kernel_rfl) ?_
      refine NQ.then_ret ?_
      refine NQ.ret H9 [.tmp 2] (by kernel_rfl) [] [.bool false] [] (by kernel_rfl) trivial ?_
      exact ⟨congrArg Ending.returned (by clear H0 H1 H2 H9; first | (simp_all [tupV, hMay, two]; done) | (simp_all [tupV, hMay, two] <;> omega)), H9.below⟩
    · refine CW.region (id := 2) (d := false) H2 (by kernel_rfl) mixed 0 [(1, .key 1), (5, .key 1), (7, .dec true)] [(4, true), (5, true), (6, true)] [1, 2] [0, 1] (by kernel_rfl)
        (fun β10 _ => [(1, .pointer (some ⟨(β1 0), 0, none⟩)), (2, .bool false)]) (fun β10 _ => [some (.ro noRo), some (.blk (β1 0) [.bool u, .bool c, .int .i64 3, .int .i64 n] 23)]) (fun β10 _ => [(β1 0) = (β1 0), ((!c) == true) = true, ((!c) == true) = true, (β1 0) = (β1 0), ((!c) == true) = true, (!c) = true]) (fun _ _ => [])
        (fun _ _ => by kernel_rfl) (fun _ _ => ⟨rfl, (by rw [show (!c) = true from (by rw [show c = false from h8]; rfl)]; rfl), (by rw [show (!c) = true from (by rw [show c = false from h8]; rfl)]; rfl), rfl, (by rw [show (!c) = true from (by rw [show c = false from h8]; rfl)]; rfl), (by rw [show c = false from h8]; rfl), trivial⟩) ?_
      intro β10 _ w10 H10 _
      refine NQ.then ?_
      refine CW.ret (by kernel_rfl) ?_
      refine NQ.then_ret ?_
      refine NQ.ret H10 [.tmp 2] (by kernel_rfl) [] [.bool false] [] (by kernel_rfl) trivial ?_
      exact ⟨congrArg Ending.returned (by clear H0 H1 H2 H10; first | (simp_all [tupV, hMay, two]; done) | (simp_all [tupV, hMay, two] <;> omega)), H10.below⟩

theorem ref02_MayX (u : Bool) (c : Bool) (k : Int) (n : Int) (hx : k < 0 ∨ 3 < k) : Pure noRo P0 13 #[.agg #[.bool u, .bool c, .int .i64 k, .int .i64 n]] (.bool (hMay u c k n)) := by
  intro w0 hG
  have H0 := Own.begin hG
  refine enter (fn := F13) (c := B13) (n := 40) [(0, .agg #[.bool u, .bool c, .int .i64 k, .int .i64 n])] (by kernel_rfl) (by kernel_rfl) (by kernel_rfl) (by kernel_rfl) (by kernel_rfl) ?_
  refine CW.seq (x := (cAt B13 [0])) (y := (cAt B13 [1])) (by kernel_rfl) ?_
  refine CW.region (id := 0) (d := false) H0 (by kernel_rfl) mixed 1 [(0, .key 1)] [] [1, 2] [0, 1] (by kernel_rfl)
    (fun β1 _ => [(1, .pointer (some ⟨(β1 0), 0, none⟩)), (2, .bool false)]) (fun β1 _ => [some (.ro noRo), some (.blk (β1 0) [.bool u, .bool c, .int .i64 k, .int .i64 n] 23)]) (fun β1 _ => []) (fun _ _ => [])
    (fun _ _ => by kernel_rfl) (fun _ _ => trivial) ?_
  intro β1 _ w1 H1 _
  refine NQ.then ?_
  refine CW.seq (x := (cAt B13 [1, 0])) (y := (cAt B13 [1, 1])) (by kernel_rfl) ?_
  refine CW.seq (x := (cAt B13 [1, 0, 0])) (y := (cAt B13 [1, 0, 1])) (by kernel_rfl) ?_
  refine CW.region (id := 1) (d := false) H1 (by kernel_rfl) mixed 0 [(1, .key 1)] [] [1, 2, 5] [0, 1] (by kernel_rfl)
    (fun β2 _ => [(1, .pointer (some ⟨(β1 0), 0, none⟩)), (2, .bool false), (5, .bool (!u))]) (fun β2 _ => [some (.ro noRo), some (.blk (β1 0) [.bool u, .bool c, .int .i64 k, .int .i64 n] 23)]) (fun β2 _ => [(β1 0) = (β1 0)]) (fun _ _ => [])
    (fun _ _ => by kernel_rfl) (fun _ _ => ⟨rfl, trivial⟩) ?_
  intro β2 _ w2 H2 _
  refine NQ.then ?_
  rcases Bool.eq_false_or_eq_true u with h3 | h3
  · refine CW.cond_f (o := .tmp 5) (b := (!u)) (x := (cAt B13 [1, 0, 1, 0])) (y := (cAt B13 [1, 0, 1, 1])) (by kernel_rfl) (by kernel_rfl) (by rw [show u = true from h3]; rfl) ?_
    refine CW.skip (by kernel_rfl) ?_
    refine NQ.then ?_
    refine CW.seq (x := (cAt B13 [1, 1, 0])) (y := (cAt B13 [1, 1, 1])) (by kernel_rfl) ?_
    refine CW.seq (x := (cAt B13 [1, 1, 0, 0])) (y := (cAt B13 [1, 1, 0, 1])) (by kernel_rfl) ?_
    rcases Bool.eq_false_or_eq_true (decide (k < 0)) with h4 | h4
    · have p4 := of_decide_eq_true h4
      refine CW.region (id := 3) (d := false) H2 (by kernel_rfl) mixed 0 [(1, .key 1), (7, .dec true)] [(4, false), (5, false), (6, false)] [1, 2, 31] [0, 1] (by kernel_rfl)
        (fun β5 _ => [(1, .pointer (some ⟨(β1 0), 0, none⟩)), (2, .bool false), (31, .bool true)]) (fun β5 _ => [some (.ro noRo), some (.blk (β1 0) [.bool u, .bool c, .int .i64 k, .int .i64 n] 23)]) (fun β5 _ => [(β1 0) = (β1 0), ((decide (k < 0)) == false) = false, ((decide (k < 0)) == false) = false, ((decide (k < 0)) == false) = false, (decide (k < 0)) = true]) (fun _ _ => [])
        (fun _ _ => by kernel_rfl) (fun _ _ => ⟨rfl, (by rw [show (decide (k < 0)) = true from h4]; rfl), (by rw [show (decide (k < 0)) = true from h4]; rfl), (by rw [show (decide (k < 0)) = true from h4]; rfl), h4, trivial⟩) ?_
      intro β5 _ w5 H5 _
      refine NQ.then ?_
      refine CW.cond_t (o := .tmp 31) (b := true) (x := (cAt B13 [1, 1, 0, 1, 0])) (y := (cAt B13 [1, 1, 0, 1, 1])) (by kernel_rfl) (by kernel_rfl) rfl ?_
      refine CW.seq (x := (cAt B13 [1, 1, 0, 1, 0, 0])) (y := (cAt B13 [1, 1, 0, 1, 0, 1])) (by kernel_rfl) ?_
      refine CW.region (id := 4) (d := false) H5 (by kernel_rfl) mixed 0 [] [] [1, 2] [0, 1] (by kernel_rfl)
        (fun β6 _ => [(1, .pointer (some ⟨(β1 0), 0, none⟩)), (2, .bool false)]) (fun β6 _ => [some (.ro noRo), some (.blk (β1 0) [.bool u, .bool c, .int .i64 k, .int .i64 n] 23)]) (fun β6 _ => []) (fun _ _ => [])
        (fun _ _ => by kernel_rfl) (fun _ _ => trivial) ?_
      intro β6 _ w6 H6 _
      refine NQ.then ?_
      refine CW.ret (by kernel_rfl) ?_
      refine NQ.then_ret ?_
      refine NQ.ret H6 [.tmp 2] (by kernel_rfl) [] [.bool false] [] (by kernel_rfl) trivial ?_
      exact ⟨congrArg Ending.returned (by clear H0 H1 H2 H5 H6; first | (simp_all [tupV, hMay]; done) | (simp_all [tupV, hMay] <;> omega)), H6.below⟩
    · have p4 := of_decide_eq_false h4
      rcases Bool.eq_false_or_eq_true (decide (k > 3)) with h7 | h7
      · have p7 := of_decide_eq_true h7
        refine CW.region (id := 3) (d := false) H2 (by kernel_rfl) mixed 0 [(1, .key 1), (5, .key 1), (7, .dec false), (12, .dec true)] [(4, true), (5, true), (6, true), (9, false), (10, false), (11, false)] [1, 2, 31] [0, 1] (by kernel_rfl)
          (fun β8 _ => [(1, .pointer (some ⟨(β1 0), 0, none⟩)), (2, .bool false), (31, .bool true)]) (fun β8 _ => [some (.ro noRo), some (.blk (β1 0) [.bool u, .bool c, .int .i64 k, .int .i64 n] 23)]) (fun β8 _ => [(β1 0) = (β1 0), ((decide (k < 0)) == false) = true, ((decide (k < 0)) == false) = true, (β1 0) = (β1 0), ((decide (k < 0)) == false) = true, (decide (k < 0)) = false, ((decide (k > 3)) == false) = false, ((decide (k > 3)) == false) = false, ((decide (k > 3)) == false) = false, (decide (k > 3)) = true]) (fun _ _ => [])
          (fun _ _ => by kernel_rfl) (fun _ _ => ⟨rfl, (by rw [show (decide (k < 0)) = false from h4]; rfl), (by rw [show (decide (k < 0)) = false from h4]; rfl), rfl, (by rw [show (decide (k < 0)) = false from h4]; rfl), h4, (by rw [show (decide (k > 3)) = true from h7]; rfl), (by rw [show (decide (k > 3)) = true from h7]; rfl), (by rw [show (decide (k > 3)) = true from h7]; rfl), h7, trivial⟩) ?_
        intro β8 _ w8 H8 _
        refine NQ.then ?_
        refine CW.cond_t (o := .tmp 31) (b := true) (x := (cAt B13 [1, 1, 0, 1, 0])) (y := (cAt B13 [1, 1, 0, 1, 1])) (by kernel_rfl) (by kernel_rfl) rfl ?_
        refine CW.seq (x := (cAt B13 [1, 1, 0, 1, 0, 0])) (y := (cAt B13 [1, 1, 0, 1, 0, 1])) (by kernel_rfl) ?_
        refine CW.region (id := 4) (d := false) H8 (by kernel_rfl) mixed 0 [] [] [1, 2] [0, 1] (by kernel_rfl)
          (fun β9 _ => [(1, .pointer (some ⟨(β1 0), 0, none⟩)), (2, .bool false)]) (fun β9 _ => [some (.ro noRo), some (.blk (β1 0) [.bool u, .bool c, .int .i64 k, .int .i64 n] 23)]) (fun β9 _ => []) (fun _ _ => [])
          (fun _ _ => by kernel_rfl) (fun _ _ => trivial) ?_
        intro β9 _ w9 H9 _
        refine NQ.then ?_
        refine CW.ret (by kernel_rfl) ?_
        refine NQ.then_ret ?_
        refine NQ.ret H9 [.tmp 2] (by kernel_rfl) [] [.bool false] [] (by kernel_rfl) trivial ?_
        exact ⟨congrArg Ending.returned (by clear H0 H1 H2 H8 H9; first | (simp_all [tupV, hMay]; done) | (simp_all [tupV, hMay] <;> omega)), H9.below⟩
      · have p7 := of_decide_eq_false h7
        refine CW.region (id := 3) (d := false) H2 (by kernel_rfl) mixed 0 [(1, .key 1), (5, .key 1), (7, .dec false), (10, .key 1), (12, .dec false)] [(4, true), (5, true), (6, true), (9, true), (10, true), (11, true)] [1, 2, 31] [0, 1] (by kernel_rfl)
          (fun β10 _ => [(1, .pointer (some ⟨(β1 0), 0, none⟩)), (2, .bool false), (31, .bool (decide (n < 0)))]) (fun β10 _ => [some (.ro noRo), some (.blk (β1 0) [.bool u, .bool c, .int .i64 k, .int .i64 n] 23)]) (fun β10 _ => [(β1 0) = (β1 0), ((decide (k < 0)) == false) = true, ((decide (k < 0)) == false) = true, (β1 0) = (β1 0), ((decide (k < 0)) == false) = true, (decide (k < 0)) = false, ((decide (k > 3)) == false) = true, ((decide (k > 3)) == false) = true, (β1 0) = (β1 0), ((decide (k > 3)) == false) = true, (decide (k > 3)) = false]) (fun _ _ => [])
          (fun _ _ => by kernel_rfl) (fun _ _ => ⟨rfl, (by rw [show (decide (k < 0)) = false from h4]; rfl), (by rw [show (decide (k < 0)) = false from h4]; rfl), rfl, (by rw [show (decide (k < 0)) = false from h4]; rfl), h4, (by rw [show (decide (k > 3)) = false from h7]; rfl), (by rw [show (decide (k > 3)) = false from h7]; rfl), rfl, (by rw [show (decide (k > 3)) = false from h7]; rfl), h7, trivial⟩) ?_
        intro β10 _ w10 H10 _
        refine NQ.then ?_
        exfalso; omega
  · refine CW.cond_t (o := .tmp 5) (b := (!u)) (x := (cAt B13 [1, 0, 1, 0])) (y := (cAt B13 [1, 0, 1, 1])) (by kernel_rfl) (by kernel_rfl) (by rw [show u = false from h3]; rfl) ?_
    refine CW.seq (x := (cAt B13 [1, 0, 1, 0, 0])) (y := (cAt B13 [1, 0, 1, 0, 1])) (by kernel_rfl) ?_
    rcases Bool.eq_false_or_eq_true c with h11 | h11
    · refine CW.region (id := 2) (d := false) H2 (by kernel_rfl) mixed 0 [(1, .key 1), (7, .dec false)] [(4, false), (5, false), (6, false)] [1, 2] [0, 1] (by kernel_rfl)
        (fun β12 _ => [(1, .pointer (some ⟨(β1 0), 0, none⟩)), (2, .bool false)]) (fun β12 _ => [some (.ro noRo), some (.blk (β1 0) [.bool u, .bool c, .int .i64 k, .int .i64 n] 23)]) (fun β12 _ => [(β1 0) = (β1 0), ((!c) == true) = false, ((!c) == true) = false, ((!c) == true) = false, (!c) = false]) (fun _ _ => [])
        (fun _ _ => by kernel_rfl) (fun _ _ => ⟨rfl, (by rw [show (!c) = false from (by rw [show c = true from h11]; rfl)]; rfl), (by rw [show (!c) = false from (by rw [show c = true from h11]; rfl)]; rfl), (by rw [show (!c) = false from (by rw [show c = true from h11]; rfl)]; rfl), (by rw [show c = true from h11]; rfl), trivial⟩) ?_
      intro β12 _ w12 H12 _
      refine NQ.then ?_
      refine CW.ret (by kernel_rfl) ?_
      refine NQ.then_ret ?_
      refine NQ.ret H12 [.tmp 2] (by kernel_rfl) [] [.bool false] [] (by kernel_rfl) trivial ?_
      exact ⟨congrArg Ending.returned (by clear H0 H1 H2 H12; first | (simp_all [tupV, hMay]; done) | (simp_all [tupV, hMay] <;> omega)), H12.below⟩
    · rcases Bool.eq_false_or_eq_true (k == 0) with h13 | h13
      · have p13 := eq_of_beq h13
        refine CW.region (id := 2) (d := false) H2 (by kernel_rfl) mixed 0 [(1, .key 1), (5, .key 1), (7, .dec true), (10, .key 1), (12, .dec true)] [(4, true), (5, true), (6, true), (9, true), (10, true), (11, true)] [1, 2] [0, 1] (by kernel_rfl)
          (fun β14 _ => [(1, .pointer (some ⟨(β1 0), 0, none⟩)), (2, .bool (n == 0))]) (fun β14 _ => [some (.ro noRo), some (.blk (β1 0) [.bool u, .bool c, .int .i64 k, .int .i64 n] 23)]) (fun β14 _ => [(β1 0) = (β1 0), ((!c) == true) = true, ((!c) == true) = true, (β1 0) = (β1 0), ((!c) == true) = true, (!c) = true, ((k == 0) == true) = true, ((k == 0) == true) = true, (β1 0) = (β1 0), ((k == 0) == true) = true, (k == 0) = true]) (fun _ _ => [])
          (fun _ _ => by kernel_rfl) (fun _ _ => ⟨rfl, (by rw [show (!c) = true from (by rw [show c = false from h11]; rfl)]; rfl), (by rw [show (!c) = true from (by rw [show c = false from h11]; rfl)]; rfl), rfl, (by rw [show (!c) = true from (by rw [show c = false from h11]; rfl)]; rfl), (by rw [show c = false from h11]; rfl), (by rw [show (k == 0) = true from h13]; rfl), (by rw [show (k == 0) = true from h13]; rfl), rfl, (by rw [show (k == 0) = true from h13]; rfl), h13, trivial⟩) ?_
        intro β14 _ w14 H14 _
        refine NQ.then ?_
        refine CW.ret (by kernel_rfl) ?_
        refine NQ.then_ret ?_
        refine NQ.ret H14 [.tmp 2] (by kernel_rfl) [] [.bool (n == 0)] [] (by kernel_rfl) trivial ?_
        exact ⟨congrArg Ending.returned (by clear H0 H1 H2 H14; first | (simp_all [tupV, hMay]; done) | (simp_all [tupV, hMay] <;> omega)), H14.below⟩
      · have p13 := ne_of_beq_false h13
        refine CW.region (id := 2) (d := false) H2 (by kernel_rfl) mixed 0 [(1, .key 1), (5, .key 1), (7, .dec true), (12, .dec false)] [(4, true), (5, true), (6, true), (9, false), (10, false), (11, false)] [1, 2] [0, 1] (by kernel_rfl)
          (fun β15 _ => [(1, .pointer (some ⟨(β1 0), 0, none⟩)), (2, .bool false)]) (fun β15 _ => [some (.ro noRo), some (.blk (β1 0) [.bool u, .bool c, .int .i64 k, .int .i64 n] 23)]) (fun β15 _ => [(β1 0) = (β1 0), ((!c) == true) = true, ((!c) == true) = true, (β1 0) = (β1 0), ((!c) == true) = true, (!c) = true, ((k == 0) == true) = false, ((k == 0) == true) = false, ((k == 0) == true) = false, (k == 0) = false]) (fun _ _ => [])
          (fun _ _ => by kernel_rfl) (fun _ _ => ⟨rfl, (by rw [show (!c) = true from (by rw [show c = false from h11]; rfl)]; rfl), (by rw [show (!c) = true from (by rw [show c = false from h11]; rfl)]; rfl), rfl, (by rw [show (!c) = true from (by rw [show c = false from h11]; rfl)]; rfl), (by rw [show c = false from h11]; rfl), (by rw [show (k == 0) = false from h13]; rfl), (by rw [show (k == 0) = false from h13]; rfl), (by rw [show (k == 0) = false from h13]; rfl), h13, trivial⟩) ?_
        intro β15 _ w15 H15 _
        refine NQ.then ?_
        refine CW.ret (by kernel_rfl) ?_
        refine NQ.then_ret ?_
        refine NQ.ret H15 [.tmp 2] (by kernel_rfl) [] [.bool false] [] (by kernel_rfl) trivial ?_
        exact ⟨congrArg Ending.returned (by clear H0 H1 H2 H15; first | (simp_all [tupV, hMay]; done) | (simp_all [tupV, hMay] <;> omega)), H15.below⟩

theorem ref02_May (u c : Bool) (k n : Int) : Pure noRo P0 13 #[.agg #[.bool u, .bool c, .int .i64 k, .int .i64 n]] (.bool (hMay u c k n)) := by
  by_cases hx : k < 0 ∨ 3 < k
  · exact ref02_MayX u c k n hx
  · have : k = 0 ∨ k = 1 ∨ k = 2 ∨ k = 3 := by omega
    rcases this with rfl | rfl | rfl | rfl
    · exact ref02_May0 u c n
    · exact ref02_May1 u c n
    · exact ref02_May2 u c n
    · exact ref02_May3 u c n

theorem ref02_Put (u : Bool) (c : Bool) (k : Int) (n : Int) (hm : hMay u c k n = true) : Pure noRo P0 15 #[.agg #[.bool u, .bool c, .int .i64 k, .int .i64 n]] (.int .u64 (hPut u c k n)) := by
  intro w0 hG
  have H0 := Own.begin hG
  refine enter (fn := F15) (c := B15) (n := 20) [(0, .agg #[.bool u, .bool c, .int .i64 k, .int .i64 n])] (by kernel_rfl) (by kernel_rfl) (by kernel_rfl) (by kernel_rfl) (by kernel_rfl) ?_
  refine CW.seq (x := (cAt B15 [0])) (y := (cAt B15 [1])) (by kernel_rfl) ?_
  refine CW.region (id := 0) (d := false) H0 (by kernel_rfl) mixed 1 [(0, .key 1)] [] [1, 2] [0, 1] (by kernel_rfl)
    (fun β1 _ => [(1, .pointer (some ⟨(β1 0), 0, none⟩)), (2, .int .u64 0)]) (fun β1 _ => [some (.ro noRo), some (.blk (β1 0) [.bool u, .bool c, .int .i64 k, .int .i64 n] 23)]) (fun β1 _ => []) (fun _ _ => [])
    (fun _ _ => by kernel_rfl) (fun _ _ => trivial) ?_
  intro β1 _ w1 H1 _
  refine NQ.then ?_
  refine CW.seq (x := (cAt B15 [1, 0])) (y := (cAt B15 [1, 1])) (by kernel_rfl) ?_
  refine CW.seq (x := (cAt B15 [1, 0, 0])) (y := (cAt B15 [1, 0, 1])) (by kernel_rfl) ?_
  refine CW.region (id := 1) (d := false) H1 (by kernel_rfl) mixed 0 [(1, .key 1)] [] [1, 2, 6] [0, 1] (by kernel_rfl)
    (fun β2 _ => [(1, .pointer (some ⟨(β1 0), 0, none⟩)), (2, .int .u64 0), (6, .bool (!u))]) (fun β2 _ => [some (.ro noRo), some (.blk (β1 0) [.bool u, .bool c, .int .i64 k, .int .i64 n] 23)]) (fun β2 _ => [(β1 0) = (β1 0)]) (fun _ _ => [])
    (fun _ _ => by kernel_rfl) (fun _ _ => ⟨rfl, trivial⟩) ?_
  intro β2 _ w2 H2 _
  refine NQ.then ?_
  rcases Bool.eq_false_or_eq_true u with h3 | h3
  · refine CW.cond_f (o := .tmp 6) (b := (!u)) (x := (cAt B15 [1, 0, 1, 0])) (y := (cAt B15 [1, 0, 1, 1])) (by kernel_rfl) (by kernel_rfl) (by rw [show u = true from h3]; rfl) ?_
    refine CW.skip (by kernel_rfl) ?_
    refine NQ.then ?_
    refine CW.seq (x := (cAt B15 [1, 1, 0])) (y := (cAt B15 [1, 1, 1])) (by kernel_rfl) ?_
    refine CW.region (id := 3) (d := false) H2 (by kernel_rfl) mixed 0 [(1, .key 1), (5, .key 1)] [] [1, 2, 3] [0, 1] (by kernel_rfl)
      (fun β4 _ => [(1, .pointer (some ⟨(β1 0), 0, none⟩)), (2, .int .u64 0), (3, .int .i64 (iAdd .i64 (iAdd .i64 128 (iMul .i64 16 k)) n))]) (fun β4 _ => [some (.ro noRo), some (.blk (β1 0) [.bool u, .bool c, .int .i64 k, .int .i64 n] 23)]) (fun β4 _ => [(β1 0) = (β1 0), (β1 0) = (β1 0)]) (fun _ _ => [])
      (fun _ _ => by kernel_rfl) (fun _ _ => ⟨rfl, rfl, trivial⟩) ?_
    intro β4 _ w4 H4 _
    refine NQ.then ?_
    refine CW.seq (x := (cAt B15 [1, 1, 1, 0])) (y := (cAt B15 [1, 1, 1, 1])) (by kernel_rfl) ?_
    refine CW.seq (x := (cAt B15 [1, 1, 1, 0, 0])) (y := (cAt B15 [1, 1, 1, 0, 1])) (by kernel_rfl) ?_
    refine CW.region (id := 4) (d := false) H4 (by kernel_rfl) mixed 0 [(1, .key 1)] [] [1, 2, 3, 15] [0, 1] (by kernel_rfl)
      (fun β5 _ => [(1, .pointer (some ⟨(β1 0), 0, none⟩)), (2, .int .u64 0), (3, .int .i64 (iAdd .i64 (iAdd .i64 128 (iMul .i64 16 k)) n)), (15, .bool c)]) (fun β5 _ => [some (.ro noRo), some (.blk (β1 0) [.bool u, .bool c, .int .i64 k, .int .i64 n] 23)]) (fun β5 _ => [(β1 0) = (β1 0)]) (fun _ _ => [])
      (fun _ _ => by kernel_rfl) (fun _ _ => ⟨rfl, trivial⟩) ?_
    intro β5 _ w5 H5 _
    refine NQ.then ?_
    rcases Bool.eq_false_or_eq_true c with h6 | h6
    · refine CW.cond_t (o := .tmp 15) (b := c) (x := (cAt B15 [1, 1, 1, 0, 1, 0])) (y := (cAt B15 [1, 1, 1, 0, 1, 1])) (by kernel_rfl) (by kernel_rfl) h6 ?_
      refine CW.region (id := 5) (d := false) H5 (by kernel_rfl) mixed 0 [] [] [1, 2, 3] [0, 1] (by kernel_rfl)
        (fun β7 _ => [(1, .pointer (some ⟨(β1 0), 0, none⟩)), (2, .int .u64 0), (3, .int .i64 (iAdd .i64 (iAdd .i64 (iAdd .i64 128 (iMul .i64 16 k)) n) 64))]) (fun β7 _ => [some (.ro noRo), some (.blk (β1 0) [.bool u, .bool c, .int .i64 k, .int .i64 n] 23)]) (fun β7 _ => []) (fun _ _ => [])
        (fun _ _ => by kernel_rfl) (fun _ _ => trivial) ?_
      intro β7 _ w7 H7 _
      refine NQ.then ?_
      refine CW.seq (x := (cAt B15 [1, 1, 1, 1, 0])) (y := (cAt B15 [1, 1, 1, 1, 1])) (by kernel_rfl) ?_
      refine CW.region (id := 6) (d := false) H7 (by kernel_rfl) mixed 0 [] [] [1, 2, 3] [0, 1] (by kernel_rfl)
        (fun β8 _ => [(1, .pointer (some ⟨(β1 0), 0, none⟩)), (2, .int .u64 (iCv .u64 (iAdd .i64 (iAdd .i64 (iAdd .i64 128 (iMul .i64 16 k)) n) 64))), (3, .int .i64 (iAdd .i64 (iAdd .i64 (iAdd .i64 128 (iMul .i64 16 k)) n) 64))]) (fun β8 _ => [some (.ro noRo), some (.blk (β1 0) [.bool u, .bool c, .int .i64 k, .int .i64 n] 23)]) (fun β8 _ => []) (fun _ _ => [])
        (fun _ _ => by kernel_rfl) (fun _ _ => trivial) ?_
      intro β8 _ w8 H8 _
      refine NQ.then ?_
      refine CW.ret (by kernel_rfl) ?_
      refine NQ.ret H8 [.tmp 2] (by kernel_rfl) [] [.int .u64 (iCv .u64 (iAdd .i64 (iAdd .i64 (iAdd .i64 128 (iMul .i64 16 k)) n) 64))] [] (by kernel_rfl) trivial ?_
      exact ⟨congrArg Ending.returned (by clear H0 H1 H2 H4 H5 H7 H8; first | (simp_all [tupV, hPut]; done) | (have hu : u = true := (by assumption); subst hu; have e1 := ref_put hm; have e2 := ref_put64 hm; obtain ⟨e3, e4⟩ := cv_put hm; simp_all [tupV, hPut])), H8.below⟩
    · refine CW.cond_f (o := .tmp 15) (b := c) (x := (cAt B15 [1, 1, 1, 0, 1, 0])) (y := (cAt B15 [1, 1, 1, 0, 1, 1])) (by kernel_rfl) (by kernel_rfl) h6 ?_
      refine CW.skip (by kernel_rfl) ?_
      refine NQ.then ?_
      refine CW.seq (x := (cAt B15 [1, 1, 1, 1, 0])) (y := (cAt B15 [1, 1, 1, 1, 1])) (by kernel_rfl) ?_
      refine CW.region (id := 6) (d := false) H5 (by kernel_rfl) mixed 0 [] [] [1, 2, 3] [0, 1] (by kernel_rfl)
        (fun β9 _ => [(1, .pointer (some ⟨(β1 0), 0, none⟩)), (2, .int .u64 (iCv .u64 (iAdd .i64 (iAdd .i64 128 (iMul .i64 16 k)) n))), (3, .int .i64 (iAdd .i64 (iAdd .i64 128 (iMul .i64 16 k)) n))]) (fun β9 _ => [some (.ro noRo), some (.blk (β1 0) [.bool u, .bool c, .int .i64 k, .int .i64 n] 23)]) (fun β9 _ => []) (fun _ _ => [])
        (fun _ _ => by kernel_rfl) (fun _ _ => trivial) ?_
      intro β9 _ w9 H9 _
      refine NQ.then ?_
      refine CW.ret (by kernel_rfl) ?_
      refine NQ.ret H9 [.tmp 2] (by kernel_rfl) [] [.int .u64 (iCv .u64 (iAdd .i64 (iAdd .i64 128 (iMul .i64 16 k)) n))] [] (by kernel_rfl) trivial ?_
      exact ⟨congrArg Ending.returned (by clear H0 H1 H2 H4 H5 H9; first | (simp_all [tupV, hPut]; done) | (have hu : u = true := (by assumption); subst hu; have e1 := ref_put hm; have e2 := ref_put64 hm; obtain ⟨e3, e4⟩ := cv_put hm; simp_all [tupV, hPut])), H9.below⟩
  · refine CW.cond_t (o := .tmp 6) (b := (!u)) (x := (cAt B15 [1, 0, 1, 0])) (y := (cAt B15 [1, 0, 1, 1])) (by kernel_rfl) (by kernel_rfl) (by rw [show u = false from h3]; rfl) ?_
    refine CW.seq (x := (cAt B15 [1, 0, 1, 0, 0])) (y := (cAt B15 [1, 0, 1, 0, 1])) (by kernel_rfl) ?_
    refine CW.region (id := 2) (d := false) H2 (by kernel_rfl) mixed 0 [] [] [1, 2] [0, 1] (by kernel_rfl)
      (fun β10 _ => [(1, .pointer (some ⟨(β1 0), 0, none⟩)), (2, .int .u64 0)]) (fun β10 _ => [some (.ro noRo), some (.blk (β1 0) [.bool u, .bool c, .int .i64 k, .int .i64 n] 23)]) (fun β10 _ => []) (fun _ _ => [])
      (fun _ _ => by kernel_rfl) (fun _ _ => trivial) ?_
    intro β10 _ w10 H10 _
    refine NQ.then ?_
    refine CW.ret (by kernel_rfl) ?_
    refine NQ.then_ret ?_
    refine NQ.ret H10 [.tmp 2] (by kernel_rfl) [] [.int .u64 0] [] (by kernel_rfl) trivial ?_
    exact ⟨congrArg Ending.returned (by clear H0 H1 H2 H10; first | (simp_all [tupV, hPut]; done) | (have hu : u = true := (by assumption); subst hu; have e1 := ref_put hm; have e2 := ref_put64 hm; obtain ⟨e3, e4⟩ := cv_put hm; simp_all [tupV, hPut])), H10.below⟩

theorem step3 {w : Int} {c n k : Nat} (hv : gV w = true) (hk : k < 2) (h : (c : Int) < w / 16 % 4 ∨ (c : Int) = w / 16 % 4 ∧ ((n : Int) < w % 16 ∨ (n : Int) = w % 16 ∧ (k : Int) ≤ (if w / 64 % 2 = 1 then 1 else 0)))
    (hno : hMay true ((k : Int) == 1) (c : Int) (n : Int) = false ∨ (hPut true ((k : Int) == 1) (c : Int) (n : Int) == w) = false) :
    (c : Int) < w / 16 % 4 ∨ (c : Int) = w / 16 % 4 ∧ ((n : Int) < w % 16 ∨ (n : Int) = w % 16 ∧ ((k + 1 : Nat) : Int) ≤ (if w / 64 % 2 = 1 then 1 else 0)) := by
  rcases h with h | ⟨ec, h | ⟨en, hle⟩⟩
  · exact .inl h
  · exact .inr ⟨ec, .inl h⟩
  · refine .inr ⟨ec, .inr ⟨en, ?_⟩⟩
    have key : ¬ (((k : Int) == 1) = (w / 64 % 2 == 1)) := by
      intro ek
      obtain ⟨h1, h2⟩ := cand_back hv ec en ek
      rcases hno with h | h
      · rw [h1] at h; cases h
      · rw [h2] at h; simp at h
    split
    · rename_i h1
      rw [show (w / 64 % 2 == 1) = true from beq_iff_eq.2 h1] at key
      rw [if_pos h1] at hle
      have : k ≠ 1 := fun e => key (by rw [e]; rfl)
      omega
    · rename_i h1
      rw [show (w / 64 % 2 == 1) = false from beq_eq_false_iff_ne.2 h1] at key
      rw [if_neg h1] at hle
      have : k = 0 := by omega
      exact absurd (by rw [this]; rfl) key

theorem ref02_Get (w : Int) (hw : inU64 w) : Pure noRo P0 17 #[.int .u64 w] (.tuple #[.agg #[.bool (gV w), .bool (gC w), .int .i64 (gK w), .int .i64 (gN w)], .bool (gOk w)]) := by
  intro w0 hG
  have H0 := Own.begin hG
  refine enter (fn := F17) (c := B17) (n := 38) [(0, .int .u64 w)] (by kernel_rfl) (by kernel_rfl) (by kernel_rfl) (by kernel_rfl) (by kernel_rfl) ?_
  refine CW.seq (x := (cAt B17 [0])) (y := (cAt B17 [1])) (by kernel_rfl) ?_
  refine CW.region (id := 0) (d := false) H0 (by kernel_rfl) mixed 1 [(0, .key 1)] [] [0, 2, 3] [0, 1] (by kernel_rfl)
    (fun β1 _ => [(0, .int .u64 w), (2, .pointer (some ⟨(β1 0), 0, none⟩)), (3, .bool false)]) (fun β1 _ => [some (.ro noRo), some (.blk (β1 0) [.bool false, .bool false, .int .i64 0, .int .i64 0] 23)]) (fun β1 _ => []) (fun _ _ => [])
    (fun _ _ => by kernel_rfl) (fun _ _ => trivial) ?_
  intro β1 _ w1 H1 _
  refine NQ.then ?_
  refine CW.seq (x := (cAt B17 [1, 0])) (y := (cAt B17 [1, 1])) (by kernel_rfl) ?_
  refine CW.seq (x := (cAt B17 [1, 0, 0])) (y := (cAt B17 [1, 0, 1])) (by kernel_rfl) ?_
  refine CW.region (id := 1) (d := false) H1 (by kernel_rfl) mixed 0 [] [] [0, 2, 3, 9] [0, 1] (by kernel_rfl)
    (fun β2 _ => [(0, .int .u64 w), (2, .pointer (some ⟨(β1 0), 0, none⟩)), (3, .bool false), (9, .bool (w == 0))]) (fun β2 _ => [some (.ro noRo), some (.blk (β1 0) [.bool false, .bool false, .int .i64 0, .int .i64 0] 23)]) (fun β2 _ => []) (fun _ _ => [])
    (fun _ _ => by kernel_rfl) (fun _ _ => trivial) ?_
  intro β2 _ w2 H2 _
  refine NQ.then ?_
  rcases Bool.eq_false_or_eq_true (w == 0) with h3 | h3
  · have p3 := eq_of_beq h3
    refine CW.cond_t (o := .tmp 9) (b := (w == 0)) (x := (cAt B17 [1, 0, 1, 0])) (y := (cAt B17 [1, 0, 1, 1])) (by kernel_rfl) (by kernel_rfl) h3 ?_
    refine CW.seq (x := (cAt B17 [1, 0, 1, 0, 0])) (y := (cAt B17 [1, 0, 1, 0, 1])) (by kernel_rfl) ?_
    refine CW.region (id := 2) (d := false) H2 (by kernel_rfl) mixed 0 [(1, .key 1)] [] [0, 2, 3] [0, 1] (by kernel_rfl)
      (fun β4 _ => [(0, .int .u64 w), (2, .pointer (some ⟨(β1 0), 0, none⟩)), (3, .bool true)]) (fun β4 _ => [some (.ro noRo), some (.blk (β1 0) [.bool false, .bool false, .int .i64 0, .int .i64 0] 23)]) (fun β4 _ => [(β1 0) = (β1 0)]) (fun _ _ => [])
      (fun _ _ => by kernel_rfl) (fun _ _ => ⟨rfl, trivial⟩) ?_
    intro β4 _ w4 H4 _
    refine NQ.then ?_
    refine CW.ret (by kernel_rfl) ?_
    refine NQ.then_ret ?_
    refine NQ.ret H4 [.cell 2 23, .tmp 3] (by kernel_rfl) [1] [.agg #[.bool false, .bool false, .int .i64 0, .int .i64 0], .bool true] [(β1 0) = (β1 0)] (by kernel_rfl) ⟨rfl, trivial⟩ ?_
    exact ⟨congrArg Ending.returned (by clear H0 H1 H2 H4; first | (have hz : w = 0 := (by assumption); subst hz; rfl) | (have hv : gV w = false := (by cases e : gV w with | false => rfl | true => (exfalso; have := Ic e; omega)); have hz : (w == 0) = false := (by assumption); simp [tupV, gOk, gC, gK, gN, hv, hz])), H4.below⟩
  · have p3 := ne_of_beq_false h3
    refine CW.cond_f (o := .tmp 9) (b := (w == 0)) (x := (cAt B17 [1, 0, 1, 0])) (y := (cAt B17 [1, 0, 1, 1])) (by kernel_rfl) (by kernel_rfl) h3 ?_
    refine CW.skip (by kernel_rfl) ?_
    refine NQ.then ?_
    refine CW.seq (x := (cAt B17 [1, 1, 0])) (y := (cAt B17 [1, 1, 1])) (by kernel_rfl) ?_
    refine CW.seq (x := (cAt B17 [1, 1, 0, 0])) (y := (cAt B17 [1, 1, 0, 1])) (by kernel_rfl) ?_
    refine CW.region (id := 3) (d := false) H2 (by kernel_rfl) mixed 0 [] [] [0, 2, 3, 4] [0, 1] (by kernel_rfl)
      (fun β5 _ => [(0, .int .u64 w), (2, .pointer (some ⟨(β1 0), 0, none⟩)), (3, .bool false), (4, .int .i64 0)]) (fun β5 _ => [some (.ro noRo), some (.blk (β1 0) [.bool false, .bool false, .int .i64 0, .int .i64 0] 23)]) (fun β5 _ => []) (fun _ _ => [])
      (fun _ _ => by kernel_rfl) (fun _ _ => trivial) ?_
    intro β5 _ w5 H5 _
    refine NQ.then ?_
    refine CW.block (x := (cAt B17 [1, 1, 0, 1, 0])) (id := 0) (by kernel_rfl) ?_
    refine CW.loop (σ := Nat) (x := (cAt B17 [1, 1, 0, 1, 0, 0])) (by kernel_rfl) (fun c => [(0, .int .u64 w), (2, .pointer (some ⟨(β1 0), 0, none⟩)), (4, .int .i64 ((c : Nat) : Int))])
      (fun c wW => Own w0 wW [some (.ro noRo), some (.blk (β1 0) [.bool false, .bool false, .int .i64 0, .int .i64 0] 23)] ∧ ((c ≤ 4) ∧ (gV w = true → (c : Int) ≤ w / 16 % 4))) (fun c => 4 - c) 0 (by kernel_rfl) ⟨H5, ⟨by omega, fun _ => by omega⟩⟩ ?_
    rintro c wl6 ⟨Hl6, Hc, Ic⟩
    refine CW.seq (x := (cAt B17 [1, 1, 0, 1, 0, 0, 0])) (y := (cAt B17 [1, 1, 0, 1, 0, 0, 1])) (by kernel_rfl) ?_
    refine CW.seq (x := (cAt B17 [1, 1, 0, 1, 0, 0, 0, 0])) (y := (cAt B17 [1, 1, 0, 1, 0, 0, 0, 1])) (by kernel_rfl) ?_
    refine CW.region (id := 4) (d := false) Hl6 (by kernel_rfl) mixed 0 [] [] [0, 2, 4, 12] [0, 1] (by kernel_rfl)
      (fun β7 _ => [(0, .int .u64 w), (2, .pointer (some ⟨(β1 0), 0, none⟩)), (4, .int .i64 ((c : Nat) : Int)), (12, .bool (decide (((c : Nat) : Int) < 4)))]) (fun β7 _ => [some (.ro noRo), some (.blk (β1 0) [.bool false, .bool false, .int .i64 0, .int .i64 0] 23)]) (fun β7 _ => []) (fun _ _ => [])
      (fun _ _ => by kernel_rfl) (fun _ _ => trivial) ?_
    intro β7 _ w7 H7 _
    refine NQ.then ?_
    rcases Bool.eq_false_or_eq_true (decide (((c : Nat) : Int) < 4)) with h8 | h8
    · have p8 := of_decide_eq_true h8
      refine CW.cond_t (o := .tmp 12) (b := (decide (((c : Nat) : Int) < 4))) (x := (cAt B17 [1, 1, 0, 1, 0, 0, 0, 1, 0])) (y := (cAt B17 [1, 1, 0, 1, 0, 0, 0, 1, 1])) (by kernel_rfl) (by kernel_rfl) h8 ?_
      refine CW.skip (by kernel_rfl) ?_
      refine NQ.then ?_
      refine CW.seq (x := (cAt B17 [1, 1, 0, 1, 0, 0, 1, 0])) (y := (cAt B17 [1, 1, 0, 1, 0, 0, 1, 1])) (by kernel_rfl) ?_
      refine CW.block (x := (cAt B17 [1, 1, 0, 1, 0, 0, 1, 0, 0])) (id := 1) (by kernel_rfl) ?_
      refine CW.seq (x := (cAt B17 [1, 1, 0, 1, 0, 0, 1, 0, 0, 0])) (y := (cAt B17 [1, 1, 0, 1, 0, 0, 1, 0, 0, 1])) (by kernel_rfl) ?_
      refine CW.region (id := 6) (d := false) H7 (by kernel_rfl) mixed 0 [] [] [0, 2, 4, 5] [0, 1] (by kernel_rfl)
        (fun β9 _ => [(0, .int .u64 w), (2, .pointer (some ⟨(β1 0), 0, none⟩)), (4, .int .i64 ((c : Nat) : Int)), (5, .int .i64 0)]) (fun β9 _ => [some (.ro noRo), some (.blk (β1 0) [.bool false, .bool false, .int .i64 0, .int .i64 0] 23)]) (fun β9 _ => []) (fun _ _ => [])
        (fun _ _ => by kernel_rfl) (fun _ _ => trivial) ?_
      intro β9 _ w9 H9 _
      refine NQ.then ?_
      refine CW.block (x := (cAt B17 [1, 1, 0, 1, 0, 0, 1, 0, 0, 1, 0])) (id := 2) (by kernel_rfl) ?_
      refine CW.loop (σ := Nat) (x := (cAt B17 [1, 1, 0, 1, 0, 0, 1, 0, 0, 1, 0, 0])) (by kernel_rfl) (fun n => [(0, .int .u64 w), (2, .pointer (some ⟨(β1 0), 0, none⟩)), (4, .int .i64 ((c : Nat) : Int)), (5, .int .i64 ((n : Nat) : Int))])
        (fun n wW => Own w0 wW [some (.ro noRo), some (.blk (β1 0) [.bool false, .bool false, .int .i64 0, .int .i64 0] 23)] ∧ ((n ≤ 16) ∧ (gV w = true → (c : Int) < w / 16 % 4 ∨ (c : Int) = w / 16 % 4 ∧ (n : Int) ≤ w % 16))) (fun n => 16 - n) 0 (by kernel_rfl) ⟨H9, ⟨by omega, fun e => by have := Ic e; omega⟩⟩ ?_
      rintro n wl10 ⟨Hl10, Hn, Inn⟩
      refine CW.seq (x := (cAt B17 [1, 1, 0, 1, 0, 0, 1, 0, 0, 1, 0, 0, 0])) (y := (cAt B17 [1, 1, 0, 1, 0, 0, 1, 0, 0, 1, 0, 0, 1])) (by kernel_rfl) ?_
      refine CW.seq (x := (cAt B17 [1, 1, 0, 1, 0, 0, 1, 0, 0, 1, 0, 0, 0, 0])) (y := (cAt B17 [1, 1, 0, 1, 0, 0, 1, 0, 0, 1, 0, 0, 0, 1])) (by kernel_rfl) ?_
      refine CW.region (id := 7) (d := false) Hl10 (by kernel_rfl) mixed 0 [] [] [0, 2, 4, 5, 16] [0, 1] (by kernel_rfl)
        (fun β11 _ => [(0, .int .u64 w), (2, .pointer (some ⟨(β1 0), 0, none⟩)), (4, .int .i64 ((c : Nat) : Int)), (5, .int .i64 ((n : Nat) : Int)), (16, .bool (decide (((n : Nat) : Int) < 16)))]) (fun β11 _ => [some (.ro noRo), some (.blk (β1 0) [.bool false, .bool false, .int .i64 0, .int .i64 0] 23)]) (fun β11 _ => []) (fun _ _ => [])
        (fun _ _ => by kernel_rfl) (fun _ _ => trivial) ?_
      intro β11 _ w11 H11 _
      refine NQ.then ?_
      rcases Bool.eq_false_or_eq_true (decide (((n : Nat) : Int) < 16)) with h12 | h12
      · have p12 := of_decide_eq_true h12
        refine CW.cond_t (o := .tmp 16) (b := (decide (((n : Nat) : Int) < 16))) (x := (cAt B17 [1, 1, 0, 1, 0, 0, 1, 0, 0, 1, 0, 0, 0, 1, 0])) (y := (cAt B17 [1, 1, 0, 1, 0, 0, 1, 0, 0, 1, 0, 0, 0, 1, 1])) (by kernel_rfl) (by kernel_rfl) h12 ?_
        refine CW.skip (by kernel_rfl) ?_
        refine NQ.then ?_
        refine CW.seq (x := (cAt B17 [1, 1, 0, 1, 0, 0, 1, 0, 0, 1, 0, 0, 1, 0])) (y := (cAt B17 [1, 1, 0, 1, 0, 0, 1, 0, 0, 1, 0, 0, 1, 1])) (by kernel_rfl) ?_
        refine CW.block (x := (cAt B17 [1, 1, 0, 1, 0, 0, 1, 0, 0, 1, 0, 0, 1, 0, 0])) (id := 3) (by kernel_rfl) ?_
        refine CW.seq (x := (cAt B17 [1, 1, 0, 1, 0, 0, 1, 0, 0, 1, 0, 0, 1, 0, 0, 0])) (y := (cAt B17 [1, 1, 0, 1, 0, 0, 1, 0, 0, 1, 0, 0, 1, 0, 0, 1])) (by kernel_rfl) ?_
        refine CW.region (id := 9) (d := false) H11 (by kernel_rfl) mixed 0 [] [] [0, 2, 4, 5, 6] [0, 1] (by kernel_rfl)
          (fun β13 _ => [(0, .int .u64 w), (2, .pointer (some ⟨(β1 0), 0, none⟩)), (4, .int .i64 ((c : Nat) : Int)), (5, .int .i64 ((n : Nat) : Int)), (6, .int .i64 0)]) (fun β13 _ => [some (.ro noRo), some (.blk (β1 0) [.bool false, .bool false, .int .i64 0, .int .i64 0] 23)]) (fun β13 _ => []) (fun _ _ => [])
          (fun _ _ => by kernel_rfl) (fun _ _ => trivial) ?_
        intro β13 _ w13 H13 _
        refine NQ.then ?_
        refine CW.block (x := (cAt B17 [1, 1, 0, 1, 0, 0, 1, 0, 0, 1, 0, 0, 1, 0, 0, 1, 0])) (id := 4) (by kernel_rfl) ?_
        refine CW.loop (σ := Nat) (x := (cAt B17 [1, 1, 0, 1, 0, 0, 1, 0, 0, 1, 0, 0, 1, 0, 0, 1, 0, 0])) (by kernel_rfl) (fun k => [(0, .int .u64 w), (2, .pointer (some ⟨(β1 0), 0, none⟩)), (4, .int .i64 ((c : Nat) : Int)), (5, .int .i64 ((n : Nat) : Int)), (6, .int .i64 ((k : Nat) : Int))])
          (fun k wW => Own w0 wW [some (.ro noRo), some (.blk (β1 0) [.bool false, .bool false, .int .i64 0, .int .i64 0] 23)] ∧ ((k ≤ 2) ∧ (gV w = true → (c : Int) < w / 16 % 4 ∨ (c : Int) = w / 16 % 4 ∧ ((n : Int) < w % 16 ∨ (n : Int) = w % 16 ∧ (k : Int) ≤ (if w / 64 % 2 = 1 then 1 else 0))))) (fun k => 2 - k) 0 (by kernel_rfl) ⟨H13, ⟨by omega, fun e => by have := Inn e; split <;> omega⟩⟩ ?_
        rintro k wl14 ⟨Hl14, Hk, Ik⟩
        refine CW.seq (x := (cAt B17 [1, 1, 0, 1, 0, 0, 1, 0, 0, 1, 0, 0, 1, 0, 0, 1, 0, 0, 0])) (y := (cAt B17 [1, 1, 0, 1, 0, 0, 1, 0, 0, 1, 0, 0, 1, 0, 0, 1, 0, 0, 1])) (by kernel_rfl) ?_
        refine CW.seq (x := (cAt B17 [1, 1, 0, 1, 0, 0, 1, 0, 0, 1, 0, 0, 1, 0, 0, 1, 0, 0, 0, 0])) (y := (cAt B17 [1, 1, 0, 1, 0, 0, 1, 0, 0, 1, 0, 0, 1, 0, 0, 1, 0, 0, 0, 1])) (by kernel_rfl) ?_
        refine CW.region (id := 10) (d := false) Hl14 (by kernel_rfl) mixed 0 [] [] [0, 2, 4, 5, 6, 20] [0, 1] (by kernel_rfl)
          (fun β15 _ => [(0, .int .u64 w), (2, .pointer (some ⟨(β1 0), 0, none⟩)), (4, .int .i64 ((c : Nat) : Int)), (5, .int .i64 ((n : Nat) : Int)), (6, .int .i64 ((k : Nat) : Int)), (20, .bool (decide (((k : Nat) : Int) < 2)))]) (fun β15 _ => [some (.ro noRo), some (.blk (β1 0) [.bool false, .bool false, .int .i64 0, .int .i64 0] 23)]) (fun β15 _ => []) (fun _ _ => [])
          (fun _ _ => by kernel_rfl) (fun _ _ => trivial) ?_
        intro β15 _ w15 H15 _
        refine NQ.then ?_
        rcases Bool.eq_false_or_eq_true (decide (((k : Nat) : Int) < 2)) with h16 | h16
        · have p16 := of_decide_eq_true h16
          refine CW.cond_t (o := .tmp 20) (b := (decide (((k : Nat) : Int) < 2))) (x := (cAt B17 [1, 1, 0, 1, 0, 0, 1, 0, 0, 1, 0, 0, 1, 0, 0, 1, 0, 0, 0, 1, 0])) (y := (cAt B17 [1, 1, 0, 1, 0, 0, 1, 0, 0, 1, 0, 0, 1, 0, 0, 1, 0, 0, 0, 1, 1])) (by kernel_rfl) (by kernel_rfl) h16 ?_
          refine CW.skip (by kernel_rfl) ?_
          refine NQ.then ?_
          refine CW.seq (x := (cAt B17 [1, 1, 0, 1, 0, 0, 1, 0, 0, 1, 0, 0, 1, 0, 0, 1, 0, 0, 1, 0])) (y := (cAt B17 [1, 1, 0, 1, 0, 0, 1, 0, 0, 1, 0, 0, 1, 0, 0, 1, 0, 0, 1, 1])) (by kernel_rfl) ?_
          refine CW.block (x := (cAt B17 [1, 1, 0, 1, 0, 0, 1, 0, 0, 1, 0, 0, 1, 0, 0, 1, 0, 0, 1, 0, 0])) (id := 5) (by kernel_rfl) ?_
          refine CW.seq (x := (cAt B17 [1, 1, 0, 1, 0, 0, 1, 0, 0, 1, 0, 0, 1, 0, 0, 1, 0, 0, 1, 0, 0, 0])) (y := (cAt B17 [1, 1, 0, 1, 0, 0, 1, 0, 0, 1, 0, 0, 1, 0, 0, 1, 0, 0, 1, 0, 0, 1])) (by kernel_rfl) ?_
          refine CW.region (id := 12) (d := false) H15 (by kernel_rfl) mixed 1 [(5, .key 2), (6, .key 2)] [] [0, 2, 4, 5, 6, 7] [0, 1, 2] (by kernel_rfl)
            (fun β17 _ => [(0, .int .u64 w), (2, .pointer (some ⟨(β1 0), 0, none⟩)), (4, .int .i64 ((c : Nat) : Int)), (5, .int .i64 ((n : Nat) : Int)), (6, .int .i64 ((k : Nat) : Int)), (7, .pointer (some ⟨(β17 5), 0, none⟩))]) (fun β17 _ => [some (.ro noRo), some (.blk (β1 0) [.bool false, .bool false, .int .i64 0, .int .i64 0] 23), some (.blk (β17 5) [.bool true, .bool (((k : Nat) : Int) == 1), .int .i64 ((c : Nat) : Int), .int .i64 ((n : Nat) : Int)] 23)]) (fun β17 _ => [(β17 5) = (β17 5)]) (fun _ _ => [])
            (fun _ _ => by kernel_rfl) (fun _ _ => ⟨rfl, trivial⟩) ?_
          intro β17 _ w17 H17 _
          refine NQ.then ?_
          refine CW.seq (x := (cAt B17 [1, 1, 0, 1, 0, 0, 1, 0, 0, 1, 0, 0, 1, 0, 0, 1, 0, 0, 1, 0, 0, 1, 0])) (y := (cAt B17 [1, 1, 0, 1, 0, 0, 1, 0, 0, 1, 0, 0, 1, 0, 0, 1, 0, 0, 1, 0, 0, 1, 1])) (by kernel_rfl) ?_
          rcases Bool.eq_false_or_eq_true (hMay true (((k : Nat) : Int) == 1) ((c : Nat) : Int) ((n : Nat) : Int)) with h18 | h18
          · refine CW.region (id := 13) (d := false) H17 (by kernel_rfl) mixed 0 [(0, .key 2), (1, .call 0 (pureRec (.bool (hMay true (((k : Nat) : Int) == 1) ((c : Nat) : Int) ((n : Nat) : Int))))), (3, .key 2), (4, .call 0 (pureRec (.int .u64 (hPut true (((k : Nat) : Int) == 1) ((c : Nat) : Int) ((n : Nat) : Int))))), (7, .dec true)] [(3, true), (4, true), (5, true), (6, true)] [0, 2, 4, 5, 6, 7, 35] [0, 1, 2] (by kernel_rfl)
              (fun β19 _ => [(0, .int .u64 w), (2, .pointer (some ⟨(β1 0), 0, none⟩)), (4, .int .i64 ((c : Nat) : Int)), (5, .int .i64 ((n : Nat) : Int)), (6, .int .i64 ((k : Nat) : Int)), (7, .pointer (some ⟨(β17 5), 0, none⟩)), (35, .bool ((hPut true (((k : Nat) : Int) == 1) ((c : Nat) : Int) ((n : Nat) : Int)) == w))]) (fun β19 _ => [some (.ro noRo), some (.blk (β1 0) [.bool false, .bool false, .int .i64 0, .int .i64 0] 23), some (.blk (β17 5) [.bool true, .bool (((k : Nat) : Int) == 1), .int .i64 ((c : Nat) : Int), .int .i64 ((n : Nat) : Int)] 23)]) (fun β19 _ => [(β17 5) = (β17 5), CallOb P0 13 #[.agg #[.bool true, .bool (((k : Nat) : Int) == 1), .int .i64 ((c : Nat) : Int), .int .i64 ((n : Nat) : Int)]] [some (.ro noRo)] (pureRec (.bool (hMay true (((k : Nat) : Int) == 1) ((c : Nat) : Int) ((n : Nat) : Int)))), ((hMay true (((k : Nat) : Int) == 1) ((c : Nat) : Int) ((n : Nat) : Int)) == true) = true, (β17 5) = (β17 5), ((hMay true (((k : Nat) : Int) == 1) ((c : Nat) : Int) ((n : Nat) : Int)) == true) = true, CallOb P0 15 #[.agg #[.bool true, .bool (((k : Nat) : Int) == 1), .int .i64 ((c : Nat) : Int), .int .i64 ((n : Nat) : Int)]] [some (.ro noRo)] (pureRec (.int .u64 (hPut true (((k : Nat) : Int) == 1) ((c : Nat) : Int) ((n : Nat) : Int)))), ((hMay true (((k : Nat) : Int) == 1) ((c : Nat) : Int) ((n : Nat) : Int)) == true) = true, ((hMay true (((k : Nat) : Int) == 1) ((c : Nat) : Int) ((n : Nat) : Int)) == true) = true, (hMay true (((k : Nat) : Int) == 1) ((c : Nat) : Int) ((n : Nat) : Int)) = true]) (fun _ _ => [True, True])
              (fun _ _ => by kernel_rfl) (fun _ _ => ⟨rfl, (Pure.ob (ref02_May true (((k : Nat) : Int) == 1) ((c : Nat) : Int) ((n : Nat) : Int))), (by rw [show (hMay true (((k : Nat) : Int) == 1) ((c : Nat) : Int) ((n : Nat) : Int)) = true from h18]; rfl), rfl, (by rw [show (hMay true (((k : Nat) : Int) == 1) ((c : Nat) : Int) ((n : Nat) : Int)) = true from h18]; rfl), (Pure.ob (ref02_Put true (((k : Nat) : Int) == 1) ((c : Nat) : Int) ((n : Nat) : Int) (by first | assumption | (unfold in64; omega) | (unfold inU64; omega) | (unfold inU32; omega) | (unfold inU8; omega) | omega | (simp only [in64, inU64, inU32, inU8] at *; omega)))), (by rw [show (hMay true (((k : Nat) : Int) == 1) ((c : Nat) : Int) ((n : Nat) : Int)) = true from h18]; rfl), (by rw [show (hMay true (((k : Nat) : Int) == 1) ((c : Nat) : Int) ((n : Nat) : Int)) = true from h18]; rfl), h18, trivial⟩) ?_
            intro β19 _ w19 H19 _
            refine NQ.then ?_
            rcases Bool.eq_false_or_eq_true ((hPut true (((k : Nat) : Int) == 1) ((c : Nat) : Int) ((n : Nat) : Int)) == w) with h20 | h20
            · have p20 := eq_of_beq h20
              refine CW.cond_t (o := .tmp 35) (b := ((hPut true (((k : Nat) : Int) == 1) ((c : Nat) : Int) ((n : Nat) : Int)) == w)) (x := (cAt B17 [1, 1, 0, 1, 0, 0, 1, 0, 0, 1, 0, 0, 1, 0, 0, 1, 0, 0, 1, 0, 0, 1, 1, 0])) (y := (cAt B17 [1, 1, 0, 1, 0, 0, 1, 0, 0, 1, 0, 0, 1, 0, 0, 1, 0, 0, 1, 0, 0, 1, 1, 1])) (by kernel_rfl) (by kernel_rfl) h20 ?_
              refine CW.seq (x := (cAt B17 [1, 1, 0, 1, 0, 0, 1, 0, 0, 1, 0, 0, 1, 0, 0, 1, 0, 0, 1, 0, 0, 1, 1, 0, 0])) (y := (cAt B17 [1, 1, 0, 1, 0, 0, 1, 0, 0, 1, 0, 0, 1, 0, 0, 1, 0, 0, 1, 0, 0, 1, 1, 0, 1])) (by kernel_rfl) ?_
              refine CW.region (id := 14) (d := false) H19 (by kernel_rfl) mixed 0 [(0, .key 2), (1, .key 1)] [] [0, 2, 3, 4, 5, 6, 7] [0, 1, 2] (by kernel_rfl)
                (fun β21 _ => [(0, .int .u64 w), (2, .pointer (some ⟨(β1 0), 0, none⟩)), (3, .bool true), (4, .int .i64 ((c : Nat) : Int)), (5, .int .i64 ((n : Nat) : Int)), (6, .int .i64 ((k : Nat) : Int)), (7, .pointer (some ⟨(β17 5), 0, none⟩))]) (fun β21 _ => [some (.ro noRo), some (.blk (β1 0) [.bool true, .bool (((k : Nat) : Int) == 1), .int .i64 ((c : Nat) : Int), .int .i64 ((n : Nat) : Int)] 23), some (.blk (β17 5) [.bool true, .bool (((k : Nat) : Int) == 1), .int .i64 ((c : Nat) : Int), .int .i64 ((n : Nat) : Int)] 23)]) (fun β21 _ => [(β17 5) = (β17 5), (β1 0) = (β1 0)]) (fun _ _ => [])
                (fun _ _ => by kernel_rfl) (fun _ _ => ⟨rfl, rfl, trivial⟩) ?_
              intro β21 _ w21 H21 _
              refine NQ.then ?_
              refine CW.ret (by kernel_rfl) ?_
              refine NQ.block_ret (NQ.then_ret (NQ.then_ret (NQ.block_ret (NQ.block_ret (NQ.then_ret (NQ.then_ret (NQ.block_ret (NQ.block_ret (NQ.then_ret (NQ.then_ret (NQ.block_ret (NQ.then_ret ?_))))))))))))
              refine NQ.ret H21 [.cell 2 23, .tmp 3] (by kernel_rfl) [1] [.agg #[.bool true, .bool (((k : Nat) : Int) == 1), .int .i64 ((c : Nat) : Int), .int .i64 ((n : Nat) : Int)], .bool true] [(β1 0) = (β1 0)] (by kernel_rfl) ⟨rfl, trivial⟩ ?_
              exact ⟨congrArg Ending.returned (by clear H0 H1 H2 H5 Hl6 H7 H9 Hl10 H11 H13 Hl14 H15 H17 H19 H21; obtain ⟨e1, e2, e3, e4⟩ := cand (c := c) (n := n) (k := k) (by omega) (by omega) (by omega) (by assumption) (eq_of_beq (by assumption)); simp [tupV, gOk, gC, gK, gN, e1, e2, e3, e4]), H21.below⟩
            · have p20 := ne_of_beq_false h20
              refine CW.cond_f (o := .tmp 35) (b := ((hPut true (((k : Nat) : Int) == 1) ((c : Nat) : Int) ((n : Nat) : Int)) == w)) (x := (cAt B17 [1, 1, 0, 1, 0, 0, 1, 0, 0, 1, 0, 0, 1, 0, 0, 1, 0, 0, 1, 0, 0, 1, 1, 0])) (y := (cAt B17 [1, 1, 0, 1, 0, 0, 1, 0, 0, 1, 0, 0, 1, 0, 0, 1, 0, 0, 1, 0, 0, 1, 1, 1])) (by kernel_rfl) (by kernel_rfl) h20 ?_
              refine CW.skip (by kernel_rfl) ?_
              refine NQ.block_normal (NQ.then ?_)
              refine CW.region (id := 11) (d := false) H19 (by kernel_rfl) mixed 0 [] [] [0, 2, 4, 5, 6, 7] [0, 1, 2] (by kernel_rfl)
                (fun β22 _ => [(0, .int .u64 w), (2, .pointer (some ⟨(β1 0), 0, none⟩)), (4, .int .i64 ((c : Nat) : Int)), (5, .int .i64 ((n : Nat) : Int)), (6, .int .i64 (iAdd .i64 ((k : Nat) : Int) 1)), (7, .pointer (some ⟨(β17 5), 0, none⟩))]) (fun β22 _ => [some (.ro noRo), some (.blk (β1 0) [.bool false, .bool false, .int .i64 0, .int .i64 0] 23), some (.blk (β17 5) [.bool true, .bool (((k : Nat) : Int) == 1), .int .i64 ((c : Nat) : Int), .int .i64 ((n : Nat) : Int)] 23)]) (fun β22 _ => []) (fun _ _ => [])
                (fun _ _ => by kernel_rfl) (fun _ _ => trivial) ?_
              intro β22 _ w22 H22 _
              rw [show (iAdd .i64 ((k : Nat) : Int) 1) = ((k + 1 : Nat) : Int) from inc_nat (by omega)]
              exact NQ.round (k + 1) (by kernel_rfl) ⟨H22.pick (ls := [0, 1]) rfl, ⟨by omega, fun e => step3 e (by omega) (Ik e) (by first | exact .inl (by assumption) | exact .inr (by assumption))⟩⟩ (by omega)
          · refine CW.region (id := 13) (d := false) H17 (by kernel_rfl) mixed 0 [(0, .key 2), (1, .call 0 (pureRec (.bool (hMay true (((k : Nat) : Int) == 1) ((c : Nat) : Int) ((n : Nat) : Int))))), (7, .dec false)] [(3, false), (4, false), (5, false), (6, false)] [0, 2, 4, 5, 6, 7, 35] [0, 1, 2] (by kernel_rfl)
              (fun β23 _ => [(0, .int .u64 w), (2, .pointer (some ⟨(β1 0), 0, none⟩)), (4, .int .i64 ((c : Nat) : Int)), (5, .int .i64 ((n : Nat) : Int)), (6, .int .i64 ((k : Nat) : Int)), (7, .pointer (some ⟨(β17 5), 0, none⟩)), (35, .bool false)]) (fun β23 _ => [some (.ro noRo), some (.blk (β1 0) [.bool false, .bool false, .int .i64 0, .int .i64 0] 23), some (.blk (β17 5) [.bool true, .bool (((k : Nat) : Int) == 1), .int .i64 ((c : Nat) : Int), .int .i64 ((n : Nat) : Int)] 23)]) (fun β23 _ => [(β17 5) = (β17 5), CallOb P0 13 #[.agg #[.bool true, .bool (((k : Nat) : Int) == 1), .int .i64 ((c : Nat) : Int), .int .i64 ((n : Nat) : Int)]] [some (.ro noRo)] (pureRec (.bool (hMay true (((k : Nat) : Int) == 1) ((c : Nat) : Int) ((n : Nat) : Int)))), ((hMay true (((k : Nat) : Int) == 1) ((c : Nat) : Int) ((n : Nat) : Int)) == true) = false, ((hMay true (((k : Nat) : Int) == 1) ((c : Nat) : Int) ((n : Nat) : Int)) == true) = false, ((hMay true (((k : Nat) : Int) == 1) ((c : Nat) : Int) ((n : Nat) : Int)) == true) = false, ((hMay true (((k : Nat) : Int) == 1) ((c : Nat) : Int) ((n : Nat) : Int)) == true) = false, (hMay true (((k : Nat) : Int) == 1) ((c : Nat) : Int) ((n : Nat) : Int)) = false]) (fun _ _ => [True])
              (fun _ _ => by kernel_rfl) (fun _ _ => ⟨rfl, (Pure.ob (ref02_May true (((k : Nat) : Int) == 1) ((c : Nat) : Int) ((n : Nat) : Int))), (by rw [show (hMay true (((k : Nat) : Int) == 1) ((c : Nat) : Int) ((n : Nat) : Int)) = false from h18]; rfl), (by rw [show (hMay true (((k : Nat) : Int) == 1) ((c : Nat) : Int) ((n : Nat) : Int)) = false from h18]; rfl), (by rw [show (hMay true (((k : Nat) : Int) == 1) ((c : Nat) : Int) ((n : Nat) : Int)) = false from h18]; rfl), (by rw [show (hMay true (((k : Nat) : Int) == 1) ((c : Nat) : Int) ((n : Nat) : Int)) = false from h18]; rfl), h18, trivial⟩) ?_
            intro β23 _ w23 H23 _
            refine NQ.then ?_
            refine CW.cond_f (o := .tmp 35) (b := false) (x := (cAt B17 [1, 1, 0, 1, 0, 0, 1, 0, 0, 1, 0, 0, 1, 0, 0, 1, 0, 0, 1, 0, 0, 1, 1, 0])) (y := (cAt B17 [1, 1, 0, 1, 0, 0, 1, 0, 0, 1, 0, 0, 1, 0, 0, 1, 0, 0, 1, 0, 0, 1, 1, 1])) (by kernel_rfl) (by kernel_rfl) rfl ?_
            refine CW.skip (by kernel_rfl) ?_
            refine NQ.block_normal (NQ.then ?_)
            refine CW.region (id := 11) (d := false) H23 (by kernel_rfl) mixed 0 [] [] [0, 2, 4, 5, 6, 7] [0, 1, 2] (by kernel_rfl)
              (fun β24 _ => [(0, .int .u64 w), (2, .pointer (some ⟨(β1 0), 0, none⟩)), (4, .int .i64 ((c : Nat) : Int)), (5, .int .i64 ((n : Nat) : Int)), (6, .int .i64 (iAdd .i64 ((k : Nat) : Int) 1)), (7, .pointer (some ⟨(β17 5), 0, none⟩))]) (fun β24 _ => [some (.ro noRo), some (.blk (β1 0) [.bool false, .bool false, .int .i64 0, .int .i64 0] 23), some (.blk (β17 5) [.bool true, .bool (((k : Nat) : Int) == 1), .int .i64 ((c : Nat) : Int), .int .i64 ((n : Nat) : Int)] 23)]) (fun β24 _ => []) (fun _ _ => [])
              (fun _ _ => by kernel_rfl) (fun _ _ => trivial) ?_
            intro β24 _ w24 H24 _
            rw [show (iAdd .i64 ((k : Nat) : Int) 1) = ((k + 1 : Nat) : Int) from inc_nat (by omega)]
            exact NQ.round (k + 1) (by kernel_rfl) ⟨H24.pick (ls := [0, 1]) rfl, ⟨by omega, fun e => step3 e (by omega) (Ik e) (by first | exact .inl (by assumption) | exact .inr (by assumption))⟩⟩ (by omega)
        · have p16 := of_decide_eq_false h16
          refine CW.cond_f (o := .tmp 20) (b := (decide (((k : Nat) : Int) < 2))) (x := (cAt B17 [1, 1, 0, 1, 0, 0, 1, 0, 0, 1, 0, 0, 1, 0, 0, 1, 0, 0, 0, 1, 0])) (y := (cAt B17 [1, 1, 0, 1, 0, 0, 1, 0, 0, 1, 0, 0, 1, 0, 0, 1, 0, 0, 0, 1, 1])) (by kernel_rfl) (by kernel_rfl) h16 ?_
          refine CW.exit (id := 4) (by kernel_rfl) ?_
          refine NQ.then_exit (NQ.then_exit (NQ.block_exit (NQ.block_normal (NQ.then ?_))))
          refine CW.region (id := 8) (d := false) H15 (by kernel_rfl) mixed 0 [] [] [0, 2, 4, 5, 6] [0, 1] (by kernel_rfl)
            (fun β25 _ => [(0, .int .u64 w), (2, .pointer (some ⟨(β1 0), 0, none⟩)), (4, .int .i64 ((c : Nat) : Int)), (5, .int .i64 (iAdd .i64 ((n : Nat) : Int) 1)), (6, .int .i64 ((k : Nat) : Int))]) (fun β25 _ => [some (.ro noRo), some (.blk (β1 0) [.bool false, .bool false, .int .i64 0, .int .i64 0] 23)]) (fun β25 _ => []) (fun _ _ => [])
            (fun _ _ => by kernel_rfl) (fun _ _ => trivial) ?_
          intro β25 _ w25 H25 _
          rw [show (iAdd .i64 ((n : Nat) : Int) 1) = ((n + 1 : Nat) : Int) from inc_nat (by omega)]
          exact NQ.round (n + 1) (by kernel_rfl) ⟨H25.pick (ls := [0, 1]) rfl, ⟨by omega, fun e => by have := Ik e; split at this <;> omega⟩⟩ (by omega)
      · have p12 := of_decide_eq_false h12
        refine CW.cond_f (o := .tmp 16) (b := (decide (((n : Nat) : Int) < 16))) (x := (cAt B17 [1, 1, 0, 1, 0, 0, 1, 0, 0, 1, 0, 0, 0, 1, 0])) (y := (cAt B17 [1, 1, 0, 1, 0, 0, 1, 0, 0, 1, 0, 0, 0, 1, 1])) (by kernel_rfl) (by kernel_rfl) h12 ?_
        refine CW.exit (id := 2) (by kernel_rfl) ?_
        refine NQ.then_exit (NQ.then_exit (NQ.block_exit (NQ.block_normal (NQ.then ?_))))
        refine CW.region (id := 5) (d := false) H11 (by kernel_rfl) mixed 0 [] [] [0, 2, 4, 5] [0, 1] (by kernel_rfl)
          (fun β26 _ => [(0, .int .u64 w), (2, .pointer (some ⟨(β1 0), 0, none⟩)), (4, .int .i64 (iAdd .i64 ((c : Nat) : Int) 1)), (5, .int .i64 ((n : Nat) : Int))]) (fun β26 _ => [some (.ro noRo), some (.blk (β1 0) [.bool false, .bool false, .int .i64 0, .int .i64 0] 23)]) (fun β26 _ => []) (fun _ _ => [])
          (fun _ _ => by kernel_rfl) (fun _ _ => trivial) ?_
        intro β26 _ w26 H26 _
        rw [show (iAdd .i64 ((c : Nat) : Int) 1) = ((c + 1 : Nat) : Int) from inc_nat (by omega)]
        exact NQ.round (c + 1) (by kernel_rfl) ⟨H26.pick (ls := [0, 1]) rfl, ⟨by omega, fun e => by have := Inn e; omega⟩⟩ (by omega)
    · have p8 := of_decide_eq_false h8
      refine CW.cond_f (o := .tmp 12) (b := (decide (((c : Nat) : Int) < 4))) (x := (cAt B17 [1, 1, 0, 1, 0, 0, 0, 1, 0])) (y := (cAt B17 [1, 1, 0, 1, 0, 0, 0, 1, 1])) (by kernel_rfl) (by kernel_rfl) h8 ?_
      refine CW.exit (id := 0) (by kernel_rfl) ?_
      refine NQ.then_exit (NQ.then_exit (NQ.block_exit (NQ.then ?_)))
      refine CW.seq (x := (cAt B17 [1, 1, 1, 0])) (y := (cAt B17 [1, 1, 1, 1])) (by kernel_rfl) ?_
      refine CW.region (id := 15) (d := false) H7 (by kernel_rfl) mixed 0 [(1, .key 1)] [] [0, 2, 3, 4] [0, 1] (by kernel_rfl)
        (fun β27 _ => [(0, .int .u64 w), (2, .pointer (some ⟨(β1 0), 0, none⟩)), (3, .bool false), (4, .int .i64 ((c : Nat) : Int))]) (fun β27 _ => [some (.ro noRo), some (.blk (β1 0) [.bool false, .bool false, .int .i64 0, .int .i64 0] 23)]) (fun β27 _ => [(β1 0) = (β1 0)]) (fun _ _ => [])
        (fun _ _ => by kernel_rfl) (fun _ _ => ⟨rfl, trivial⟩) ?_
      intro β27 _ w27 H27 _
      refine NQ.then ?_
      refine CW.ret (by kernel_rfl) ?_
      refine NQ.ret H27 [.cell 2 23, .tmp 3] (by kernel_rfl) [1] [.agg #[.bool false, .bool false, .int .i64 0, .int .i64 0], .bool false] [(β1 0) = (β1 0)] (by kernel_rfl) ⟨rfl, trivial⟩ ?_
      exact ⟨congrArg Ending.returned (by clear H0 H1 H2 H5 Hl6 H7 H27; first | (have hz : w = 0 := (by assumption); subst hz; rfl) | (have hv : gV w = false := (by cases e : gV w with | false => rfl | true => (exfalso; have := Ic e; omega)); have hz : (w == 0) = false := (by assumption); simp [tupV, gOk, gC, gK, gN, hv, hz])), H27.below⟩
end Go.Proofs.Ytnpbnkfmajokfaa.Fl
