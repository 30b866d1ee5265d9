/- The laws of flotsamlaw01. Conditions: the arguments are of their kinds. -/
import Derived.Test.YtnpbnkfmajokfaaWord
set_option linter.unusedVariables false
set_option linter.unusedSimpArgs false
namespace Go.Proofs.Ytnpbnkfmajokfaa.Fl
open Go.RowKit
theorem law01_awake  : Pure noRo P0 18 #[] (.bool true) := by
  intro w0 hG
  have H0 := Own.begin hG
  refine enter (fn := F18) (c := B18) (n := 52) [] (by kernel_rfl) (by kernel_rfl) (by kernel_rfl) (by kernel_rfl) (by kernel_rfl) ?_
  refine CW.seq (x := (cAt B18 [0])) (y := (cAt B18 [1])) (by kernel_rfl) ?_
  refine CW.region (id := 0) (d := false) H0 (by kernel_rfl) mixed 0 [] [] [0] [0] (by kernel_rfl)
    (fun β1 _ => [(0, .bool false)]) (fun β1 _ => [some (.ro noRo)]) (fun β1 _ => []) (fun _ _ => [])
    (fun _ _ => by kernel_rfl) (fun _ _ => trivial) ?_
  intro β1 _ w1 H1 _
  refine NQ.then ?_
  refine CW.seq (x := (cAt B18 [1, 0])) (y := (cAt B18 [1, 1])) (by kernel_rfl) ?_
  refine CW.region (id := 1) (d := false) H1 (by kernel_rfl) mixed 0 [(1, .call 0 (pureRec (.tuple #[.int .u64 11, .bool true])))] [] [0, 1, 2] [0] (by kernel_rfl)
    (fun β2 _ => [(0, .bool false), (1, .int .u64 11), (2, .bool true)]) (fun β2 _ => [some (.ro noRo)]) (fun β2 _ => [CallOb P0 19 #[.agg #[.int .i64 1, .int .i64 5]] [some (.ro noRo)] (pureRec (.tuple #[.int .u64 11, .bool true]))]) (fun _ _ => [True])
    (fun _ _ => by kernel_rfl) (fun _ _ => ⟨(Pure.ob (word_Put 1 5 (by first | assumption | (unfold in64; omega) | (unfold inU64; omega) | (unfold inU32; omega) | (unfold inU8; omega) | omega | (simp only [in64, inU64, inU32, inU8] at *; omega)))), trivial⟩) ?_
  intro β2 _ w2 H2 _
  refine NQ.then ?_
  refine CW.seq (x := (cAt B18 [1, 1, 0])) (y := (cAt B18 [1, 1, 1])) (by kernel_rfl) ?_
  refine CW.region (id := 2) (d := false) H2 (by kernel_rfl) mixed 0 [(1, .call 0 (pureRec (.tuple #[.int .u64 2, .bool true])))] [] [0, 1, 2, 3, 4] [0] (by kernel_rfl)
    (fun β3 _ => [(0, .bool false), (1, .int .u64 11), (2, .bool true), (3, .int .u64 2), (4, .bool true)]) (fun β3 _ => [some (.ro noRo)]) (fun β3 _ => [CallOb P0 19 #[.agg #[.int .i64 2, .int .i64 0]] [some (.ro noRo)] (pureRec (.tuple #[.int .u64 2, .bool true]))]) (fun _ _ => [True])
    (fun _ _ => by kernel_rfl) (fun _ _ => ⟨(Pure.ob (word_Put 2 0 (by first | assumption | (unfold in64; omega) | (unfold inU64; omega) | (unfold inU32; omega) | (unfold inU8; omega) | omega | (simp only [in64, inU64, inU32, inU8] at *; omega)))), trivial⟩) ?_
  intro β3 _ w3 H3 _
  refine NQ.then ?_
  refine CW.seq (x := (cAt B18 [1, 1, 1, 0])) (y := (cAt B18 [1, 1, 1, 1])) (by kernel_rfl) ?_
  refine CW.region (id := 3) (d := false) H3 (by kernel_rfl) mixed 0 [(1, .call 0 (pureRec (.tuple #[.int .u64 0, .bool false])))] [] [0, 1, 2, 3, 4, 6] [0] (by kernel_rfl)
    (fun β4 _ => [(0, .bool false), (1, .int .u64 11), (2, .bool true), (3, .int .u64 2), (4, .bool true), (6, .bool false)]) (fun β4 _ => [some (.ro noRo)]) (fun β4 _ => [CallOb P0 19 #[.agg #[.int .i64 1, .int .i64 (-1)]] [some (.ro noRo)] (pureRec (.tuple #[.int .u64 0, .bool false]))]) (fun _ _ => [True])
    (fun _ _ => by kernel_rfl) (fun _ _ => ⟨(Pure.ob (word_Put 1 (-1) (by first | assumption | (unfold in64; omega) | (unfold inU64; omega) | (unfold inU32; omega) | (unfold inU8; omega) | omega | (simp only [in64, inU64, inU32, inU8] at *; omega)))), trivial⟩) ?_
  intro β4 _ w4 H4 _
  refine NQ.then ?_
  refine CW.seq (x := (cAt B18 [1, 1, 1, 1, 0])) (y := (cAt B18 [1, 1, 1, 1, 1])) (by kernel_rfl) ?_
  refine CW.region (id := 4) (d := false) H4 (by kernel_rfl) mixed 0 [(17, .call 0 (pureRec (.agg #[.int .i64 2, .int .i64 1]))), (23, .call 0 (pureRec (.bool true))), (27, .call 0 (pureRec (.bool false)))] [] [0] [0] (by kernel_rfl)
    (fun β5 _ => [(0, .bool true)]) (fun β5 _ => [some (.ro noRo)]) (fun β5 _ => [CallOb P0 23 #[.int .u64 4] [some (.ro noRo)] (pureRec (.agg #[.int .i64 2, .int .i64 1])), CallOb P0 21 #[.agg #[.int .i64 0, .int .i64 0]] [some (.ro noRo)] (pureRec (.bool true)), CallOb P0 21 #[.agg #[.int .i64 0, .int .i64 1]] [some (.ro noRo)] (pureRec (.bool false))]) (fun _ _ => [True, True, True])
    (fun _ _ => by kernel_rfl) (fun _ _ => ⟨(Pure.ob (word_Get 4 (by first | assumption | (unfold in64; omega) | (unfold inU64; omega) | (unfold inU32; omega) | (unfold inU8; omega) | omega | (simp only [in64, inU64, inU32, inU8] at *; omega)))), (Pure.ob (word_May 0 0 )), (Pure.ob (word_May 0 1 )), trivial⟩) ?_
  intro β5 _ w5 H5 _
  refine NQ.then ?_
  refine CW.ret (by kernel_rfl) ?_
  refine NQ.ret H5 [.tmp 0] (by kernel_rfl) [] [.bool true] [] (by kernel_rfl) trivial ?_
  exact ⟨congrArg Ending.returned (by clear H0 H1 H2 H3 H4 H5; first | (simp_all [tupV, eq_self]; done) | (simp_all [tupV, eq_self] <;> omega)), H5.below⟩

theorem law_WordPuts (k : Int) (n : Int) (hn : in64 n) : Pure noRo P0 7 #[.agg #[.int .i64 k, .int .i64 n]] (.bool true) := by
  intro w0 hG
  have H0 := Own.begin hG
  refine enter (fn := F7) (c := B7) (n := 37) [(0, .agg #[.int .i64 k, .int .i64 n])] (by kernel_rfl) (by kernel_rfl) (by kernel_rfl) (by kernel_rfl) (by kernel_rfl) ?_
  refine CW.seq (x := (cAt B7 [0])) (y := (cAt B7 [1])) (by kernel_rfl) ?_
  refine CW.region (id := 0) (d := false) H0 (by kernel_rfl) mixed 1 [(0, .key 1)] [] [1, 2] [0, 1] (by kernel_rfl)
    (fun β1 _ => [(1, .pointer (some ⟨(β1 0), 0, none⟩)), (2, .bool false)]) (fun β1 _ => [some (.ro noRo), some (.blk (β1 0) [.int .i64 k, .int .i64 n] 35)]) (fun β1 _ => []) (fun _ _ => [])
    (fun _ _ => by kernel_rfl) (fun _ _ => trivial) ?_
  intro β1 _ w1 H1 _
  refine NQ.then ?_
  refine CW.seq (x := (cAt B7 [1, 0])) (y := (cAt B7 [1, 1])) (by kernel_rfl) ?_
  refine CW.seq (x := (cAt B7 [1, 0, 0])) (y := (cAt B7 [1, 0, 1])) (by kernel_rfl) ?_
  refine CW.region (id := 1) (d := false) H1 (by kernel_rfl) mixed 0 [(0, .call 0 (pureRec (.bool true)))] [] [1, 2, 6] [0, 1] (by kernel_rfl)
    (fun β2 _ => [(1, .pointer (some ⟨(β1 0), 0, none⟩)), (2, .bool false), (6, .bool false)]) (fun β2 _ => [some (.ro noRo), some (.blk (β1 0) [.int .i64 k, .int .i64 n] 35)]) (fun β2 _ => [CallOb P0 18 #[] [some (.ro noRo)] (pureRec (.bool true))]) (fun _ _ => [True])
    (fun _ _ => by kernel_rfl) (fun _ _ => ⟨(Pure.ob (law01_awake  )), trivial⟩) ?_
  intro β2 _ w2 H2 _
  refine NQ.then ?_
  refine CW.cond_f (o := .tmp 6) (b := false) (x := (cAt B7 [1, 0, 1, 0])) (y := (cAt B7 [1, 0, 1, 1])) (by kernel_rfl) (by kernel_rfl) rfl ?_
  refine CW.skip (by kernel_rfl) ?_
  refine NQ.then ?_
  refine CW.seq (x := (cAt B7 [1, 1, 0])) (y := (cAt B7 [1, 1, 1])) (by kernel_rfl) ?_
  refine CW.region (id := 3) (d := false) H2 (by kernel_rfl) mixed 0 [(0, .key 1), (1, .call 0 (pureRec (.tuple #[.int .u64 (wPut k n), .bool (wMay k n)])))] [] [1, 2, 3, 4] [0, 1] (by kernel_rfl)
    (fun β3 _ => [(1, .pointer (some ⟨(β1 0), 0, none⟩)), (2, .bool false), (3, .int .u64 (wPut k n)), (4, .bool (wMay k n))]) (fun β3 _ => [some (.ro noRo), some (.blk (β1 0) [.int .i64 k, .int .i64 n] 35)]) (fun β3 _ => [(β1 0) = (β1 0), CallOb P0 19 #[.agg #[.int .i64 k, .int .i64 n]] [some (.ro noRo)] (pureRec (.tuple #[.int .u64 (wPut k n), .bool (wMay k n)]))]) (fun _ _ => [True])
    (fun _ _ => by kernel_rfl) (fun _ _ => ⟨rfl, (Pure.ob (word_Put k n (by first | assumption | exact put_u64 (by assumption) | exact getN_64 (by assumption) | (unfold in64; omega) | (unfold inU64; omega) | (unfold inU32; omega) | (unfold inU8; omega) | omega | (simp only [in64, inU64, inU32, inU8] at *; omega)))), trivial⟩) ?_
  intro β3 _ w3 H3 _
  refine NQ.then ?_
  refine CW.seq (x := (cAt B7 [1, 1, 1, 0])) (y := (cAt B7 [1, 1, 1, 1])) (by kernel_rfl) ?_
  refine CW.seq (x := (cAt B7 [1, 1, 1, 0, 0])) (y := (cAt B7 [1, 1, 1, 0, 1])) (by kernel_rfl) ?_
  refine CW.region (id := 4) (d := false) H3 (by kernel_rfl) mixed 0 [(0, .key 1), (1, .call 0 (pureRec (.bool (wMay k n))))] [] [1, 2, 3, 4, 14] [0, 1] (by kernel_rfl)
    (fun β4 _ => [(1, .pointer (some ⟨(β1 0), 0, none⟩)), (2, .bool false), (3, .int .u64 (wPut k n)), (4, .bool (wMay k n)), (14, .bool (!(wMay k n)))]) (fun β4 _ => [some (.ro noRo), some (.blk (β1 0) [.int .i64 k, .int .i64 n] 35)]) (fun β4 _ => [(β1 0) = (β1 0), CallOb P0 20 #[.agg #[.int .i64 k, .int .i64 n]] [some (.ro noRo)] (pureRec (.bool (wMay k n)))]) (fun _ _ => [True])
    (fun _ _ => by kernel_rfl) (fun _ _ => ⟨rfl, (Pure.ob (ref01_May k n )), trivial⟩) ?_
  intro β4 _ w4 H4 _
  refine NQ.then ?_
  rcases Bool.eq_false_or_eq_true (wMay k n) with h5 | h5
  · refine CW.cond_f (o := .tmp 14) (b := (!(wMay k n))) (x := (cAt B7 [1, 1, 1, 0, 1, 0])) (y := (cAt B7 [1, 1, 1, 0, 1, 1])) (by kernel_rfl) (by kernel_rfl) (by rw [show (wMay k n) = true from h5]; rfl) ?_
    refine CW.skip (by kernel_rfl) ?_
    refine NQ.then ?_
    refine CW.seq (x := (cAt B7 [1, 1, 1, 1, 0])) (y := (cAt B7 [1, 1, 1, 1, 1])) (by kernel_rfl) ?_
    refine CW.region (id := 6) (d := false) H4 (by kernel_rfl) mixed 0 [(0, .key 1), (1, .call 0 (pureRec (.bool (wMay k n)))), (4, .dec true), (7, .key 1), (8, .call 0 (pureRec (.int .u64 (wPut k n)))), (10, .dec true)] [(3, true), (6, true), (7, true), (8, true), (9, true)] [1, 2, 3, 4] [0, 1] (by kernel_rfl)
      (fun β6 _ => [(1, .pointer (some ⟨(β1 0), 0, none⟩)), (2, .bool ((wPut k n) == (wPut k n))), (3, .int .u64 (wPut k n)), (4, .bool (wMay k n))]) (fun β6 _ => [some (.ro noRo), some (.blk (β1 0) [.int .i64 k, .int .i64 n] 35)]) (fun β6 _ => [(β1 0) = (β1 0), CallOb P0 21 #[.agg #[.int .i64 k, .int .i64 n]] [some (.ro noRo)] (pureRec (.bool (wMay k n))), ((wMay k n) == true) = true, (wMay k n) = true, ((wMay k n) == true) = true, ((wMay k n) == true) = true, (β1 0) = (β1 0), ((wMay k n) == true) = true, CallOb P0 22 #[.agg #[.int .i64 k, .int .i64 n]] [some (.ro noRo)] (pureRec (.int .u64 (wPut k n))), ((wMay k n) == true) = true, (wMay k n) = true]) (fun _ _ => [True, True])
      (fun _ _ => by kernel_rfl) (fun _ _ => ⟨rfl, (Pure.ob (word_May k n )), (by rw [show (wMay k n) = true from h5]; rfl), h5, (by rw [show (wMay k n) = true from h5]; rfl), (by rw [show (wMay k n) = true from h5]; rfl), rfl, (by rw [show (wMay k n) = true from h5]; rfl), (Pure.ob (ref01_Put k n (by first | assumption | exact put_u64 (by assumption) | exact getN_64 (by assumption) | (unfold in64; omega) | (unfold inU64; omega) | (unfold inU32; omega) | (unfold inU8; omega) | omega | (simp only [in64, inU64, inU32, inU8] at *; omega)) (by first | assumption | exact put_u64 (by assumption) | exact getN_64 (by assumption) | (unfold in64; omega) | (unfold inU64; omega) | (unfold inU32; omega) | (unfold inU8; omega) | omega | (simp only [in64, inU64, inU32, inU8] at *; omega)))), (by rw [show (wMay k n) = true from h5]; rfl), h5, trivial⟩) ?_
    intro β6 _ w6 H6 _
    refine NQ.then ?_
    refine CW.ret (by kernel_rfl) ?_
    refine NQ.ret H6 [.tmp 2] (by kernel_rfl) [] [.bool ((wPut k n) == (wPut k n))] [] (by kernel_rfl) trivial ?_
    exact ⟨congrArg Ending.returned (by clear H0 H1 H2 H3 H4 H6; first | (simp_all [tupV, wPut]; done) | (simp_all [tupV, wPut] <;> omega)), H6.below⟩
  · refine CW.cond_t (o := .tmp 14) (b := (!(wMay k n))) (x := (cAt B7 [1, 1, 1, 0, 1, 0])) (y := (cAt B7 [1, 1, 1, 0, 1, 1])) (by kernel_rfl) (by kernel_rfl) (by rw [show (wMay k n) = false from h5]; rfl) ?_
    refine CW.seq (x := (cAt B7 [1, 1, 1, 0, 1, 0, 0])) (y := (cAt B7 [1, 1, 1, 0, 1, 0, 1])) (by kernel_rfl) ?_
    refine CW.region (id := 5) (d := false) H4 (by kernel_rfl) mixed 0 [(0, .key 1), (1, .call 0 (pureRec (.bool (wMay k n)))), (6, .dec true), (10, .dec true)] [(4, true), (5, true), (8, true), (9, true)] [1, 2, 3, 4] [0, 1] (by kernel_rfl)
      (fun β7 _ => [(1, .pointer (some ⟨(β1 0), 0, none⟩)), (2, .bool ((wPut k n) == 0)), (3, .int .u64 (wPut k n)), (4, .bool (wMay k n))]) (fun β7 _ => [some (.ro noRo), some (.blk (β1 0) [.int .i64 k, .int .i64 n] 35)]) (fun β7 _ => [(β1 0) = (β1 0), CallOb P0 21 #[.agg #[.int .i64 k, .int .i64 n]] [some (.ro noRo)] (pureRec (.bool (wMay k n))), ((!(wMay k n)) == true) = true, ((!(wMay k n)) == true) = true, (!(wMay k n)) = true, ((!(wMay k n)) == true) = true, ((!(wMay k n)) == true) = true, (!(wMay k n)) = true]) (fun _ _ => [True])
      (fun _ _ => by kernel_rfl) (fun _ _ => ⟨rfl, (Pure.ob (word_May k n )), (by rw [show (!(wMay k n)) = true from (by rw [show (wMay k n) = false from h5]; rfl)]; rfl), (by rw [show (!(wMay k n)) = true from (by rw [show (wMay k n) = false from h5]; rfl)]; rfl), (by rw [show (wMay k n) = false from h5]; rfl), (by rw [show (!(wMay k n)) = true from (by rw [show (wMay k n) = false from h5]; rfl)]; rfl), (by rw [show (!(wMay k n)) = true from (by rw [show (wMay k n) = false from h5]; rfl)]; rfl), (by rw [show (wMay k n) = false from h5]; rfl), trivial⟩) ?_
    intro β7 _ w7 H7 _
    refine NQ.then ?_
    refine CW.ret (by kernel_rfl) ?_
    refine NQ.then_ret ?_
    refine NQ.ret H7 [.tmp 2] (by kernel_rfl) [] [.bool ((wPut k n) == 0)] [] (by kernel_rfl) trivial ?_
    exact ⟨congrArg Ending.returned (by clear H0 H1 H2 H3 H4 H7; first | (simp_all [tupV, wPut]; done) | (simp_all [tupV, wPut] <;> omega)), H7.below⟩

theorem law_WordGets (w : Int) (hw : inU64 w) : Pure noRo P0 8 #[.int .u64 w] (.bool true) := by
  intro w0 hG
  have H0 := Own.begin hG
  refine enter (fn := F8) (c := B8) (n := 11) [(0, .int .u64 w)] (by kernel_rfl) (by kernel_rfl) (by kernel_rfl) (by kernel_rfl) (by kernel_rfl) ?_
  refine CW.seq (x := (cAt B8 [0])) (y := (cAt B8 [1])) (by kernel_rfl) ?_
  refine CW.region (id := 0) (d := false) H0 (by kernel_rfl) mixed 0 [] [] [0, 2] [0] (by kernel_rfl)
    (fun β1 _ => [(0, .int .u64 w), (2, .bool false)]) (fun β1 _ => [some (.ro noRo)]) (fun β1 _ => []) (fun _ _ => [])
    (fun _ _ => by kernel_rfl) (fun _ _ => trivial) ?_
  intro β1 _ w1 H1 _
  refine NQ.then ?_
  refine CW.seq (x := (cAt B8 [1, 0])) (y := (cAt B8 [1, 1])) (by kernel_rfl) ?_
  refine CW.region (id := 1) (d := false) H1 (by kernel_rfl) mixed 0 [(0, .call 0 (pureRec (.bool true))), (3, .call 0 (pureRec (.agg #[.int .i64 (wGetK w), .int .i64 (wGetN w)]))), (5, .call 0 (pureRec (.agg #[.int .i64 (wGetK w), .int .i64 (wGetN w)])))] [] [2] [0] (by kernel_rfl)
    (fun β2 _ => [(2, .bool (((wGetK w) == (wGetK w)) && (((wGetN w) == (wGetN w)) && true)))]) (fun β2 _ => [some (.ro noRo)]) (fun β2 _ => [CallOb P0 18 #[] [some (.ro noRo)] (pureRec (.bool true)), CallOb P0 23 #[.int .u64 w] [some (.ro noRo)] (pureRec (.agg #[.int .i64 (wGetK w), .int .i64 (wGetN w)])), CallOb P0 24 #[.int .u64 w] [some (.ro noRo)] (pureRec (.agg #[.int .i64 (wGetK w), .int .i64 (wGetN w)]))]) (fun _ _ => [True, True, True])
    (fun _ _ => by kernel_rfl) (fun _ _ => ⟨(Pure.ob (law01_awake  )), (Pure.ob (word_Get w (by first | assumption | exact put_u64 (by assumption) | exact getN_64 (by assumption) | (unfold in64; omega) | (unfold inU64; omega) | (unfold inU32; omega) | (unfold inU8; omega) | omega | (simp only [in64, inU64, inU32, inU8] at *; omega)))), (Pure.ob (ref01_Get w (by first | assumption | exact put_u64 (by assumption) | exact getN_64 (by assumption) | (unfold in64; omega) | (unfold inU64; omega) | (unfold inU32; omega) | (unfold inU8; omega) | omega | (simp only [in64, inU64, inU32, inU8] at *; omega)))), trivial⟩) ?_
  intro β2 _ w2 H2 _
  refine NQ.then ?_
  refine CW.ret (by kernel_rfl) ?_
  refine NQ.ret H2 [.tmp 2] (by kernel_rfl) [] [.bool (((wGetK w) == (wGetK w)) && (((wGetN w) == (wGetN w)) && true))] [] (by kernel_rfl) trivial ?_
  exact ⟨congrArg Ending.returned (by clear H0 H1 H2; first | (simp_all [tupV, eq_self]; done) | (simp_all [tupV, eq_self] <;> omega)), H2.below⟩

theorem law_WordBack (w : Int) (k1 : Int) (n1 : Int) (k2 : Int) (n2 : Int) (hw : inU64 w) (hn1 : in64 n1) (hn2 : in64 n2) : Pure noRo P0 9 #[.int .u64 w, .agg #[.int .i64 k1, .int .i64 n1], .agg #[.int .i64 k2, .int .i64 n2]] (.bool true) := by
  intro w0 hG
  have H0 := Own.begin hG
  refine enter (fn := F9) (c := B9) (n := 70) [(0, .int .u64 w), (1, .agg #[.int .i64 k1, .int .i64 n1]), (2, .agg #[.int .i64 k2, .int .i64 n2])] (by kernel_rfl) (by kernel_rfl) (by kernel_rfl) (by kernel_rfl) (by kernel_rfl) ?_
  refine CW.seq (x := (cAt B9 [0])) (y := (cAt B9 [1])) (by kernel_rfl) ?_
  refine CW.region (id := 0) (d := false) H0 (by kernel_rfl) mixed 2 [(0, .key 1), (1, .key 2)] [] [0, 4, 5, 6] [0, 1, 2] (by kernel_rfl)
    (fun β1 _ => [(0, .int .u64 w), (4, .pointer (some ⟨(β1 0), 0, none⟩)), (5, .pointer (some ⟨(β1 1), 0, none⟩)), (6, .bool false)]) (fun β1 _ => [some (.ro noRo), some (.blk (β1 0) [.int .i64 k1, .int .i64 n1] 35), some (.blk (β1 1) [.int .i64 k2, .int .i64 n2] 35)]) (fun β1 _ => []) (fun _ _ => [])
    (fun _ _ => by kernel_rfl) (fun _ _ => trivial) ?_
  intro β1 _ w1 H1 _
  refine NQ.then ?_
  refine CW.seq (x := (cAt B9 [1, 0])) (y := (cAt B9 [1, 1])) (by kernel_rfl) ?_
  refine CW.seq (x := (cAt B9 [1, 0, 0])) (y := (cAt B9 [1, 0, 1])) (by kernel_rfl) ?_
  refine CW.region (id := 1) (d := false) H1 (by kernel_rfl) mixed 0 [(0, .call 0 (pureRec (.bool true)))] [] [0, 4, 5, 6, 15] [0, 1, 2] (by kernel_rfl)
    (fun β2 _ => [(0, .int .u64 w), (4, .pointer (some ⟨(β1 0), 0, none⟩)), (5, .pointer (some ⟨(β1 1), 0, none⟩)), (6, .bool false), (15, .bool false)]) (fun β2 _ => [some (.ro noRo), some (.blk (β1 0) [.int .i64 k1, .int .i64 n1] 35), some (.blk (β1 1) [.int .i64 k2, .int .i64 n2] 35)]) (fun β2 _ => [CallOb P0 18 #[] [some (.ro noRo)] (pureRec (.bool true))]) (fun _ _ => [True])
    (fun _ _ => by kernel_rfl) (fun _ _ => ⟨(Pure.ob (law01_awake  )), trivial⟩) ?_
  intro β2 _ w2 H2 _
  refine NQ.then ?_
  refine CW.cond_f (o := .tmp 15) (b := false) (x := (cAt B9 [1, 0, 1, 0])) (y := (cAt B9 [1, 0, 1, 1])) (by kernel_rfl) (by kernel_rfl) rfl ?_
  refine CW.skip (by kernel_rfl) ?_
  refine NQ.then ?_
  refine CW.seq (x := (cAt B9 [1, 1, 0])) (y := (cAt B9 [1, 1, 1])) (by kernel_rfl) ?_
  refine CW.region (id := 3) (d := false) H2 (by kernel_rfl) mixed 1 [(1, .call 0 (pureRec (.agg #[.int .i64 (wGetK w), .int .i64 (wGetN w)]))), (2, .key 3), (3, .key 3)] [] [0, 4, 5, 6, 7] [0, 1, 2, 3] (by kernel_rfl)
    (fun β3 _ => [(0, .int .u64 w), (4, .pointer (some ⟨(β1 0), 0, none⟩)), (5, .pointer (some ⟨(β1 1), 0, none⟩)), (6, .bool false), (7, .pointer (some ⟨(β3 2), 0, none⟩))]) (fun β3 _ => [some (.ro noRo), some (.blk (β1 0) [.int .i64 k1, .int .i64 n1] 35), some (.blk (β1 1) [.int .i64 k2, .int .i64 n2] 35), some (.blk (β3 2) [.int .i64 (wGetK w), .int .i64 (wGetN w)] 35)]) (fun β3 _ => [CallOb P0 23 #[.int .u64 w] [some (.ro noRo)] (pureRec (.agg #[.int .i64 (wGetK w), .int .i64 (wGetN w)])), (β3 2) = (β3 2)]) (fun _ _ => [True])
    (fun _ _ => by kernel_rfl) (fun _ _ => ⟨(Pure.ob (word_Get w (by first | assumption | exact put_u64 (by assumption) | exact getN_64 (by assumption) | (unfold in64; omega) | (unfold inU64; omega) | (unfold inU32; omega) | (unfold inU8; omega) | omega | (simp only [in64, inU64, inU32, inU8] at *; omega)))), rfl, trivial⟩) ?_
  intro β3 _ w3 H3 _
  refine NQ.then ?_
  refine CW.seq (x := (cAt B9 [1, 1, 1, 0])) (y := (cAt B9 [1, 1, 1, 1])) (by kernel_rfl) ?_
  refine CW.region (id := 4) (d := false) H3 (by kernel_rfl) mixed 0 [(0, .key 3), (1, .call 0 (pureRec (.tuple #[.int .u64 (wPut (wGetK w) (wGetN w)), .bool (wMay (wGetK w) (wGetN w))])))] [] [0, 4, 5, 6, 7, 8, 9] [0, 1, 2, 3] (by kernel_rfl)
    (fun β4 _ => [(0, .int .u64 w), (4, .pointer (some ⟨(β1 0), 0, none⟩)), (5, .pointer (some ⟨(β1 1), 0, none⟩)), (6, .bool false), (7, .pointer (some ⟨(β3 2), 0, none⟩)), (8, .int .u64 (wPut (wGetK w) (wGetN w))), (9, .bool (wMay (wGetK w) (wGetN w)))]) (fun β4 _ => [some (.ro noRo), some (.blk (β1 0) [.int .i64 k1, .int .i64 n1] 35), some (.blk (β1 1) [.int .i64 k2, .int .i64 n2] 35), some (.blk (β3 2) [.int .i64 (wGetK w), .int .i64 (wGetN w)] 35)]) (fun β4 _ => [(β3 2) = (β3 2), CallOb P0 19 #[.agg #[.int .i64 (wGetK w), .int .i64 (wGetN w)]] [some (.ro noRo)] (pureRec (.tuple #[.int .u64 (wPut (wGetK w) (wGetN w)), .bool (wMay (wGetK w) (wGetN w))]))]) (fun _ _ => [True])
    (fun _ _ => by kernel_rfl) (fun _ _ => ⟨rfl, (Pure.ob (word_Put (wGetK w) (wGetN w) (by first | assumption | exact put_u64 (by assumption) | exact getN_64 (by assumption) | (unfold in64; omega) | (unfold inU64; omega) | (unfold inU32; omega) | (unfold inU8; omega) | omega | (simp only [in64, inU64, inU32, inU8] at *; omega)))), trivial⟩) ?_
  intro β4 _ w4 H4 _
  refine NQ.then ?_
  refine CW.seq (x := (cAt B9 [1, 1, 1, 1, 0])) (y := (cAt B9 [1, 1, 1, 1, 1])) (by kernel_rfl) ?_
  refine CW.region (id := 5) (d := false) H4 (by kernel_rfl) mixed 0 [(0, .key 1), (1, .call 0 (pureRec (.tuple #[.int .u64 (wPut k1 n1), .bool (wMay k1 n1)])))] [] [0, 4, 5, 6, 7, 8, 9, 10, 11] [0, 1, 2, 3] (by kernel_rfl)
    (fun β5 _ => [(0, .int .u64 w), (4, .pointer (some ⟨(β1 0), 0, none⟩)), (5, .pointer (some ⟨(β1 1), 0, none⟩)), (6, .bool false), (7, .pointer (some ⟨(β3 2), 0, none⟩)), (8, .int .u64 (wPut (wGetK w) (wGetN w))), (9, .bool (wMay (wGetK w) (wGetN w))), (10, .int .u64 (wPut k1 n1)), (11, .bool (wMay k1 n1))]) (fun β5 _ => [some (.ro noRo), some (.blk (β1 0) [.int .i64 k1, .int .i64 n1] 35), some (.blk (β1 1) [.int .i64 k2, .int .i64 n2] 35), some (.blk (β3 2) [.int .i64 (wGetK w), .int .i64 (wGetN w)] 35)]) (fun β5 _ => [(β1 0) = (β1 0), CallOb P0 19 #[.agg #[.int .i64 k1, .int .i64 n1]] [some (.ro noRo)] (pureRec (.tuple #[.int .u64 (wPut k1 n1), .bool (wMay k1 n1)]))]) (fun _ _ => [True])
    (fun _ _ => by kernel_rfl) (fun _ _ => ⟨rfl, (Pure.ob (word_Put k1 n1 (by first | assumption | exact put_u64 (by assumption) | exact getN_64 (by assumption) | (unfold in64; omega) | (unfold inU64; omega) | (unfold inU32; omega) | (unfold inU8; omega) | omega | (simp only [in64, inU64, inU32, inU8] at *; omega)))), trivial⟩) ?_
  intro β5 _ w5 H5 _
  refine NQ.then ?_
  refine CW.seq (x := (cAt B9 [1, 1, 1, 1, 1, 0])) (y := (cAt B9 [1, 1, 1, 1, 1, 1])) (by kernel_rfl) ?_
  refine CW.region (id := 6) (d := false) H5 (by kernel_rfl) mixed 0 [(0, .key 2), (1, .call 0 (pureRec (.tuple #[.int .u64 (wPut k2 n2), .bool (wMay k2 n2)])))] [] [0, 4, 5, 6, 7, 8, 9, 10, 11, 12, 13] [0, 1, 2, 3] (by kernel_rfl)
    (fun β6 _ => [(0, .int .u64 w), (4, .pointer (some ⟨(β1 0), 0, none⟩)), (5, .pointer (some ⟨(β1 1), 0, none⟩)), (6, .bool false), (7, .pointer (some ⟨(β3 2), 0, none⟩)), (8, .int .u64 (wPut (wGetK w) (wGetN w))), (9, .bool (wMay (wGetK w) (wGetN w))), (10, .int .u64 (wPut k1 n1)), (11, .bool (wMay k1 n1)), (12, .int .u64 (wPut k2 n2)), (13, .bool (wMay k2 n2))]) (fun β6 _ => [some (.ro noRo), some (.blk (β1 0) [.int .i64 k1, .int .i64 n1] 35), some (.blk (β1 1) [.int .i64 k2, .int .i64 n2] 35), some (.blk (β3 2) [.int .i64 (wGetK w), .int .i64 (wGetN w)] 35)]) (fun β6 _ => [(β1 1) = (β1 1), CallOb P0 19 #[.agg #[.int .i64 k2, .int .i64 n2]] [some (.ro noRo)] (pureRec (.tuple #[.int .u64 (wPut k2 n2), .bool (wMay k2 n2)]))]) (fun _ _ => [True])
    (fun _ _ => by kernel_rfl) (fun _ _ => ⟨rfl, (Pure.ob (word_Put k2 n2 (by first | assumption | exact put_u64 (by assumption) | exact getN_64 (by assumption) | (unfold in64; omega) | (unfold inU64; omega) | (unfold inU32; omega) | (unfold inU8; omega) | omega | (simp only [in64, inU64, inU32, inU8] at *; omega)))), trivial⟩) ?_
  intro β6 _ w6 H6 _
  refine NQ.then ?_
  refine CW.seq (x := (cAt B9 [1, 1, 1, 1, 1, 1, 0])) (y := (cAt B9 [1, 1, 1, 1, 1, 1, 1])) (by kernel_rfl) ?_
  rcases Bool.eq_false_or_eq_true (wMay k1 n1) with h7 | h7
  · rcases Bool.eq_false_or_eq_true (wMay k2 n2) with h8 | h8
    · refine CW.region (id := 7) (d := true) H6 (by kernel_rfl) mixed 0 [(0, .key 3), (1, .call 0 (pureRec (.bool (wMay (wGetK w) (wGetN w))))), (4, .dec true), (9, .dec true), (15, .call 0 (pureRec (.agg #[.int .i64 (wGetK (wPut k1 n1)), .int .i64 (wGetN (wPut k1 n1))]))), (16, .key 1), (18, .dec false), (19, .dec true), (26, .dec false), (31, .key 1), (32, .key 2), (35, .dec false), (36, .dec true)] [(3, true), (6, true), (7, true), (8, true), (11, true), (12, true), (13, true), (14, true), (15, true), (16, true), (17, true), (18, true), (21, true), (22, true), (23, true), (24, true), (25, true), (26, true), (27, true), (28, true), (29, true), (30, true), (31, true), (32, true), (33, true), (34, true), (35, true)] [0, 4, 5, 6, 7] [0, 1, 2, 3] (by kernel_rfl)
        (fun β9 _ => [(0, .int .u64 w), (4, .pointer (some ⟨(β1 0), 0, none⟩)), (5, .pointer (some ⟨(β1 1), 0, none⟩)), (6, .bool (((wPut k1 n1) == (wPut k2 n2)) == ((k1 == k2) && ((n1 == n2) && true)))), (7, .pointer (some ⟨(β3 2), 0, none⟩))]) (fun β9 _ => [some (.ro noRo), some (.blk (β1 0) [.int .i64 k1, .int .i64 n1] 35), some (.blk (β1 1) [.int .i64 k2, .int .i64 n2] 35), some (.blk (β3 2) [.int .i64 (wGetK w), .int .i64 (wGetN w)] 35)]) (fun β9 _ => [(β3 2) = (β3 2), CallOb P0 21 #[.agg #[.int .i64 (wGetK w), .int .i64 (wGetN w)]] [some (.ro noRo)] (pureRec (.bool (wMay (wGetK w) (wGetN w)))), ((wMay (wGetK w) (wGetN w)) == true) = true, (wMay (wGetK w) (wGetN w)) = true, ((wMay (wGetK w) (wGetN w)) == true) = true, ((wMay (wGetK w) (wGetN w)) == true) = true, ((wMay (wGetK w) (wGetN w)) == true) = true, (wMay (wGetK w) (wGetN w)) = true, (((wPut (wGetK w) (wGetN w)) == w) == true) = true, (((wPut (wGetK w) (wGetN w)) == w) == true) = true, (((wPut (wGetK w) (wGetN w)) == w) == true) = true, ((!(wMay k1 n1)) == false) = true, ((!(wMay k1 n1)) == false) = true, CallOb P0 23 #[.int .u64 (wPut k1 n1)] [some (.ro noRo)] (pureRec (.agg #[.int .i64 (wGetK (wPut k1 n1)), .int .i64 (wGetN (wPut k1 n1))])), ((!(wMay k1 n1)) == false) = true, (β1 0) = (β1 0), ((!(wMay k1 n1)) == false) = true, (((wPut (wGetK w) (wGetN w)) == w) == true) = true, (!(wMay k1 n1)) = false, ((wPut (wGetK w) (wGetN w)) == w) = true, ((((wGetK (wPut k1 n1)) == k1) && (((wGetN (wPut k1 n1)) == n1) && true)) == true) = true, ((((wGetK (wPut k1 n1)) == k1) && (((wGetN (wPut k1 n1)) == n1) && true)) == true) = true, ((((wGetK (wPut k1 n1)) == k1) && (((wGetN (wPut k1 n1)) == n1) && true)) == true) = true, ((!(wMay k1 n1)) == false) = true, ((!(wMay k1 n1)) == false) = true, ((((wGetK (wPut k1 n1)) == k1) && (((wGetN (wPut k1 n1)) == n1) && true)) == true) = true, (!(wMay k1 n1)) = false, ((((wGetK (wPut k1 n1)) == k1) && (((wGetN (wPut k1 n1)) == n1) && true)) == true) = true, ((!(wMay k2 n2)) == false) = true, ((!(wMay k2 n2)) == false) = true, ((!(wMay k2 n2)) == false) = true, ((!(wMay k2 n2)) == false) = true, (β1 0) = (β1 0), ((!(wMay k2 n2)) == false) = true, (β1 1) = (β1 1), ((!(wMay k2 n2)) == false) = true, ((!(wMay k2 n2)) == false) = true, ((((wGetK (wPut k1 n1)) == k1) && (((wGetN (wPut k1 n1)) == n1) && true)) == true) = true, (!(wMay k2 n2)) = false, (((wGetK (wPut k1 n1)) == k1) && (((wGetN (wPut k1 n1)) == n1) && true)) = true]) (fun _ _ => [True, True])
        (fun _ _ => by kernel_rfl) (fun _ _ => ⟨rfl, (Pure.ob (word_May (wGetK w) (wGetN w) )), (by rw [show (wMay (wGetK w) (wGetN w)) = true from (may_get hw)]; rfl), (may_get hw), (by rw [show (wMay (wGetK w) (wGetN w)) = true from (may_get hw)]; rfl), (by rw [show (wMay (wGetK w) (wGetN w)) = true from (may_get hw)]; rfl), (by rw [show (wMay (wGetK w) (wGetN w)) = true from (may_get hw)]; rfl), (may_get hw), (by rw [show ((wPut (wGetK w) (wGetN w)) == w) = true from (by rw [put_get hw]; simp)]; rfl), (by rw [show ((wPut (wGetK w) (wGetN w)) == w) = true from (by rw [put_get hw]; simp)]; rfl), (by rw [show ((wPut (wGetK w) (wGetN w)) == w) = true from (by rw [put_get hw]; simp)]; rfl), (by rw [show (!(wMay k1 n1)) = false from (by rw [show (wMay k1 n1) = true from h7]; rfl)]; rfl), (by rw [show (!(wMay k1 n1)) = false from (by rw [show (wMay k1 n1) = true from h7]; rfl)]; rfl), (Pure.ob (word_Get (wPut k1 n1) (by first | assumption | exact put_u64 (by assumption) | exact getN_64 (by assumption) | (unfold in64; omega) | (unfold inU64; omega) | (unfold inU32; omega) | (unfold inU8; omega) | omega | (simp only [in64, inU64, inU32, inU8] at *; omega)))), (by rw [show (!(wMay k1 n1)) = false from (by rw [show (wMay k1 n1) = true from h7]; rfl)]; rfl), rfl, (by rw [show (!(wMay k1 n1)) = false from (by rw [show (wMay k1 n1) = true from h7]; rfl)]; rfl), (by rw [show ((wPut (wGetK w) (wGetN w)) == w) = true from (by rw [put_get hw]; simp)]; rfl), (by rw [show (wMay k1 n1) = true from h7]; rfl), (by rw [put_get hw]; simp), (by rw [show (((wGetK (wPut k1 n1)) == k1) && (((wGetN (wPut k1 n1)) == n1) && true)) = true from (get_put_b (by assumption))]; rfl), (by rw [show (((wGetK (wPut k1 n1)) == k1) && (((wGetN (wPut k1 n1)) == n1) && true)) = true from (get_put_b (by assumption))]; rfl), (by rw [show (((wGetK (wPut k1 n1)) == k1) && (((wGetN (wPut k1 n1)) == n1) && true)) = true from (get_put_b (by assumption))]; rfl), (by rw [show (!(wMay k1 n1)) = false from (by rw [show (wMay k1 n1) = true from h7]; rfl)]; rfl), (by rw [show (!(wMay k1 n1)) = false from (by rw [show (wMay k1 n1) = true from h7]; rfl)]; rfl), (by rw [show (((wGetK (wPut k1 n1)) == k1) && (((wGetN (wPut k1 n1)) == n1) && true)) = true from (get_put_b (by assumption))]; rfl), (by rw [show (wMay k1 n1) = true from h7]; rfl), (by rw [show (((wGetK (wPut k1 n1)) == k1) && (((wGetN (wPut k1 n1)) == n1) && true)) = true from (get_put_b (by assumption))]; rfl), (by rw [show (!(wMay k2 n2)) = false from (by rw [show (wMay k2 n2) = true from h8]; rfl)]; rfl), (by rw [show (!(wMay k2 n2)) = false from (by rw [show (wMay k2 n2) = true from h8]; rfl)]; rfl), (by rw [show (!(wMay k2 n2)) = false from (by rw [show (wMay k2 n2) = true from h8]; rfl)]; rfl), (by rw [show (!(wMay k2 n2)) = false from (by rw [show (wMay k2 n2) = true from h8]; rfl)]; rfl), rfl, (by rw [show (!(wMay k2 n2)) = false from (by rw [show (wMay k2 n2) = true from h8]; rfl)]; rfl), rfl, (by rw [show (!(wMay k2 n2)) = false from (by rw [show (wMay k2 n2) = true from h8]; rfl)]; rfl), (by rw [show (!(wMay k2 n2)) = false from (by rw [show (wMay k2 n2) = true from h8]; rfl)]; rfl), (by rw [show (((wGetK (wPut k1 n1)) == k1) && (((wGetN (wPut k1 n1)) == n1) && true)) = true from (get_put_b (by assumption))]; rfl), (by rw [show (wMay k2 n2) = true from h8]; rfl), (get_put_b (by assumption)), trivial⟩) ?_
      intro β9 _ w9 H9 _
      refine NQ.then ?_
      refine CW.ret (by kernel_rfl) ?_
      refine NQ.ret H9 [.tmp 6] (by kernel_rfl) [] [.bool (((wPut k1 n1) == (wPut k2 n2)) == ((k1 == k2) && ((n1 == n2) && true)))] [] (by kernel_rfl) trivial ?_
      exact ⟨congrArg Ending.returned (by first | rfl | exact congrArg Value.bool (put_inj_b (by assumption) (by assumption))), H9.below⟩
    · refine CW.region (id := 7) (d := true) H6 (by kernel_rfl) mixed 0 [(0, .key 3), (1, .call 0 (pureRec (.bool (wMay (wGetK w) (wGetN w))))), (4, .dec true), (9, .dec true), (15, .call 0 (pureRec (.agg #[.int .i64 (wGetK (wPut k1 n1)), .int .i64 (wGetN (wPut k1 n1))]))), (16, .key 1), (18, .dec false), (19, .dec true), (26, .dec false), (35, .dec true), (36, .dec true)] [(3, true), (6, true), (7, true), (8, true), (11, true), (12, true), (13, true), (14, true), (15, true), (16, true), (17, true), (18, true), (21, true), (22, true), (23, true), (24, true), (25, true), (26, true), (27, true), (28, false), (29, false), (30, false), (31, false), (32, false), (33, false), (34, false), (35, true)] [0, 4, 5, 6, 7] [0, 1, 2, 3] (by kernel_rfl)
        (fun β10 _ => [(0, .int .u64 w), (4, .pointer (some ⟨(β1 0), 0, none⟩)), (5, .pointer (some ⟨(β1 1), 0, none⟩)), (6, .bool true), (7, .pointer (some ⟨(β3 2), 0, none⟩))]) (fun β10 _ => [some (.ro noRo), some (.blk (β1 0) [.int .i64 k1, .int .i64 n1] 35), some (.blk (β1 1) [.int .i64 k2, .int .i64 n2] 35), some (.blk (β3 2) [.int .i64 (wGetK w), .int .i64 (wGetN w)] 35)]) (fun β10 _ => [(β3 2) = (β3 2), CallOb P0 21 #[.agg #[.int .i64 (wGetK w), .int .i64 (wGetN w)]] [some (.ro noRo)] (pureRec (.bool (wMay (wGetK w) (wGetN w)))), ((wMay (wGetK w) (wGetN w)) == true) = true, (wMay (wGetK w) (wGetN w)) = true, ((wMay (wGetK w) (wGetN w)) == true) = true, ((wMay (wGetK w) (wGetN w)) == true) = true, ((wMay (wGetK w) (wGetN w)) == true) = true, (wMay (wGetK w) (wGetN w)) = true, (((wPut (wGetK w) (wGetN w)) == w) == true) = true, (((wPut (wGetK w) (wGetN w)) == w) == true) = true, (((wPut (wGetK w) (wGetN w)) == w) == true) = true, ((!(wMay k1 n1)) == false) = true, ((!(wMay k1 n1)) == false) = true, CallOb P0 23 #[.int .u64 (wPut k1 n1)] [some (.ro noRo)] (pureRec (.agg #[.int .i64 (wGetK (wPut k1 n1)), .int .i64 (wGetN (wPut k1 n1))])), ((!(wMay k1 n1)) == false) = true, (β1 0) = (β1 0), ((!(wMay k1 n1)) == false) = true, (((wPut (wGetK w) (wGetN w)) == w) == true) = true, (!(wMay k1 n1)) = false, ((wPut (wGetK w) (wGetN w)) == w) = true, ((((wGetK (wPut k1 n1)) == k1) && (((wGetN (wPut k1 n1)) == n1) && true)) == true) = true, ((((wGetK (wPut k1 n1)) == k1) && (((wGetN (wPut k1 n1)) == n1) && true)) == true) = true, ((((wGetK (wPut k1 n1)) == k1) && (((wGetN (wPut k1 n1)) == n1) && true)) == true) = true, ((!(wMay k1 n1)) == false) = true, ((!(wMay k1 n1)) == false) = true, ((((wGetK (wPut k1 n1)) == k1) && (((wGetN (wPut k1 n1)) == n1) && true)) == true) = true, (!(wMay k1 n1)) = false, ((((wGetK (wPut k1 n1)) == k1) && (((wGetN (wPut k1 n1)) == n1) && true)) == true) = true, ((!(wMay k2 n2)) == false) = false, ((!(wMay k2 n2)) == false) = false, ((!(wMay k2 n2)) == false) = false, ((!(wMay k2 n2)) == false) = false, ((!(wMay k2 n2)) == false) = false, ((!(wMay k2 n2)) == false) = false, ((!(wMay k2 n2)) == false) = false, ((((wGetK (wPut k1 n1)) == k1) && (((wGetN (wPut k1 n1)) == n1) && true)) == true) = true, (!(wMay k2 n2)) = true, (((wGetK (wPut k1 n1)) == k1) && (((wGetN (wPut k1 n1)) == n1) && true)) = true]) (fun _ _ => [True, True])
        (fun _ _ => by kernel_rfl) (fun _ _ => ⟨rfl, (Pure.ob (word_May (wGetK w) (wGetN w) )), (by rw [show (wMay (wGetK w) (wGetN w)) = true from (may_get hw)]; rfl), (may_get hw), (by rw [show (wMay (wGetK w) (wGetN w)) = true from (may_get hw)]; rfl), (by rw [show (wMay (wGetK w) (wGetN w)) = true from (may_get hw)]; rfl), (by rw [show (wMay (wGetK w) (wGetN w)) = true from (may_get hw)]; rfl), (may_get hw), (by rw [show ((wPut (wGetK w) (wGetN w)) == w) = true from (by rw [put_get hw]; simp)]; rfl), (by rw [show ((wPut (wGetK w) (wGetN w)) == w) = true from (by rw [put_get hw]; simp)]; rfl), (by rw [show ((wPut (wGetK w) (wGetN w)) == w) = true from (by rw [put_get hw]; simp)]; rfl), (by rw [show (!(wMay k1 n1)) = false from (by rw [show (wMay k1 n1) = true from h7]; rfl)]; rfl), (by rw [show (!(wMay k1 n1)) = false from (by rw [show (wMay k1 n1) = true from h7]; rfl)]; rfl), (Pure.ob (word_Get (wPut k1 n1) (by first | assumption | exact put_u64 (by assumption) | exact getN_64 (by assumption) | (unfold in64; omega) | (unfold inU64; omega) | (unfold inU32; omega) | (unfold inU8; omega) | omega | (simp only [in64, inU64, inU32, inU8] at *; omega)))), (by rw [show (!(wMay k1 n1)) = false from (by rw [show (wMay k1 n1) = true from h7]; rfl)]; rfl), rfl, (by rw [show (!(wMay k1 n1)) = false from (by rw [show (wMay k1 n1) = true from h7]; rfl)]; rfl), (by rw [show ((wPut (wGetK w) (wGetN w)) == w) = true from (by rw [put_get hw]; simp)]; rfl), (by rw [show (wMay k1 n1) = true from h7]; rfl), (by rw [put_get hw]; simp), (by rw [show (((wGetK (wPut k1 n1)) == k1) && (((wGetN (wPut k1 n1)) == n1) && true)) = true from (get_put_b (by assumption))]; rfl), (by rw [show (((wGetK (wPut k1 n1)) == k1) && (((wGetN (wPut k1 n1)) == n1) && true)) = true from (get_put_b (by assumption))]; rfl), (by rw [show (((wGetK (wPut k1 n1)) == k1) && (((wGetN (wPut k1 n1)) == n1) && true)) = true from (get_put_b (by assumption))]; rfl), (by rw [show (!(wMay k1 n1)) = false from (by rw [show (wMay k1 n1) = true from h7]; rfl)]; rfl), (by rw [show (!(wMay k1 n1)) = false from (by rw [show (wMay k1 n1) = true from h7]; rfl)]; rfl), (by rw [show (((wGetK (wPut k1 n1)) == k1) && (((wGetN (wPut k1 n1)) == n1) && true)) = true from (get_put_b (by assumption))]; rfl), (by rw [show (wMay k1 n1) = true from h7]; rfl), (by rw [show (((wGetK (wPut k1 n1)) == k1) && (((wGetN (wPut k1 n1)) == n1) && true)) = true from (get_put_b (by assumption))]; rfl), (by rw [show (!(wMay k2 n2)) = true from (by rw [show (wMay k2 n2) = false from h8]; rfl)]; rfl), (by rw [show (!(wMay k2 n2)) = true from (by rw [show (wMay k2 n2) = false from h8]; rfl)]; rfl), (by rw [show (!(wMay k2 n2)) = true from (by rw [show (wMay k2 n2) = false from h8]; rfl)]; rfl), (by rw [show (!(wMay k2 n2)) = true from (by rw [show (wMay k2 n2) = false from h8]; rfl)]; rfl), (by rw [show (!(wMay k2 n2)) = true from (by rw [show (wMay k2 n2) = false from h8]; rfl)]; rfl), (by rw [show (!(wMay k2 n2)) = true from (by rw [show (wMay k2 n2) = false from h8]; rfl)]; rfl), (by rw [show (!(wMay k2 n2)) = true from (by rw [show (wMay k2 n2) = false from h8]; rfl)]; rfl), (by rw [show (((wGetK (wPut k1 n1)) == k1) && (((wGetN (wPut k1 n1)) == n1) && true)) = true from (get_put_b (by assumption))]; rfl), (by rw [show (wMay k2 n2) = false from h8]; rfl), (get_put_b (by assumption)), trivial⟩) ?_
      intro β10 _ w10 H10 _
      refine NQ.then ?_
      refine CW.ret (by kernel_rfl) ?_
      refine NQ.ret H10 [.tmp 6] (by kernel_rfl) [] [.bool true] [] (by kernel_rfl) trivial ?_
      exact ⟨congrArg Ending.returned (by first | rfl | exact congrArg Value.bool (put_inj_b (by assumption) (by assumption))), H10.below⟩
  · refine CW.region (id := 7) (d := true) H6 (by kernel_rfl) mixed 0 [(0, .key 3), (1, .call 0 (pureRec (.bool (wMay (wGetK w) (wGetN w))))), (4, .dec true), (9, .dec true), (18, .dec true), (19, .dec true), (26, .dec true)] [(3, true), (6, true), (7, true), (8, true), (11, true), (12, true), (13, true), (14, false), (15, false), (16, false), (17, false), (18, true), (24, false), (25, false)] [0, 4, 5, 6, 7] [0, 1, 2, 3] (by kernel_rfl)
      (fun β11 _ => [(0, .int .u64 w), (4, .pointer (some ⟨(β1 0), 0, none⟩)), (5, .pointer (some ⟨(β1 1), 0, none⟩)), (6, .bool true), (7, .pointer (some ⟨(β3 2), 0, none⟩))]) (fun β11 _ => [some (.ro noRo), some (.blk (β1 0) [.int .i64 k1, .int .i64 n1] 35), some (.blk (β1 1) [.int .i64 k2, .int .i64 n2] 35), some (.blk (β3 2) [.int .i64 (wGetK w), .int .i64 (wGetN w)] 35)]) (fun β11 _ => [(β3 2) = (β3 2), CallOb P0 21 #[.agg #[.int .i64 (wGetK w), .int .i64 (wGetN w)]] [some (.ro noRo)] (pureRec (.bool (wMay (wGetK w) (wGetN w)))), ((wMay (wGetK w) (wGetN w)) == true) = true, (wMay (wGetK w) (wGetN w)) = true, ((wMay (wGetK w) (wGetN w)) == true) = true, ((wMay (wGetK w) (wGetN w)) == true) = true, ((wMay (wGetK w) (wGetN w)) == true) = true, (wMay (wGetK w) (wGetN w)) = true, (((wPut (wGetK w) (wGetN w)) == w) == true) = true, (((wPut (wGetK w) (wGetN w)) == w) == true) = true, (((wPut (wGetK w) (wGetN w)) == w) == true) = true, ((!(wMay k1 n1)) == false) = false, ((!(wMay k1 n1)) == false) = false, ((!(wMay k1 n1)) == false) = false, ((!(wMay k1 n1)) == false) = false, (((wPut (wGetK w) (wGetN w)) == w) == true) = true, (!(wMay k1 n1)) = true, ((wPut (wGetK w) (wGetN w)) == w) = true, ((!(wMay k1 n1)) == false) = false, ((!(wMay k1 n1)) == false) = false, (!(wMay k1 n1)) = true]) (fun _ _ => [True])
      (fun _ _ => by kernel_rfl) (fun _ _ => ⟨rfl, (Pure.ob (word_May (wGetK w) (wGetN w) )), (by rw [show (wMay (wGetK w) (wGetN w)) = true from (may_get hw)]; rfl), (may_get hw), (by rw [show (wMay (wGetK w) (wGetN w)) = true from (may_get hw)]; rfl), (by rw [show (wMay (wGetK w) (wGetN w)) = true from (may_get hw)]; rfl), (by rw [show (wMay (wGetK w) (wGetN w)) = true from (may_get hw)]; rfl), (may_get hw), (by rw [show ((wPut (wGetK w) (wGetN w)) == w) = true from (by rw [put_get hw]; simp)]; rfl), (by rw [show ((wPut (wGetK w) (wGetN w)) == w) = true from (by rw [put_get hw]; simp)]; rfl), (by rw [show ((wPut (wGetK w) (wGetN w)) == w) = true from (by rw [put_get hw]; simp)]; rfl), (by rw [show (!(wMay k1 n1)) = true from (by rw [show (wMay k1 n1) = false from h7]; rfl)]; rfl), (by rw [show (!(wMay k1 n1)) = true from (by rw [show (wMay k1 n1) = false from h7]; rfl)]; rfl), (by rw [show (!(wMay k1 n1)) = true from (by rw [show (wMay k1 n1) = false from h7]; rfl)]; rfl), (by rw [show (!(wMay k1 n1)) = true from (by rw [show (wMay k1 n1) = false from h7]; rfl)]; rfl), (by rw [show ((wPut (wGetK w) (wGetN w)) == w) = true from (by rw [put_get hw]; simp)]; rfl), (by rw [show (wMay k1 n1) = false from h7]; rfl), (by rw [put_get hw]; simp), (by rw [show (!(wMay k1 n1)) = true from (by rw [show (wMay k1 n1) = false from h7]; rfl)]; rfl), (by rw [show (!(wMay k1 n1)) = true from (by rw [show (wMay k1 n1) = false from h7]; rfl)]; rfl), (by rw [show (wMay k1 n1) = false from h7]; rfl), trivial⟩) ?_
    intro β11 _ w11 H11 _
    refine NQ.then ?_
    refine CW.ret (by kernel_rfl) ?_
    refine NQ.ret H11 [.tmp 6] (by kernel_rfl) [] [.bool true] [] (by kernel_rfl) trivial ?_
    exact ⟨congrArg Ending.returned (by first | rfl | exact congrArg Value.bool (put_inj_b (by assumption) (by assumption))), H11.below⟩

theorem law_WordKinds (k : Int) (n : Int) (hn : in64 n) : Pure noRo P0 10 #[.agg #[.int .i64 k, .int .i64 n]] (.bool true) := by
  intro w0 hG
  have H0 := Own.begin hG
  refine enter (fn := F10) (c := B10) (n := 63) [(0, .agg #[.int .i64 k, .int .i64 n])] (by kernel_rfl) (by kernel_rfl) (by kernel_rfl) (by kernel_rfl) (by kernel_rfl) ?_
  refine CW.seq (x := (cAt B10 [0])) (y := (cAt B10 [1])) (by kernel_rfl) ?_
  refine CW.region (id := 0) (d := false) H0 (by kernel_rfl) mixed 1 [(0, .key 1)] [] [1, 2] [0, 1] (by kernel_rfl)
    (fun β1 _ => [(1, .pointer (some ⟨(β1 0), 0, none⟩)), (2, .bool false)]) (fun β1 _ => [some (.ro noRo), some (.blk (β1 0) [.int .i64 k, .int .i64 n] 35)]) (fun β1 _ => []) (fun _ _ => [])
    (fun _ _ => by kernel_rfl) (fun _ _ => trivial) ?_
  intro β1 _ w1 H1 _
  refine NQ.then ?_
  refine CW.seq (x := (cAt B10 [1, 0])) (y := (cAt B10 [1, 1])) (by kernel_rfl) ?_
  refine CW.seq (x := (cAt B10 [1, 0, 0])) (y := (cAt B10 [1, 0, 1])) (by kernel_rfl) ?_
  rcases Bool.eq_false_or_eq_true (wMay k n) with h2 | h2
  · refine CW.region (id := 1) (d := false) H1 (by kernel_rfl) mixed 0 [(0, .call 0 (pureRec (.bool true))), (3, .key 1), (4, .call 0 (pureRec (.bool (wMay k n)))), (9, .key 1), (11, .dec false)] [(8, true), (9, true), (10, true)] [1, 2, 18] [0, 1] (by kernel_rfl)
      (fun β3 _ => [(1, .pointer (some ⟨(β1 0), 0, none⟩)), (2, .bool false), (18, .bool (decide (n > 1152921504606846976)))]) (fun β3 _ => [some (.ro noRo), some (.blk (β1 0) [.int .i64 k, .int .i64 n] 35)]) (fun β3 _ => [CallOb P0 18 #[] [some (.ro noRo)] (pureRec (.bool true)), (β1 0) = (β1 0), CallOb P0 20 #[.agg #[.int .i64 k, .int .i64 n]] [some (.ro noRo)] (pureRec (.bool (wMay k n))), ((!(wMay k n)) == false) = true, ((!(wMay k n)) == false) = true, (β1 0) = (β1 0), ((!(wMay k n)) == false) = true, (!(wMay k n)) = false]) (fun _ _ => [True, True])
      (fun _ _ => by kernel_rfl) (fun _ _ => ⟨(Pure.ob (law01_awake  )), rfl, (Pure.ob (ref01_May k n )), (by rw [show (!(wMay k n)) = false from (by rw [show (wMay k n) = true from h2]; rfl)]; rfl), (by rw [show (!(wMay k n)) = false from (by rw [show (wMay k n) = true from h2]; rfl)]; rfl), rfl, (by rw [show (!(wMay k n)) = false from (by rw [show (wMay k n) = true from h2]; rfl)]; rfl), (by rw [show (wMay k n) = true from h2]; rfl), trivial⟩) ?_
    intro β3 _ w3 H3 _
    refine NQ.then ?_
    rcases Bool.eq_false_or_eq_true (decide (n > 1152921504606846976)) with h4 | h4
    · have p4 := of_decide_eq_true h4
      refine CW.cond_t (o := .tmp 18) (b := (decide (n > 1152921504606846976))) (x := (cAt B10 [1, 0, 1, 0])) (y := (cAt B10 [1, 0, 1, 1])) (by kernel_rfl) (by kernel_rfl) h4 ?_
      refine CW.seq (x := (cAt B10 [1, 0, 1, 0, 0])) (y := (cAt B10 [1, 0, 1, 0, 1])) (by kernel_rfl) ?_
      refine CW.region (id := 2) (d := false) H3 (by kernel_rfl) mixed 0 [(0, .call 0 (pureRec (.bool true)))] [] [1, 2] [0, 1] (by kernel_rfl)
        (fun β5 _ => [(1, .pointer (some ⟨(β1 0), 0, none⟩)), (2, .bool true)]) (fun β5 _ => [some (.ro noRo), some (.blk (β1 0) [.int .i64 k, .int .i64 n] 35)]) (fun β5 _ => [CallOb P0 18 #[] [some (.ro noRo)] (pureRec (.bool true))]) (fun _ _ => [True])
        (fun _ _ => by kernel_rfl) (fun _ _ => ⟨(Pure.ob (law01_awake  )), trivial⟩) ?_
      intro β5 _ w5 H5 _
      refine NQ.then ?_
      refine CW.ret (by kernel_rfl) ?_
      refine NQ.then_ret ?_
      refine NQ.ret H5 [.tmp 2] (by kernel_rfl) [] [.bool true] [] (by kernel_rfl) trivial ?_
      exact ⟨congrArg Ending.returned (by first | rfl | exact congrArg Value.bool (next_put hn (by assumption) (by assumption) (by assumption))), H5.below⟩
    · have p4 := of_decide_eq_false h4
      refine CW.cond_f (o := .tmp 18) (b := (decide (n > 1152921504606846976))) (x := (cAt B10 [1, 0, 1, 0])) (y := (cAt B10 [1, 0, 1, 1])) (by kernel_rfl) (by kernel_rfl) h4 ?_
      refine CW.skip (by kernel_rfl) ?_
      refine NQ.then ?_
      refine CW.seq (x := (cAt B10 [1, 1, 0])) (y := (cAt B10 [1, 1, 1])) (by kernel_rfl) ?_
      refine CW.region (id := 3) (d := false) H3 (by kernel_rfl) mixed 0 [(0, .key 1), (1, .call 0 (pureRec (.tuple #[.int .u64 (wPut k n), .bool (wMay k n)])))] [] [1, 2, 3, 4] [0, 1] (by kernel_rfl)
        (fun β6 _ => [(1, .pointer (some ⟨(β1 0), 0, none⟩)), (2, .bool false), (3, .int .u64 (wPut k n)), (4, .bool (wMay k n))]) (fun β6 _ => [some (.ro noRo), some (.blk (β1 0) [.int .i64 k, .int .i64 n] 35)]) (fun β6 _ => [(β1 0) = (β1 0), CallOb P0 19 #[.agg #[.int .i64 k, .int .i64 n]] [some (.ro noRo)] (pureRec (.tuple #[.int .u64 (wPut k n), .bool (wMay k n)]))]) (fun _ _ => [True])
        (fun _ _ => by kernel_rfl) (fun _ _ => ⟨rfl, (Pure.ob (word_Put k n (by first | assumption | exact put_u64 (by assumption) | exact getN_64 (by assumption) | (unfold in64; omega) | (unfold inU64; omega) | (unfold inU32; omega) | (unfold inU8; omega) | omega | (simp only [in64, inU64, inU32, inU8] at *; omega)))), trivial⟩) ?_
      intro β6 _ w6 H6 _
      refine NQ.then ?_
      refine CW.seq (x := (cAt B10 [1, 1, 1, 0])) (y := (cAt B10 [1, 1, 1, 1])) (by kernel_rfl) ?_
      refine CW.seq (x := (cAt B10 [1, 1, 1, 0, 0])) (y := (cAt B10 [1, 1, 1, 0, 1])) (by kernel_rfl) ?_
      refine CW.region (id := 4) (d := false) H6 (by kernel_rfl) mixed 0 [(6, .key 1), (9, .dec false), (15, .key 1), (18, .dec false)] [(3, true), (4, true), (5, true), (6, true), (7, true), (8, true), (11, true), (12, true), (13, true), (14, true), (15, true), (16, true), (17, true)] [1, 2, 3, 43] [0, 1] (by kernel_rfl)
        (fun β7 _ => [(1, .pointer (some ⟨(β1 0), 0, none⟩)), (2, .bool false), (3, .int .u64 (wPut k n)), (43, .bool (!(((Int.tmod (wPut k n) 2) == 1) == (k == 1))))]) (fun β7 _ => [some (.ro noRo), some (.blk (β1 0) [.int .i64 k, .int .i64 n] 35)]) (fun β7 _ => [((!(wMay k n)) == false) = true, ((!(wMay k n)) == false) = true, ((!(wMay k n)) == false) = true, ((!(wMay k n)) == false) = true, (β1 0) = (β1 0), ((!(wMay k n)) == false) = true, ((!(wMay k n)) == false) = true, (!(wMay k n)) = false, ((!(((wPut k n) == 0) == (k == 0))) == false) = true, ((!(((wPut k n) == 0) == (k == 0))) == false) = true, ((!(((wPut k n) == 0) == (k == 0))) == false) = true, ((!(((wPut k n) == 0) == (k == 0))) == false) = true, ((!(((wPut k n) == 0) == (k == 0))) == false) = true, (β1 0) = (β1 0), ((!(((wPut k n) == 0) == (k == 0))) == false) = true, ((!(((wPut k n) == 0) == (k == 0))) == false) = true, (!(((wPut k n) == 0) == (k == 0))) = false]) (fun _ _ => [])
        (fun _ _ => by kernel_rfl) (fun _ _ => ⟨(by rw [show (!(wMay k n)) = false from (by rw [show (wMay k n) = true from h2]; rfl)]; rfl), (by rw [show (!(wMay k n)) = false from (by rw [show (wMay k n) = true from h2]; rfl)]; rfl), (by rw [show (!(wMay k n)) = false from (by rw [show (wMay k n) = true from h2]; rfl)]; rfl), (by rw [show (!(wMay k n)) = false from (by rw [show (wMay k n) = true from h2]; rfl)]; rfl), rfl, (by rw [show (!(wMay k n)) = false from (by rw [show (wMay k n) = true from h2]; rfl)]; rfl), (by rw [show (!(wMay k n)) = false from (by rw [show (wMay k n) = true from h2]; rfl)]; rfl), (by rw [show (wMay k n) = true from h2]; rfl), (by rw [show (!(((wPut k n) == 0) == (k == 0))) = false from (by rw [show (((wPut k n) == 0) == (k == 0)) = true from (kind0_b (by assumption))]; rfl)]; rfl), (by rw [show (!(((wPut k n) == 0) == (k == 0))) = false from (by rw [show (((wPut k n) == 0) == (k == 0)) = true from (kind0_b (by assumption))]; rfl)]; rfl), (by rw [show (!(((wPut k n) == 0) == (k == 0))) = false from (by rw [show (((wPut k n) == 0) == (k == 0)) = true from (kind0_b (by assumption))]; rfl)]; rfl), (by rw [show (!(((wPut k n) == 0) == (k == 0))) = false from (by rw [show (((wPut k n) == 0) == (k == 0)) = true from (kind0_b (by assumption))]; rfl)]; rfl), (by rw [show (!(((wPut k n) == 0) == (k == 0))) = false from (by rw [show (((wPut k n) == 0) == (k == 0)) = true from (kind0_b (by assumption))]; rfl)]; rfl), rfl, (by rw [show (!(((wPut k n) == 0) == (k == 0))) = false from (by rw [show (((wPut k n) == 0) == (k == 0)) = true from (kind0_b (by assumption))]; rfl)]; rfl), (by rw [show (!(((wPut k n) == 0) == (k == 0))) = false from (by rw [show (((wPut k n) == 0) == (k == 0)) = true from (kind0_b (by assumption))]; rfl)]; rfl), (by rw [show (((wPut k n) == 0) == (k == 0)) = true from (kind0_b (by assumption))]; rfl), trivial⟩) ?_
      intro β7 _ w7 H7 _
      refine NQ.then ?_
      refine CW.cond_f (o := .tmp 43) (b := (!(((Int.tmod (wPut k n) 2) == 1) == (k == 1)))) (x := (cAt B10 [1, 1, 1, 0, 1, 0])) (y := (cAt B10 [1, 1, 1, 0, 1, 1])) (by kernel_rfl) (by kernel_rfl) (by rw [show (((Int.tmod (wPut k n) 2) == 1) == (k == 1)) = true from (kind1_b hn (by assumption))]; rfl) ?_
      refine CW.skip (by kernel_rfl) ?_
      refine NQ.then ?_
      refine CW.seq (x := (cAt B10 [1, 1, 1, 1, 0])) (y := (cAt B10 [1, 1, 1, 1, 1])) (by kernel_rfl) ?_
      refine CW.seq (x := (cAt B10 [1, 1, 1, 1, 0, 0])) (y := (cAt B10 [1, 1, 1, 1, 0, 1])) (by kernel_rfl) ?_
      refine CW.region (id := 6) (d := false) H7 (by kernel_rfl) mixed 0 [(1, .key 1)] [] [1, 2, 3, 46] [0, 1] (by kernel_rfl)
        (fun β8 _ => [(1, .pointer (some ⟨(β1 0), 0, none⟩)), (2, .bool false), (3, .int .u64 (wPut k n)), (46, .bool (k == 0))]) (fun β8 _ => [some (.ro noRo), some (.blk (β1 0) [.int .i64 k, .int .i64 n] 35)]) (fun β8 _ => [(β1 0) = (β1 0)]) (fun _ _ => [])
        (fun _ _ => by kernel_rfl) (fun _ _ => ⟨rfl, trivial⟩) ?_
      intro β8 _ w8 H8 _
      refine NQ.then ?_
      rcases Bool.eq_false_or_eq_true (k == 0) with h9 | h9
      · have p9 := eq_of_beq h9
        refine CW.cond_t (o := .tmp 46) (b := (k == 0)) (x := (cAt B10 [1, 1, 1, 1, 0, 1, 0])) (y := (cAt B10 [1, 1, 1, 1, 0, 1, 1])) (by kernel_rfl) (by kernel_rfl) h9 ?_
        refine CW.seq (x := (cAt B10 [1, 1, 1, 1, 0, 1, 0, 0])) (y := (cAt B10 [1, 1, 1, 1, 0, 1, 0, 1])) (by kernel_rfl) ?_
        refine CW.region (id := 7) (d := false) H8 (by kernel_rfl) mixed 0 [] [] [1, 2, 3] [0, 1] (by kernel_rfl)
          (fun β10 _ => [(1, .pointer (some ⟨(β1 0), 0, none⟩)), (2, .bool true), (3, .int .u64 (wPut k n))]) (fun β10 _ => [some (.ro noRo), some (.blk (β1 0) [.int .i64 k, .int .i64 n] 35)]) (fun β10 _ => []) (fun _ _ => [])
          (fun _ _ => by kernel_rfl) (fun _ _ => trivial) ?_
        intro β10 _ w10 H10 _
        refine NQ.then ?_
        refine CW.ret (by kernel_rfl) ?_
        refine NQ.then_ret ?_
        refine NQ.ret H10 [.tmp 2] (by kernel_rfl) [] [.bool true] [] (by kernel_rfl) trivial ?_
        exact ⟨congrArg Ending.returned (by first | rfl | exact congrArg Value.bool (next_put hn (by assumption) (by assumption) (by assumption))), H10.below⟩
      · have p9 := ne_of_beq_false h9
        refine CW.cond_f (o := .tmp 46) (b := (k == 0)) (x := (cAt B10 [1, 1, 1, 1, 0, 1, 0])) (y := (cAt B10 [1, 1, 1, 1, 0, 1, 1])) (by kernel_rfl) (by kernel_rfl) h9 ?_
        refine CW.skip (by kernel_rfl) ?_
        refine NQ.then ?_
        refine CW.seq (x := (cAt B10 [1, 1, 1, 1, 1, 0])) (y := (cAt B10 [1, 1, 1, 1, 1, 1])) (by kernel_rfl) ?_
        refine CW.region (id := 8) (d := false) H8 (by kernel_rfl) mixed 0 [(1, .key 1), (4, .key 1)] [] [1, 2, 3] [0, 1] (by kernel_rfl)
          (fun β11 _ => [(1, .pointer (some ⟨(β1 0), 0, none⟩)), (2, .bool false), (3, .int .u64 (wPut k n))]) (fun β11 _ => [some (.ro noRo), some (.blk (β1 0) [.int .i64 k, .int .i64 (iAdd .i64 n 1)] 35)]) (fun β11 _ => [(β1 0) = (β1 0), (β1 0) = (β1 0)]) (fun _ _ => [])
          (fun _ _ => by kernel_rfl) (fun _ _ => ⟨rfl, rfl, trivial⟩) ?_
        intro β11 _ w11 H11 _
        rw [show (iAdd .i64 n 1) = (n + 1) from next_add hn (by assumption)] at H11
        refine NQ.then ?_
        refine CW.seq (x := (cAt B10 [1, 1, 1, 1, 1, 1, 0])) (y := (cAt B10 [1, 1, 1, 1, 1, 1, 1])) (by kernel_rfl) ?_
        refine CW.region (id := 9) (d := false) H11 (by kernel_rfl) mixed 0 [(0, .key 1), (1, .call 0 (pureRec (.tuple #[.int .u64 (wPut k (n + 1)), .bool (wMay k (n + 1))])))] [] [1, 2, 3, 5, 6] [0, 1] (by kernel_rfl)
          (fun β12 _ => [(1, .pointer (some ⟨(β1 0), 0, none⟩)), (2, .bool false), (3, .int .u64 (wPut k n)), (5, .int .u64 (wPut k (n + 1))), (6, .bool (wMay k (n + 1)))]) (fun β12 _ => [some (.ro noRo), some (.blk (β1 0) [.int .i64 k, .int .i64 (n + 1)] 35)]) (fun β12 _ => [(β1 0) = (β1 0), CallOb P0 19 #[.agg #[.int .i64 k, .int .i64 (n + 1)]] [some (.ro noRo)] (pureRec (.tuple #[.int .u64 (wPut k (n + 1)), .bool (wMay k (n + 1))]))]) (fun _ _ => [True])
          (fun _ _ => by kernel_rfl) (fun _ _ => ⟨rfl, (Pure.ob (word_Put k (n + 1) (by first | assumption | exact put_u64 (by assumption) | exact getN_64 (by assumption) | (unfold in64; omega) | (unfold inU64; omega) | (unfold inU32; omega) | (unfold inU8; omega) | omega | (simp only [in64, inU64, inU32, inU8] at *; omega)))), trivial⟩) ?_
        intro β12 _ w12 H12 _
        refine NQ.then ?_
        refine CW.seq (x := (cAt B10 [1, 1, 1, 1, 1, 1, 1, 0])) (y := (cAt B10 [1, 1, 1, 1, 1, 1, 1, 1])) (by kernel_rfl) ?_
        refine CW.region (id := 10) (d := false) H12 (by kernel_rfl) mixed 0 [(6, .dec true)] [(2, true), (3, true), (4, true), (5, true)] [1, 2, 3] [0, 1] (by kernel_rfl)
          (fun β13 _ => [(1, .pointer (some ⟨(β1 0), 0, none⟩)), (2, .bool ((wPut k (n + 1)) == (iAdd .u64 (wPut k n) 2))), (3, .int .u64 (wPut k n))]) (fun β13 _ => [some (.ro noRo), some (.blk (β1 0) [.int .i64 k, .int .i64 (n + 1)] 35)]) (fun β13 _ => [((wMay k (n + 1)) == true) = true, ((wMay k (n + 1)) == true) = true, ((wMay k (n + 1)) == true) = true, ((wMay k (n + 1)) == true) = true, (wMay k (n + 1)) = true]) (fun _ _ => [])
          (fun _ _ => by kernel_rfl) (fun _ _ => ⟨(by rw [show (wMay k (n + 1)) = true from (next_may (by assumption) (by assumption) (by assumption))]; rfl), (by rw [show (wMay k (n + 1)) = true from (next_may (by assumption) (by assumption) (by assumption))]; rfl), (by rw [show (wMay k (n + 1)) = true from (next_may (by assumption) (by assumption) (by assumption))]; rfl), (by rw [show (wMay k (n + 1)) = true from (next_may (by assumption) (by assumption) (by assumption))]; rfl), (next_may (by assumption) (by assumption) (by assumption)), trivial⟩) ?_
        intro β13 _ w13 H13 _
        refine NQ.then ?_
        refine CW.ret (by kernel_rfl) ?_
        refine NQ.ret H13 [.tmp 2] (by kernel_rfl) [] [.bool ((wPut k (n + 1)) == (iAdd .u64 (wPut k n) 2))] [] (by kernel_rfl) trivial ?_
        exact ⟨congrArg Ending.returned (by first | rfl | exact congrArg Value.bool (next_put hn (by assumption) (by assumption) (by assumption))), H13.below⟩
  · refine CW.region (id := 1) (d := false) H1 (by kernel_rfl) mixed 0 [(0, .call 0 (pureRec (.bool true))), (3, .key 1), (4, .call 0 (pureRec (.bool (wMay k n)))), (11, .dec true)] [(8, false), (9, false), (10, false)] [1, 2, 18] [0, 1] (by kernel_rfl)
      (fun β14 _ => [(1, .pointer (some ⟨(β1 0), 0, none⟩)), (2, .bool false), (18, .bool true)]) (fun β14 _ => [some (.ro noRo), some (.blk (β1 0) [.int .i64 k, .int .i64 n] 35)]) (fun β14 _ => [CallOb P0 18 #[] [some (.ro noRo)] (pureRec (.bool true)), (β1 0) = (β1 0), CallOb P0 20 #[.agg #[.int .i64 k, .int .i64 n]] [some (.ro noRo)] (pureRec (.bool (wMay k n))), ((!(wMay k n)) == false) = false, ((!(wMay k n)) == false) = false, ((!(wMay k n)) == false) = false, (!(wMay k n)) = true]) (fun _ _ => [True, True])
      (fun _ _ => by kernel_rfl) (fun _ _ => ⟨(Pure.ob (law01_awake  )), rfl, (Pure.ob (ref01_May k n )), (by rw [show (!(wMay k n)) = true from (by rw [show (wMay k n) = false from h2]; rfl)]; rfl), (by rw [show (!(wMay k n)) = true from (by rw [show (wMay k n) = false from h2]; rfl)]; rfl), (by rw [show (!(wMay k n)) = true from (by rw [show (wMay k n) = false from h2]; rfl)]; rfl), (by rw [show (wMay k n) = false from h2]; rfl), trivial⟩) ?_
    intro β14 _ w14 H14 _
    refine NQ.then ?_
    refine CW.cond_t (o := .tmp 18) (b := true) (x := (cAt B10 [1, 0, 1, 0])) (y := (cAt B10 [1, 0, 1, 1])) (by kernel_rfl) (by kernel_rfl) rfl ?_
    refine CW.seq (x := (cAt B10 [1, 0, 1, 0, 0])) (y := (cAt B10 [1, 0, 1, 0, 1])) (by kernel_rfl) ?_
    refine CW.region (id := 2) (d := false) H14 (by kernel_rfl) mixed 0 [(0, .call 0 (pureRec (.bool true)))] [] [1, 2] [0, 1] (by kernel_rfl)
      (fun β15 _ => [(1, .pointer (some ⟨(β1 0), 0, none⟩)), (2, .bool true)]) (fun β15 _ => [some (.ro noRo), some (.blk (β1 0) [.int .i64 k, .int .i64 n] 35)]) (fun β15 _ => [CallOb P0 18 #[] [some (.ro noRo)] (pureRec (.bool true))]) (fun _ _ => [True])
      (fun _ _ => by kernel_rfl) (fun _ _ => ⟨(Pure.ob (law01_awake  )), trivial⟩) ?_
    intro β15 _ w15 H15 _
    refine NQ.then ?_
    refine CW.ret (by kernel_rfl) ?_
    refine NQ.then_ret ?_
    refine NQ.ret H15 [.tmp 2] (by kernel_rfl) [] [.bool true] [] (by kernel_rfl) trivial ?_
    exact ⟨congrArg Ending.returned (by first | rfl | exact congrArg Value.bool (next_put hn (by assumption) (by assumption) (by assumption))), H15.below⟩
end Go.Proofs.Ytnpbnkfmajokfaa.Fl
