/- The laws of flotsamlaw02. Conditions: the arguments are of their kinds. -/
import Derived.Test.YtnpbnkfmajokfaaHeadRef
set_option linter.unusedVariables false
set_option linter.unusedSimpArgs false
namespace Go.Proofs.Ytnpbnkfmajokfaa.Fl
open Go.RowKit
theorem law02_awake  : Pure noRo P0 11 #[] (.bool true) := by
  intro w0 hG
  have H0 := Own.begin hG
  refine enter (fn := F11) (c := B11) (n := 57) [] (by kernel_rfl) (by kernel_rfl) (by kernel_rfl) (by kernel_rfl) (by kernel_rfl) ?_
  refine CW.seq (x := (cAt B11 [0])) (y := (cAt B11 [1])) (by kernel_rfl) ?_
  refine CW.region (id := 0) (d := false) H0 (by kernel_rfl) mixed 0 [] [] [0] [0] (by kernel_rfl)
    (fun β1 _ => [(0, .bool false)]) (fun β1 _ => [some (.ro noRo)]) (fun β1 _ => []) (fun _ _ => [])
    (fun _ _ => by kernel_rfl) (fun _ _ => trivial) ?_
  intro β1 _ w1 H1 _
  refine NQ.then ?_
  refine CW.seq (x := (cAt B11 [1, 0])) (y := (cAt B11 [1, 1])) (by kernel_rfl) ?_
  refine CW.region (id := 1) (d := false) H1 (by kernel_rfl) mixed 0 [(1, .call 0 (pureRec (.tuple #[.int .u64 146, .bool true])))] [] [0, 1, 2] [0] (by kernel_rfl)
    (fun β2 _ => [(0, .bool false), (1, .int .u64 146), (2, .bool true)]) (fun β2 _ => [some (.ro noRo)]) (fun β2 _ => [CallOb P0 12 #[.agg #[.bool true, .bool false, .int .i64 1, .int .i64 2]] [some (.ro noRo)] (pureRec (.tuple #[.int .u64 146, .bool true]))]) (fun _ _ => [True])
    (fun _ _ => by kernel_rfl) (fun _ _ => ⟨(Pure.ob (head_Put true false 1 2 (by first | assumption | (unfold in64; omega) | (unfold inU64; omega) | (unfold inU32; omega) | (unfold inU8; omega) | omega | (simp only [in64, inU64, inU32, inU8] at *; omega)) (by first | assumption | (unfold in64; omega) | (unfold inU64; omega) | (unfold inU32; omega) | (unfold inU8; omega) | omega | (simp only [in64, inU64, inU32, inU8] at *; omega)))), trivial⟩) ?_
  intro β2 _ w2 H2 _
  refine NQ.then ?_
  refine CW.seq (x := (cAt B11 [1, 1, 0])) (y := (cAt B11 [1, 1, 1])) (by kernel_rfl) ?_
  refine CW.region (id := 2) (d := false) H2 (by kernel_rfl) mixed 1 [(0, .call 0 (pureRec (.tuple #[.agg #[.bool true, .bool true, .int .i64 1, .int .i64 2], .bool true]))), (4, .key 1), (5, .key 1)] [] [0, 1, 2, 3, 4] [0, 1] (by kernel_rfl)
    (fun β3 _ => [(0, .bool false), (1, .int .u64 146), (2, .bool true), (3, .pointer (some ⟨(β3 4), 0, none⟩)), (4, .bool true)]) (fun β3 _ => [some (.ro noRo), some (.blk (β3 4) [.bool true, .bool true, .int .i64 1, .int .i64 2] 23)]) (fun β3 _ => [CallOb P0 16 #[.int .u64 210] [some (.ro noRo)] (pureRec (.tuple #[.agg #[.bool true, .bool true, .int .i64 1, .int .i64 2], .bool true])), (β3 4) = (β3 4)]) (fun _ _ => [True])
    (fun _ _ => by kernel_rfl) (fun _ _ => ⟨(Pure.ob (head_Get 210 (by first | assumption | (unfold in64; omega) | (unfold inU64; omega) | (unfold inU32; omega) | (unfold inU8; omega) | omega | (simp only [in64, inU64, inU32, inU8] at *; omega)))), rfl, trivial⟩) ?_
  intro β3 _ w3 H3 _
  refine NQ.then ?_
  refine CW.seq (x := (cAt B11 [1, 1, 1, 0])) (y := (cAt B11 [1, 1, 1, 1])) (by kernel_rfl) ?_
  refine CW.region (id := 3) (d := false) H3 (by kernel_rfl) mixed 1 [(0, .call 0 (pureRec (.tuple #[.agg #[.bool false, .bool false, .int .i64 0, .int .i64 0], .bool false]))), (4, .key 2), (5, .key 2)] [] [0, 1, 2, 3, 4, 6] [0, 1, 2] (by kernel_rfl)
    (fun β4 _ => [(0, .bool false), (1, .int .u64 146), (2, .bool true), (3, .pointer (some ⟨(β3 4), 0, none⟩)), (4, .bool true), (6, .bool false)]) (fun β4 _ => [some (.ro noRo), some (.blk (β3 4) [.bool true, .bool true, .int .i64 1, .int .i64 2] 23), some (.blk (β4 4) [.bool false, .bool false, .int .i64 0, .int .i64 0] 23)]) (fun β4 _ => [CallOb P0 16 #[.int .u64 132] [some (.ro noRo)] (pureRec (.tuple #[.agg #[.bool false, .bool false, .int .i64 0, .int .i64 0], .bool false])), (β4 4) = (β4 4)]) (fun _ _ => [True])
    (fun _ _ => by kernel_rfl) (fun _ _ => ⟨(Pure.ob (head_Get 132 (by first | assumption | (unfold in64; omega) | (unfold inU64; omega) | (unfold inU32; omega) | (unfold inU8; omega) | omega | (simp only [in64, inU64, inU32, inU8] at *; omega)))), rfl, trivial⟩) ?_
  intro β4 _ w4 H4 _
  refine NQ.then ?_
  refine CW.seq (x := (cAt B11 [1, 1, 1, 1, 0])) (y := (cAt B11 [1, 1, 1, 1, 1])) (by kernel_rfl) ?_
  refine CW.region (id := 4) (d := false) H4 (by kernel_rfl) mixed 0 [(1, .call 0 (pureRec (.tuple #[.int .u64 0, .bool false])))] [] [0, 1, 2, 3, 4, 6, 8] [0, 1, 2] (by kernel_rfl)
    (fun β5 _ => [(0, .bool false), (1, .int .u64 146), (2, .bool true), (3, .pointer (some ⟨(β3 4), 0, none⟩)), (4, .bool true), (6, .bool false), (8, .bool false)]) (fun β5 _ => [some (.ro noRo), some (.blk (β3 4) [.bool true, .bool true, .int .i64 1, .int .i64 2] 23), some (.blk (β4 4) [.bool false, .bool false, .int .i64 0, .int .i64 0] 23)]) (fun β5 _ => [CallOb P0 12 #[.agg #[.bool true, .bool false, .int .i64 0, .int .i64 2]] [some (.ro noRo)] (pureRec (.tuple #[.int .u64 0, .bool false]))]) (fun _ _ => [True])
    (fun _ _ => by kernel_rfl) (fun _ _ => ⟨(Pure.ob (head_Put true false 0 2 (by first | assumption | (unfold in64; omega) | (unfold inU64; omega) | (unfold inU32; omega) | (unfold inU8; omega) | omega | (simp only [in64, inU64, inU32, inU8] at *; omega)) (by first | assumption | (unfold in64; omega) | (unfold inU64; omega) | (unfold inU32; omega) | (unfold inU8; omega) | omega | (simp only [in64, inU64, inU32, inU8] at *; omega)))), trivial⟩) ?_
  intro β5 _ w5 H5 _
  refine NQ.then ?_
  refine CW.seq (x := (cAt B11 [1, 1, 1, 1, 1, 0])) (y := (cAt B11 [1, 1, 1, 1, 1, 1])) (by kernel_rfl) ?_
  refine CW.region (id := 5) (d := false) H5 (by kernel_rfl) mixed 0 [(9, .key 1), (23, .call 0 (pureRec (.bool true))), (27, .call 0 (pureRec (.bool false)))] [] [0, 3] [0, 1, 2] (by kernel_rfl)
    (fun β6 _ => [(0, .bool true), (3, .pointer (some ⟨(β3 4), 0, none⟩))]) (fun β6 _ => [some (.ro noRo), some (.blk (β3 4) [.bool true, .bool true, .int .i64 1, .int .i64 2] 23), some (.blk (β4 4) [.bool false, .bool false, .int .i64 0, .int .i64 0] 23)]) (fun β6 _ => [(β3 4) = (β3 4), CallOb P0 14 #[.agg #[.bool false, .bool false, .int .i64 0, .int .i64 0]] [some (.ro noRo)] (pureRec (.bool true)), CallOb P0 14 #[.agg #[.bool false, .bool true, .int .i64 0, .int .i64 0]] [some (.ro noRo)] (pureRec (.bool false))]) (fun _ _ => [True, True])
    (fun _ _ => by kernel_rfl) (fun _ _ => ⟨rfl, (Pure.ob (head_May false false 0 0 )), (Pure.ob (head_May false true 0 0 )), trivial⟩) ?_
  intro β6 _ w6 H6 _
  refine NQ.then ?_
  refine CW.ret (by kernel_rfl) ?_
  refine NQ.ret H6 [.tmp 0] (by kernel_rfl) [] [.bool true] [] (by kernel_rfl) trivial ?_
  exact ⟨congrArg Ending.returned (by clear H0 H1 H2 H3 H4 H5 H6; first | (simp_all [tupV, eq_self]; done) | (simp_all [tupV, eq_self] <;> omega)), H6.below⟩

theorem law_HeaderPuts (u : Bool) (c : Bool) (k : Int) (n : Int) (hk : in64 k) (hn : in64 n) : Pure noRo P0 3 #[.agg #[.bool u, .bool c, .int .i64 k, .int .i64 n]] (.bool true) := by
  intro w0 hG
  have H0 := Own.begin hG
  refine enter (fn := F3) (c := B3) (n := 37) [(0, .agg #[.bool u, .bool c, .int .i64 k, .int .i64 n])] (by kernel_rfl) (by kernel_rfl) (by kernel_rfl) (by kernel_rfl) (by kernel_rfl) ?_
  refine CW.seq (x := (cAt B3 [0])) (y := (cAt B3 [1])) (by kernel_rfl) ?_
  refine CW.region (id := 0) (d := false) H0 (by kernel_rfl) mixed 1 [(0, .key 1)] [] [1, 2] [0, 1] (by kernel_rfl)
    (fun β1 _ => [(1, .pointer (some ⟨(β1 0), 0, none⟩)), (2, .bool false)]) (fun β1 _ => [some (.ro noRo), some (.blk (β1 0) [.bool u, .bool c, .int .i64 k, .int .i64 n] 23)]) (fun β1 _ => []) (fun _ _ => [])
    (fun _ _ => by kernel_rfl) (fun _ _ => trivial) ?_
  intro β1 _ w1 H1 _
  refine NQ.then ?_
  refine CW.seq (x := (cAt B3 [1, 0])) (y := (cAt B3 [1, 1])) (by kernel_rfl) ?_
  refine CW.seq (x := (cAt B3 [1, 0, 0])) (y := (cAt B3 [1, 0, 1])) (by kernel_rfl) ?_
  refine CW.region (id := 1) (d := false) H1 (by kernel_rfl) mixed 0 [(0, .call 0 (pureRec (.bool true)))] [] [1, 2, 6] [0, 1] (by kernel_rfl)
    (fun β2 _ => [(1, .pointer (some ⟨(β1 0), 0, none⟩)), (2, .bool false), (6, .bool false)]) (fun β2 _ => [some (.ro noRo), some (.blk (β1 0) [.bool u, .bool c, .int .i64 k, .int .i64 n] 23)]) (fun β2 _ => [CallOb P0 11 #[] [some (.ro noRo)] (pureRec (.bool true))]) (fun _ _ => [True])
    (fun _ _ => by kernel_rfl) (fun _ _ => ⟨(Pure.ob (law02_awake  )), trivial⟩) ?_
  intro β2 _ w2 H2 _
  refine NQ.then ?_
  refine CW.cond_f (o := .tmp 6) (b := false) (x := (cAt B3 [1, 0, 1, 0])) (y := (cAt B3 [1, 0, 1, 1])) (by kernel_rfl) (by kernel_rfl) rfl ?_
  refine CW.skip (by kernel_rfl) ?_
  refine NQ.then ?_
  refine CW.seq (x := (cAt B3 [1, 1, 0])) (y := (cAt B3 [1, 1, 1])) (by kernel_rfl) ?_
  refine CW.region (id := 3) (d := false) H2 (by kernel_rfl) mixed 0 [(0, .key 1), (1, .call 0 (pureRec (.tuple #[.int .u64 (hPut u c k n), .bool (hMay u c k n)])))] [] [1, 2, 3, 4] [0, 1] (by kernel_rfl)
    (fun β3 _ => [(1, .pointer (some ⟨(β1 0), 0, none⟩)), (2, .bool false), (3, .int .u64 (hPut u c k n)), (4, .bool (hMay u c k n))]) (fun β3 _ => [some (.ro noRo), some (.blk (β1 0) [.bool u, .bool c, .int .i64 k, .int .i64 n] 23)]) (fun β3 _ => [(β1 0) = (β1 0), CallOb P0 12 #[.agg #[.bool u, .bool c, .int .i64 k, .int .i64 n]] [some (.ro noRo)] (pureRec (.tuple #[.int .u64 (hPut u c k n), .bool (hMay u c k n)]))]) (fun _ _ => [True])
    (fun _ _ => by kernel_rfl) (fun _ _ => ⟨rfl, (Pure.ob (head_Put u c k n (by first | assumption | (unfold in64; omega) | (unfold inU64; omega) | (unfold inU32; omega) | (unfold inU8; omega) | omega | (simp only [in64, inU64, inU32, inU8] at *; omega)) (by first | assumption | (unfold in64; omega) | (unfold inU64; omega) | (unfold inU32; omega) | (unfold inU8; omega) | omega | (simp only [in64, inU64, inU32, inU8] at *; omega)))), trivial⟩) ?_
  intro β3 _ w3 H3 _
  refine NQ.then ?_
  refine CW.seq (x := (cAt B3 [1, 1, 1, 0])) (y := (cAt B3 [1, 1, 1, 1])) (by kernel_rfl) ?_
  refine CW.seq (x := (cAt B3 [1, 1, 1, 0, 0])) (y := (cAt B3 [1, 1, 1, 0, 1])) (by kernel_rfl) ?_
  refine CW.region (id := 4) (d := false) H3 (by kernel_rfl) mixed 0 [(0, .key 1), (1, .call 0 (pureRec (.bool (hMay u c k n))))] [] [1, 2, 3, 4, 14] [0, 1] (by kernel_rfl)
    (fun β4 _ => [(1, .pointer (some ⟨(β1 0), 0, none⟩)), (2, .bool false), (3, .int .u64 (hPut u c k n)), (4, .bool (hMay u c k n)), (14, .bool (!(hMay u c k n)))]) (fun β4 _ => [some (.ro noRo), some (.blk (β1 0) [.bool u, .bool c, .int .i64 k, .int .i64 n] 23)]) (fun β4 _ => [(β1 0) = (β1 0), CallOb P0 13 #[.agg #[.bool u, .bool c, .int .i64 k, .int .i64 n]] [some (.ro noRo)] (pureRec (.bool (hMay u c k n)))]) (fun _ _ => [True])
    (fun _ _ => by kernel_rfl) (fun _ _ => ⟨rfl, (Pure.ob (ref02_May u c k n)), trivial⟩) ?_
  intro β4 _ w4 H4 _
  refine NQ.then ?_
  rcases Bool.eq_false_or_eq_true (hMay u c k n) with h5 | h5
  · refine CW.cond_f (o := .tmp 14) (b := (!(hMay u c k n))) (x := (cAt B3 [1, 1, 1, 0, 1, 0])) (y := (cAt B3 [1, 1, 1, 0, 1, 1])) (by kernel_rfl) (by kernel_rfl) (by rw [show (hMay u c k n) = true from h5]; rfl) ?_
    refine CW.skip (by kernel_rfl) ?_
    refine NQ.then ?_
    refine CW.seq (x := (cAt B3 [1, 1, 1, 1, 0])) (y := (cAt B3 [1, 1, 1, 1, 1])) (by kernel_rfl) ?_
    refine CW.region (id := 6) (d := false) H4 (by kernel_rfl) mixed 0 [(0, .key 1), (1, .call 0 (pureRec (.bool (hMay u c k n)))), (4, .dec true), (7, .key 1), (8, .call 0 (pureRec (.int .u64 (hPut u c k n)))), (10, .dec true)] [(3, true), (6, true), (7, true), (8, true), (9, true)] [1, 2, 3, 4] [0, 1] (by kernel_rfl)
      (fun β6 _ => [(1, .pointer (some ⟨(β1 0), 0, none⟩)), (2, .bool ((hPut u c k n) == (hPut u c k n))), (3, .int .u64 (hPut u c k n)), (4, .bool (hMay u c k n))]) (fun β6 _ => [some (.ro noRo), some (.blk (β1 0) [.bool u, .bool c, .int .i64 k, .int .i64 n] 23)]) (fun β6 _ => [(β1 0) = (β1 0), CallOb P0 14 #[.agg #[.bool u, .bool c, .int .i64 k, .int .i64 n]] [some (.ro noRo)] (pureRec (.bool (hMay u c k n))), ((hMay u c k n) == true) = true, (hMay u c k n) = true, ((hMay u c k n) == true) = true, ((hMay u c k n) == true) = true, (β1 0) = (β1 0), ((hMay u c k n) == true) = true, CallOb P0 15 #[.agg #[.bool u, .bool c, .int .i64 k, .int .i64 n]] [some (.ro noRo)] (pureRec (.int .u64 (hPut u c k n))), ((hMay u c k n) == true) = true, (hMay u c k n) = true]) (fun _ _ => [True, True])
      (fun _ _ => by kernel_rfl) (fun _ _ => ⟨rfl, (Pure.ob (head_May u c k n )), (by rw [show (hMay u c k n) = true from h5]; rfl), h5, (by rw [show (hMay u c k n) = true from h5]; rfl), (by rw [show (hMay u c k n) = true from h5]; rfl), rfl, (by rw [show (hMay u c k n) = true from h5]; rfl), (Pure.ob (ref02_Put u c k n (by first | assumption | (unfold in64; omega) | (unfold inU64; omega) | (unfold inU32; omega) | (unfold inU8; omega) | omega | (simp only [in64, inU64, inU32, inU8] at *; omega)))), (by rw [show (hMay u c k n) = true from h5]; rfl), h5, trivial⟩) ?_
    intro β6 _ w6 H6 _
    refine NQ.then ?_
    refine CW.ret (by kernel_rfl) ?_
    refine NQ.ret H6 [.tmp 2] (by kernel_rfl) [] [.bool ((hPut u c k n) == (hPut u c k n))] [] (by kernel_rfl) trivial ?_
    exact ⟨congrArg Ending.returned (by clear H0 H1 H2 H3 H4 H6; first | (simp_all [tupV, hPut]; done) | (simp_all [tupV, hPut] <;> omega)), H6.below⟩
  · refine CW.cond_t (o := .tmp 14) (b := (!(hMay u c k n))) (x := (cAt B3 [1, 1, 1, 0, 1, 0])) (y := (cAt B3 [1, 1, 1, 0, 1, 1])) (by kernel_rfl) (by kernel_rfl) (by rw [show (hMay u c k n) = false from h5]; rfl) ?_
    refine CW.seq (x := (cAt B3 [1, 1, 1, 0, 1, 0, 0])) (y := (cAt B3 [1, 1, 1, 0, 1, 0, 1])) (by kernel_rfl) ?_
    refine CW.region (id := 5) (d := false) H4 (by kernel_rfl) mixed 0 [(0, .key 1), (1, .call 0 (pureRec (.bool (hMay u c k n)))), (6, .dec true), (10, .dec true)] [(4, true), (5, true), (8, true), (9, true)] [1, 2, 3, 4] [0, 1] (by kernel_rfl)
      (fun β7 _ => [(1, .pointer (some ⟨(β1 0), 0, none⟩)), (2, .bool ((hPut u c k n) == 0)), (3, .int .u64 (hPut u c k n)), (4, .bool (hMay u c k n))]) (fun β7 _ => [some (.ro noRo), some (.blk (β1 0) [.bool u, .bool c, .int .i64 k, .int .i64 n] 23)]) (fun β7 _ => [(β1 0) = (β1 0), CallOb P0 14 #[.agg #[.bool u, .bool c, .int .i64 k, .int .i64 n]] [some (.ro noRo)] (pureRec (.bool (hMay u c k n))), ((!(hMay u c k n)) == true) = true, ((!(hMay u c k n)) == true) = true, (!(hMay u c k n)) = true, ((!(hMay u c k n)) == true) = true, ((!(hMay u c k n)) == true) = true, (!(hMay u c k n)) = true]) (fun _ _ => [True])
      (fun _ _ => by kernel_rfl) (fun _ _ => ⟨rfl, (Pure.ob (head_May u c k n )), (by rw [show (!(hMay u c k n)) = true from (by rw [show (hMay u c k n) = false from h5]; rfl)]; rfl), (by rw [show (!(hMay u c k n)) = true from (by rw [show (hMay u c k n) = false from h5]; rfl)]; rfl), (by rw [show (hMay u c k n) = false from h5]; rfl), (by rw [show (!(hMay u c k n)) = true from (by rw [show (hMay u c k n) = false from h5]; rfl)]; rfl), (by rw [show (!(hMay u c k n)) = true from (by rw [show (hMay u c k n) = false from h5]; rfl)]; rfl), (by rw [show (hMay u c k n) = false from h5]; rfl), trivial⟩) ?_
    intro β7 _ w7 H7 _
    refine NQ.then ?_
    refine CW.ret (by kernel_rfl) ?_
    refine NQ.then_ret ?_
    refine NQ.ret H7 [.tmp 2] (by kernel_rfl) [] [.bool ((hPut u c k n) == 0)] [] (by kernel_rfl) trivial ?_
    exact ⟨congrArg Ending.returned (by clear H0 H1 H2 H3 H4 H7; first | (simp_all [tupV, hPut]; done) | (simp_all [tupV, hPut] <;> omega)), H7.below⟩

theorem law_HeaderGets (w : Int) (hw : inU64 w) : Pure noRo P0 4 #[.int .u64 w] (.bool true) := by
  intro w0 hG
  have H0 := Own.begin hG
  refine enter (fn := F4) (c := B4) (n := 27) [(0, .int .u64 w)] (by kernel_rfl) (by kernel_rfl) (by kernel_rfl) (by kernel_rfl) (by kernel_rfl) ?_
  refine CW.seq (x := (cAt B4 [0])) (y := (cAt B4 [1])) (by kernel_rfl) ?_
  refine CW.region (id := 0) (d := false) H0 (by kernel_rfl) mixed 0 [] [] [0, 2] [0] (by kernel_rfl)
    (fun β1 _ => [(0, .int .u64 w), (2, .bool false)]) (fun β1 _ => [some (.ro noRo)]) (fun β1 _ => []) (fun _ _ => [])
    (fun _ _ => by kernel_rfl) (fun _ _ => trivial) ?_
  intro β1 _ w1 H1 _
  refine NQ.then ?_
  refine CW.seq (x := (cAt B4 [1, 0])) (y := (cAt B4 [1, 1])) (by kernel_rfl) ?_
  refine CW.seq (x := (cAt B4 [1, 0, 0])) (y := (cAt B4 [1, 0, 1])) (by kernel_rfl) ?_
  refine CW.region (id := 1) (d := false) H1 (by kernel_rfl) mixed 0 [(0, .call 0 (pureRec (.bool true)))] [] [0, 2, 8] [0] (by kernel_rfl)
    (fun β2 _ => [(0, .int .u64 w), (2, .bool false), (8, .bool false)]) (fun β2 _ => [some (.ro noRo)]) (fun β2 _ => [CallOb P0 11 #[] [some (.ro noRo)] (pureRec (.bool true))]) (fun _ _ => [True])
    (fun _ _ => by kernel_rfl) (fun _ _ => ⟨(Pure.ob (law02_awake  )), trivial⟩) ?_
  intro β2 _ w2 H2 _
  refine NQ.then ?_
  refine CW.cond_f (o := .tmp 8) (b := false) (x := (cAt B4 [1, 0, 1, 0])) (y := (cAt B4 [1, 0, 1, 1])) (by kernel_rfl) (by kernel_rfl) rfl ?_
  refine CW.skip (by kernel_rfl) ?_
  refine NQ.then ?_
  refine CW.seq (x := (cAt B4 [1, 1, 0])) (y := (cAt B4 [1, 1, 1])) (by kernel_rfl) ?_
  refine CW.region (id := 3) (d := false) H2 (by kernel_rfl) mixed 1 [(1, .call 0 (pureRec (.tuple #[.agg #[.bool (gV w), .bool (gC w), .int .i64 (gK w), .int .i64 (gN w)], .bool (gOk w)]))), (5, .key 1), (6, .key 1)] [] [0, 2, 3, 4] [0, 1] (by kernel_rfl)
    (fun β3 _ => [(0, .int .u64 w), (2, .bool false), (3, .pointer (some ⟨(β3 5), 0, none⟩)), (4, .bool (gOk w))]) (fun β3 _ => [some (.ro noRo), some (.blk (β3 5) [.bool (gV w), .bool (gC w), .int .i64 (gK w), .int .i64 (gN w)] 23)]) (fun β3 _ => [CallOb P0 16 #[.int .u64 w] [some (.ro noRo)] (pureRec (.tuple #[.agg #[.bool (gV w), .bool (gC w), .int .i64 (gK w), .int .i64 (gN w)], .bool (gOk w)])), (β3 5) = (β3 5)]) (fun _ _ => [True])
    (fun _ _ => by kernel_rfl) (fun _ _ => ⟨(Pure.ob (head_Get w (by first | assumption | (unfold in64; omega) | (unfold inU64; omega) | (unfold inU32; omega) | (unfold inU8; omega) | omega | (simp only [in64, inU64, inU32, inU8] at *; omega)))), rfl, trivial⟩) ?_
  intro β3 _ w3 H3 _
  refine NQ.then ?_
  refine CW.seq (x := (cAt B4 [1, 1, 1, 0])) (y := (cAt B4 [1, 1, 1, 1])) (by kernel_rfl) ?_
  refine CW.region (id := 4) (d := false) H3 (by kernel_rfl) mixed 1 [(1, .call 0 (pureRec (.tuple #[.agg #[.bool (gV w), .bool (gC w), .int .i64 (gK w), .int .i64 (gN w)], .bool (gOk w)]))), (5, .key 2), (6, .key 2)] [] [0, 2, 3, 4, 5, 6] [0, 1, 2] (by kernel_rfl)
    (fun β4 _ => [(0, .int .u64 w), (2, .bool false), (3, .pointer (some ⟨(β3 5), 0, none⟩)), (4, .bool (gOk w)), (5, .pointer (some ⟨(β4 5), 0, none⟩)), (6, .bool (gOk w))]) (fun β4 _ => [some (.ro noRo), some (.blk (β3 5) [.bool (gV w), .bool (gC w), .int .i64 (gK w), .int .i64 (gN w)] 23), some (.blk (β4 5) [.bool (gV w), .bool (gC w), .int .i64 (gK w), .int .i64 (gN w)] 23)]) (fun β4 _ => [CallOb P0 17 #[.int .u64 w] [some (.ro noRo)] (pureRec (.tuple #[.agg #[.bool (gV w), .bool (gC w), .int .i64 (gK w), .int .i64 (gN w)], .bool (gOk w)])), (β4 5) = (β4 5)]) (fun _ _ => [True])
    (fun _ _ => by kernel_rfl) (fun _ _ => ⟨(Pure.ob (ref02_Get w (by first | assumption | (unfold in64; omega) | (unfold inU64; omega) | (unfold inU32; omega) | (unfold inU8; omega) | omega | (simp only [in64, inU64, inU32, inU8] at *; omega)))), rfl, trivial⟩) ?_
  intro β4 _ w4 H4 _
  refine NQ.then ?_
  refine CW.seq (x := (cAt B4 [1, 1, 1, 1, 0])) (y := (cAt B4 [1, 1, 1, 1, 1])) (by kernel_rfl) ?_
  rcases Bool.eq_false_or_eq_true (((gV w) == (gV w)) && (((gC w) == (gC w)) && (((gK w) == (gK w)) && (((gN w) == (gN w)) && true)))) with h5 | h5
  · refine CW.region (id := 5) (d := false) H4 (by kernel_rfl) mixed 0 [(0, .key 1), (1, .key 2), (7, .dec true)] [(4, true), (5, true), (6, true)] [0, 2, 3, 5] [0, 1, 2] (by kernel_rfl)
      (fun β6 _ => [(0, .int .u64 w), (2, .bool ((gOk w) == (gOk w))), (3, .pointer (some ⟨(β3 5), 0, none⟩)), (5, .pointer (some ⟨(β4 5), 0, none⟩))]) (fun β6 _ => [some (.ro noRo), some (.blk (β3 5) [.bool (gV w), .bool (gC w), .int .i64 (gK w), .int .i64 (gN w)] 23), some (.blk (β4 5) [.bool (gV w), .bool (gC w), .int .i64 (gK w), .int .i64 (gN w)] 23)]) (fun β6 _ => [(β3 5) = (β3 5), (β4 5) = (β4 5), ((((gV w) == (gV w)) && (((gC w) == (gC w)) && (((gK w) == (gK w)) && (((gN w) == (gN w)) && true)))) == true) = true, ((((gV w) == (gV w)) && (((gC w) == (gC w)) && (((gK w) == (gK w)) && (((gN w) == (gN w)) && true)))) == true) = true, ((((gV w) == (gV w)) && (((gC w) == (gC w)) && (((gK w) == (gK w)) && (((gN w) == (gN w)) && true)))) == true) = true, (((gV w) == (gV w)) && (((gC w) == (gC w)) && (((gK w) == (gK w)) && (((gN w) == (gN w)) && true)))) = true]) (fun _ _ => [])
      (fun _ _ => by kernel_rfl) (fun _ _ => ⟨rfl, rfl, (by rw [show (((gV w) == (gV w)) && (((gC w) == (gC w)) && (((gK w) == (gK w)) && (((gN w) == (gN w)) && true)))) = true from h5]; rfl), (by rw [show (((gV w) == (gV w)) && (((gC w) == (gC w)) && (((gK w) == (gK w)) && (((gN w) == (gN w)) && true)))) = true from h5]; rfl), (by rw [show (((gV w) == (gV w)) && (((gC w) == (gC w)) && (((gK w) == (gK w)) && (((gN w) == (gN w)) && true)))) = true from h5]; rfl), h5, trivial⟩) ?_
    intro β6 _ w6 H6 _
    refine NQ.then ?_
    refine CW.ret (by kernel_rfl) ?_
    refine NQ.ret H6 [.tmp 2] (by kernel_rfl) [] [.bool ((gOk w) == (gOk w))] [] (by kernel_rfl) trivial ?_
    exact ⟨congrArg Ending.returned (by clear H0 H1 H2 H3 H4 H6; first | (simp_all [tupV, eq_self]; done) | (simp_all [tupV, eq_self] <;> omega)), H6.below⟩
  · refine CW.region (id := 5) (d := false) H4 (by kernel_rfl) mixed 0 [(0, .key 1), (1, .key 2), (7, .dec false)] [(4, false), (5, false), (6, false)] [0, 2, 3, 5] [0, 1, 2] (by kernel_rfl)
      (fun β7 _ => [(0, .int .u64 w), (2, .bool false), (3, .pointer (some ⟨(β3 5), 0, none⟩)), (5, .pointer (some ⟨(β4 5), 0, none⟩))]) (fun β7 _ => [some (.ro noRo), some (.blk (β3 5) [.bool (gV w), .bool (gC w), .int .i64 (gK w), .int .i64 (gN w)] 23), some (.blk (β4 5) [.bool (gV w), .bool (gC w), .int .i64 (gK w), .int .i64 (gN w)] 23)]) (fun β7 _ => [(β3 5) = (β3 5), (β4 5) = (β4 5), ((((gV w) == (gV w)) && (((gC w) == (gC w)) && (((gK w) == (gK w)) && (((gN w) == (gN w)) && true)))) == true) = false, ((((gV w) == (gV w)) && (((gC w) == (gC w)) && (((gK w) == (gK w)) && (((gN w) == (gN w)) && true)))) == true) = false, ((((gV w) == (gV w)) && (((gC w) == (gC w)) && (((gK w) == (gK w)) && (((gN w) == (gN w)) && true)))) == true) = false, (((gV w) == (gV w)) && (((gC w) == (gC w)) && (((gK w) == (gK w)) && (((gN w) == (gN w)) && true)))) = false]) (fun _ _ => [])
      (fun _ _ => by kernel_rfl) (fun _ _ => ⟨rfl, rfl, (by rw [show (((gV w) == (gV w)) && (((gC w) == (gC w)) && (((gK w) == (gK w)) && (((gN w) == (gN w)) && true)))) = false from h5]; rfl), (by rw [show (((gV w) == (gV w)) && (((gC w) == (gC w)) && (((gK w) == (gK w)) && (((gN w) == (gN w)) && true)))) = false from h5]; rfl), (by rw [show (((gV w) == (gV w)) && (((gC w) == (gC w)) && (((gK w) == (gK w)) && (((gN w) == (gN w)) && true)))) = false from h5]; rfl), h5, trivial⟩) ?_
    intro β7 _ w7 H7 _
    refine NQ.then ?_
    refine CW.ret (by kernel_rfl) ?_
    refine NQ.ret H7 [.tmp 2] (by kernel_rfl) [] [.bool false] [] (by kernel_rfl) trivial ?_
    exact ⟨congrArg Ending.returned (by clear H0 H1 H2 H3 H4 H7; first | (simp_all [tupV, eq_self]; done) | (simp_all [tupV, eq_self] <;> omega)), H7.below⟩

theorem hMay_or {u c : Bool} {k n : Int} (h : hMay u c k n = true) : (u = false ∧ c = false ∧ k = 0 ∧ n = 0 ∧ hPut u c k n = 0) ∨ (u = true ∧ 0 ≤ k ∧ k < 4 ∧ 0 ≤ n ∧ n < two k ∧ hPut u c k n = 128 + 16 * k + n + (if c = true then 64 else 0)) := by
  cases u with
  | true =>
    obtain ⟨a, b, d, e⟩ := hMay_t.1 h
    exact .inr ⟨rfl, a, b, d, e, by unfold hPut; rw [if_pos h, if_pos rfl]⟩
  | false =>
    have h2 : c = false ∧ k = 0 ∧ n = 0 := by simpa [hMay] using h
    exact .inl ⟨rfl, h2.1, h2.2.1, h2.2.2, by unfold hPut; rw [if_pos h, if_neg (by simp)]⟩
theorem hPut_u64 {u c : Bool} {k n : Int} : inU64 (hPut u c k n) := by
  cases h : hMay u c k n with
  | false => unfold hPut; rw [if_neg (by simp [h])]; unfold inU64; omega
  | true =>
    have := two_le (k := k)
    rcases hMay_or h with ⟨_, _, _, _, e⟩ | ⟨_, h0, h4, n0, n1, e⟩
    · rw [e]; unfold inU64; omega
    · rw [e]; unfold inU64; split <;> omega
theorem get_put {u c : Bool} {k n : Int} (h : hMay u c k n = true) : gV (hPut u c k n) = u ∧ gC (hPut u c k n) = c ∧ gK (hPut u c k n) = k ∧ gN (hPut u c k n) = n ∧ gOk (hPut u c k n) = true := by
  rcases hMay_or h with ⟨rfl, rfl, rfl, rfl, e⟩ | ⟨rfl, h0, h4, n0, n1, e⟩
  · rw [e]; exact ⟨rfl, rfl, rfl, rfl, rfl⟩
  · have h2 := two_le (k := k)
    generalize hPut true c k n = w at e
    cases c with
    | true =>
      rw [if_pos rfl] at e
      have ek : w / 16 % 4 = k := by omega
      have en : w % 16 = n := by omega
      have hv : gV w = true := gV_iff.2 ⟨by omega, by omega, by rw [ek, en]; exact n1⟩
      have ec : w / 64 % 2 = 1 := by omega
      exact ⟨hv, by unfold gC; rw [hv, ec]; rfl, by unfold gK; rw [if_pos hv, ek], by unfold gN; rw [if_pos hv, en], by unfold gOk; rw [hv]; simp⟩
    | false =>
      rw [if_neg (by simp)] at e
      have ek : w / 16 % 4 = k := by omega
      have en : w % 16 = n := by omega
      have hv : gV w = true := gV_iff.2 ⟨by omega, by omega, by rw [ek, en]; exact n1⟩
      have ec : w / 64 % 2 = 0 := by omega
      exact ⟨hv, by unfold gC; rw [hv, ec]; rfl, by unfold gK; rw [if_pos hv, ek], by unfold gN; rw [if_pos hv, en], by unfold gOk; rw [hv]; simp⟩
theorem get_put_b {u c : Bool} {k n : Int} (h : hMay u c k n = true) : ((gV (hPut u c k n) == u) && ((gC (hPut u c k n) == c) && ((gK (hPut u c k n) == k) && ((gN (hPut u c k n) == n) && true)))) = true := by
  obtain ⟨e1, e2, e3, e4, _⟩ := get_put h
  rw [e1, e2, e3, e4]; simp
theorem put_inj_b {u c u' c' : Bool} {k n k' n' : Int} (h : hMay u c k n = true) (h' : hMay u' c' k' n' = true) :
    ((hPut u c k n == hPut u' c' k' n') == ((u == u') && ((c == c') && ((k == k') && ((n == n') && true))))) = true := by
  have key : hPut u c k n = hPut u' c' k' n' ↔ (u = u' ∧ c = c' ∧ k = k' ∧ n = n') := by
    constructor
    · intro e
      obtain ⟨e1, e2, e3, e4, _⟩ := get_put h
      obtain ⟨f1, f2, f3, f4, _⟩ := get_put h'
      rw [e] at e1 e2 e3 e4
      exact ⟨e1.symm.trans f1, e2.symm.trans f2, e3.symm.trans f3, e4.symm.trans f4⟩
    · rintro ⟨rfl, rfl, rfl, rfl⟩; rfl
  rw [beq_iff_eq, Bool.eq_iff_iff]
  simpa using key
theorem gOk_may {w : Int} (hw : inU64 w) : hMay (gV w) (gC w) (gK w) (gN w) = true := by
  cases h : gV w with
  | false => simp [hMay, gC, gK, gN, h]
  | true =>
    obtain ⟨h1, h2, h3⟩ := gV_iff.1 h
    refine hMay_t.2 ?_
    unfold gK gN
    rw [if_pos h, if_pos h]
    exact ⟨by omega, by omega, by omega, h3⟩
theorem gOk_put {w : Int} (hw : inU64 w) (h : gOk w = true) : hPut (gV w) (gC w) (gK w) (gN w) = w := by
  obtain ⟨e1, e2, e3, e4⟩ := gOk_t hw h
  rw [← e1, ← e2, ← e3, ← e4]
  exact ((get_back hw).2 h).2
theorem gOk_zero {w : Int} (h : gOk w = false) : ((gV w == false) && ((gC w == false) && ((gK w == 0) && ((gN w == 0) && true)))) = true := by
  have hv := gOk_f h
  simp [gC, gK, gN, hv]
theorem gK_64 {w : Int} : in64 (gK w) := by unfold gK in64; split <;> omega
theorem gN_64 {w : Int} : in64 (gN w) := by unfold gN in64; split <;> omega
theorem next_n {u c : Bool} {k n : Int} (h : hMay u c k n = true) : iAdd .i64 n 1 = n + 1 := by
  have := two_le (k := k)
  rcases hMay_or h with ⟨_, _, _, rfl, _⟩ | ⟨_, _, _, h1, h2, _⟩
  · rfl
  · exact add_i64 ⟨by omega, by omega⟩
theorem next_64 {u c : Bool} {k n : Int} (h : hMay u c k n = true) : in64 (n + 1) := by
  have := two_le (k := k)
  rcases hMay_or h with ⟨_, _, _, rfl, _⟩ | ⟨_, _, _, h1, h2, _⟩
  · unfold in64; omega
  · unfold in64; omega
theorem may_other {u c : Bool} {k n : Int} (h : hMay u c k n = true) (hu : u = true) : hMay u (!c) k n = true := by subst hu; exact hMay_t.2 (hMay_t.1 h)
theorem add64 {u c : Bool} {k n : Int} (m : Int) (h0 : 0 ≤ m) (h1 : m ≤ 64) : iAdd .u64 (hPut u c k n) m = hPut u c k n + m := by
  have hb : hPut u c k n ≤ 1000 := by
    cases h : hMay u c k n with
    | false => unfold hPut; rw [if_neg (by simp [h])]; omega
    | true =>
      have := two_le (k := k)
      rcases hMay_or h with ⟨_, _, _, _, e⟩ | ⟨_, h0, h4, n0, n1, e⟩
      · rw [e]; omega
      · rw [e]; split <;> omega
  have := (hPut_u64 (u := u) (c := c) (k := k) (n := n)).1
  exact add_u64 ⟨by omega, by omega⟩
theorem parts {u c : Bool} {k n : Int} (h : hMay u c k n = true) (hu : u = true) : 128 ≤ hPut u c k n ∧ hPut u c k n ≤ 255 ∧ (c = true → hPut u c k n = hPut u (!c) k n + 64) ∧ (c = false → hPut u (!c) k n = hPut u c k n + 64) ∧
    (hMay u c k (n + 1) = true → hPut u c k (n + 1) = hPut u c k n + 1) := by
  have h2 := two_le (k := k)
  have h' := may_other h hu
  rcases hMay_or h with ⟨e, _⟩ | ⟨_, h0, h4, n0, n1, e⟩
  · rw [hu] at e; cases e
  · rcases hMay_or h' with ⟨e', _⟩ | ⟨_, _, _, _, _, e'⟩
    · rw [hu] at e'; cases e'
    · refine ⟨?_, ?_, fun hc => ?_, fun hc => ?_, fun h3 => ?_⟩
      · rw [e]; split <;> omega
      · rw [e]; split <;> omega
      · rw [e, e', hc]; simp
      · rw [e, e', hc]; simp
      · rcases hMay_or h3 with ⟨e3, _⟩ | ⟨_, _, _, _, _, e3⟩
        · rw [hu] at e3; cases e3
        · rw [e, e3]; omega

theorem law_HeaderBack (u1 : Bool) (c1 : Bool) (k1 : Int) (n1 : Int) (u2 : Bool) (c2 : Bool) (k2 : Int) (n2 : Int) (w : Int) (hk1 : in64 k1) (hn1 : in64 n1) (hk2 : in64 k2) (hn2 : in64 n2) (hw : inU64 w) : Pure noRo P0 5 #[.agg #[.bool u1, .bool c1, .int .i64 k1, .int .i64 n1], .agg #[.bool u2, .bool c2, .int .i64 k2, .int .i64 n2], .int .u64 w] (.bool true) := by
  intro w0 hG
  have H0 := Own.begin hG
  refine enter (fn := F5) (c := B5) (n := 82) [(0, .agg #[.bool u1, .bool c1, .int .i64 k1, .int .i64 n1]), (1, .agg #[.bool u2, .bool c2, .int .i64 k2, .int .i64 n2]), (2, .int .u64 w)] (by kernel_rfl) (by kernel_rfl) (by kernel_rfl) (by kernel_rfl) (by kernel_rfl) ?_
  refine CW.seq (x := (cAt B5 [0])) (y := (cAt B5 [1])) (by kernel_rfl) ?_
  refine CW.region (id := 0) (d := false) H0 (by kernel_rfl) mixed 2 [(0, .key 1), (1, .key 2)] [] [2, 3, 4, 6] [0, 1, 2] (by kernel_rfl)
    (fun β1 _ => [(2, .int .u64 w), (3, .pointer (some ⟨(β1 0), 0, none⟩)), (4, .pointer (some ⟨(β1 1), 0, none⟩)), (6, .bool false)]) (fun β1 _ => [some (.ro noRo), some (.blk (β1 0) [.bool u1, .bool c1, .int .i64 k1, .int .i64 n1] 23), some (.blk (β1 1) [.bool u2, .bool c2, .int .i64 k2, .int .i64 n2] 23)]) (fun β1 _ => []) (fun _ _ => [])
    (fun _ _ => by kernel_rfl) (fun _ _ => trivial) ?_
  intro β1 _ w1 H1 _
  refine NQ.then ?_
  refine CW.seq (x := (cAt B5 [1, 0])) (y := (cAt B5 [1, 1])) (by kernel_rfl) ?_
  refine CW.seq (x := (cAt B5 [1, 0, 0])) (y := (cAt B5 [1, 0, 1])) (by kernel_rfl) ?_
  refine CW.region (id := 1) (d := false) H1 (by kernel_rfl) mixed 0 [(0, .call 0 (pureRec (.bool true)))] [] [2, 3, 4, 6, 18] [0, 1, 2] (by kernel_rfl)
    (fun β2 _ => [(2, .int .u64 w), (3, .pointer (some ⟨(β1 0), 0, none⟩)), (4, .pointer (some ⟨(β1 1), 0, none⟩)), (6, .bool false), (18, .bool false)]) (fun β2 _ => [some (.ro noRo), some (.blk (β1 0) [.bool u1, .bool c1, .int .i64 k1, .int .i64 n1] 23), some (.blk (β1 1) [.bool u2, .bool c2, .int .i64 k2, .int .i64 n2] 23)]) (fun β2 _ => [CallOb P0 11 #[] [some (.ro noRo)] (pureRec (.bool true))]) (fun _ _ => [True])
    (fun _ _ => by kernel_rfl) (fun _ _ => ⟨(Pure.ob (law02_awake  )), trivial⟩) ?_
  intro β2 _ w2 H2 _
  refine NQ.then ?_
  refine CW.cond_f (o := .tmp 18) (b := false) (x := (cAt B5 [1, 0, 1, 0])) (y := (cAt B5 [1, 0, 1, 1])) (by kernel_rfl) (by kernel_rfl) rfl ?_
  refine CW.skip (by kernel_rfl) ?_
  refine NQ.then ?_
  refine CW.seq (x := (cAt B5 [1, 1, 0])) (y := (cAt B5 [1, 1, 1])) (by kernel_rfl) ?_
  refine CW.region (id := 3) (d := false) H2 (by kernel_rfl) mixed 0 [(0, .key 1), (1, .call 0 (pureRec (.tuple #[.int .u64 (hPut u1 c1 k1 n1), .bool (hMay u1 c1 k1 n1)])))] [] [2, 3, 4, 6, 7, 8] [0, 1, 2] (by kernel_rfl)
    (fun β3 _ => [(2, .int .u64 w), (3, .pointer (some ⟨(β1 0), 0, none⟩)), (4, .pointer (some ⟨(β1 1), 0, none⟩)), (6, .bool false), (7, .int .u64 (hPut u1 c1 k1 n1)), (8, .bool (hMay u1 c1 k1 n1))]) (fun β3 _ => [some (.ro noRo), some (.blk (β1 0) [.bool u1, .bool c1, .int .i64 k1, .int .i64 n1] 23), some (.blk (β1 1) [.bool u2, .bool c2, .int .i64 k2, .int .i64 n2] 23)]) (fun β3 _ => [(β1 0) = (β1 0), CallOb P0 12 #[.agg #[.bool u1, .bool c1, .int .i64 k1, .int .i64 n1]] [some (.ro noRo)] (pureRec (.tuple #[.int .u64 (hPut u1 c1 k1 n1), .bool (hMay u1 c1 k1 n1)]))]) (fun _ _ => [True])
    (fun _ _ => by kernel_rfl) (fun _ _ => ⟨rfl, (Pure.ob (head_Put u1 c1 k1 n1 (by first | assumption | exact next_64 (by assumption) | exact hPut_u64 | exact gK_64 | exact gN_64 | (unfold in64; omega) | (unfold inU64; omega) | (unfold inU32; omega) | (unfold inU8; omega) | omega | (simp only [in64, inU64, inU32, inU8] at *; omega)) (by first | assumption | exact next_64 (by assumption) | exact hPut_u64 | exact gK_64 | exact gN_64 | (unfold in64; omega) | (unfold inU64; omega) | (unfold inU32; omega) | (unfold inU8; omega) | omega | (simp only [in64, inU64, inU32, inU8] at *; omega)))), trivial⟩) ?_
  intro β3 _ w3 H3 _
  refine NQ.then ?_
  refine CW.seq (x := (cAt B5 [1, 1, 1, 0])) (y := (cAt B5 [1, 1, 1, 1])) (by kernel_rfl) ?_
  refine CW.region (id := 4) (d := false) H3 (by kernel_rfl) mixed 0 [(0, .key 2), (1, .call 0 (pureRec (.tuple #[.int .u64 (hPut u2 c2 k2 n2), .bool (hMay u2 c2 k2 n2)])))] [] [2, 3, 4, 6, 7, 8, 9, 10] [0, 1, 2] (by kernel_rfl)
    (fun β4 _ => [(2, .int .u64 w), (3, .pointer (some ⟨(β1 0), 0, none⟩)), (4, .pointer (some ⟨(β1 1), 0, none⟩)), (6, .bool false), (7, .int .u64 (hPut u1 c1 k1 n1)), (8, .bool (hMay u1 c1 k1 n1)), (9, .int .u64 (hPut u2 c2 k2 n2)), (10, .bool (hMay u2 c2 k2 n2))]) (fun β4 _ => [some (.ro noRo), some (.blk (β1 0) [.bool u1, .bool c1, .int .i64 k1, .int .i64 n1] 23), some (.blk (β1 1) [.bool u2, .bool c2, .int .i64 k2, .int .i64 n2] 23)]) (fun β4 _ => [(β1 1) = (β1 1), CallOb P0 12 #[.agg #[.bool u2, .bool c2, .int .i64 k2, .int .i64 n2]] [some (.ro noRo)] (pureRec (.tuple #[.int .u64 (hPut u2 c2 k2 n2), .bool (hMay u2 c2 k2 n2)]))]) (fun _ _ => [True])
    (fun _ _ => by kernel_rfl) (fun _ _ => ⟨rfl, (Pure.ob (head_Put u2 c2 k2 n2 (by first | assumption | exact next_64 (by assumption) | exact hPut_u64 | exact gK_64 | exact gN_64 | (unfold in64; omega) | (unfold inU64; omega) | (unfold inU32; omega) | (unfold inU8; omega) | omega | (simp only [in64, inU64, inU32, inU8] at *; omega)) (by first | assumption | exact next_64 (by assumption) | exact hPut_u64 | exact gK_64 | exact gN_64 | (unfold in64; omega) | (unfold inU64; omega) | (unfold inU32; omega) | (unfold inU8; omega) | omega | (simp only [in64, inU64, inU32, inU8] at *; omega)))), trivial⟩) ?_
  intro β4 _ w4 H4 _
  refine NQ.then ?_
  refine CW.seq (x := (cAt B5 [1, 1, 1, 1, 0])) (y := (cAt B5 [1, 1, 1, 1, 1])) (by kernel_rfl) ?_
  refine CW.region (id := 5) (d := false) H4 (by kernel_rfl) mixed 1 [(1, .call 0 (pureRec (.tuple #[.agg #[.bool (gV w), .bool (gC w), .int .i64 (gK w), .int .i64 (gN w)], .bool (gOk w)]))), (5, .key 3), (6, .key 3)] [] [2, 3, 4, 6, 7, 8, 9, 10, 11, 12] [0, 1, 2, 3] (by kernel_rfl)
    (fun β5 _ => [(2, .int .u64 w), (3, .pointer (some ⟨(β1 0), 0, none⟩)), (4, .pointer (some ⟨(β1 1), 0, none⟩)), (6, .bool false), (7, .int .u64 (hPut u1 c1 k1 n1)), (8, .bool (hMay u1 c1 k1 n1)), (9, .int .u64 (hPut u2 c2 k2 n2)), (10, .bool (hMay u2 c2 k2 n2)), (11, .pointer (some ⟨(β5 5), 0, none⟩)), (12, .bool (gOk w))]) (fun β5 _ => [some (.ro noRo), some (.blk (β1 0) [.bool u1, .bool c1, .int .i64 k1, .int .i64 n1] 23), some (.blk (β1 1) [.bool u2, .bool c2, .int .i64 k2, .int .i64 n2] 23), some (.blk (β5 5) [.bool (gV w), .bool (gC w), .int .i64 (gK w), .int .i64 (gN w)] 23)]) (fun β5 _ => [CallOb P0 16 #[.int .u64 w] [some (.ro noRo)] (pureRec (.tuple #[.agg #[.bool (gV w), .bool (gC w), .int .i64 (gK w), .int .i64 (gN w)], .bool (gOk w)])), (β5 5) = (β5 5)]) (fun _ _ => [True])
    (fun _ _ => by kernel_rfl) (fun _ _ => ⟨(Pure.ob (head_Get w (by first | assumption | exact next_64 (by assumption) | exact hPut_u64 | exact gK_64 | exact gN_64 | (unfold in64; omega) | (unfold inU64; omega) | (unfold inU32; omega) | (unfold inU8; omega) | omega | (simp only [in64, inU64, inU32, inU8] at *; omega)))), rfl, trivial⟩) ?_
  intro β5 _ w5 H5 _
  refine NQ.then ?_
  refine CW.seq (x := (cAt B5 [1, 1, 1, 1, 1, 0])) (y := (cAt B5 [1, 1, 1, 1, 1, 1])) (by kernel_rfl) ?_
  refine CW.seq (x := (cAt B5 [1, 1, 1, 1, 1, 0, 0])) (y := (cAt B5 [1, 1, 1, 1, 1, 0, 1])) (by kernel_rfl) ?_
  refine CW.region (id := 6) (d := false) H5 (by kernel_rfl) mixed 0 [] [] [2, 3, 4, 6, 7, 9, 10, 11, 12, 34] [0, 1, 2, 3] (by kernel_rfl)
    (fun β6 _ => [(2, .int .u64 w), (3, .pointer (some ⟨(β1 0), 0, none⟩)), (4, .pointer (some ⟨(β1 1), 0, none⟩)), (6, .bool false), (7, .int .u64 (hPut u1 c1 k1 n1)), (9, .int .u64 (hPut u2 c2 k2 n2)), (10, .bool (hMay u2 c2 k2 n2)), (11, .pointer (some ⟨(β5 5), 0, none⟩)), (12, .bool (gOk w)), (34, .bool (hMay u1 c1 k1 n1))]) (fun β6 _ => [some (.ro noRo), some (.blk (β1 0) [.bool u1, .bool c1, .int .i64 k1, .int .i64 n1] 23), some (.blk (β1 1) [.bool u2, .bool c2, .int .i64 k2, .int .i64 n2] 23), some (.blk (β5 5) [.bool (gV w), .bool (gC w), .int .i64 (gK w), .int .i64 (gN w)] 23)]) (fun β6 _ => []) (fun _ _ => [])
    (fun _ _ => by kernel_rfl) (fun _ _ => trivial) ?_
  intro β6 _ w6 H6 _
  refine NQ.then ?_
  rcases Bool.eq_false_or_eq_true (hMay u1 c1 k1 n1) with h7 | h7
  · refine CW.cond_t (o := .tmp 34) (b := (hMay u1 c1 k1 n1)) (x := (cAt B5 [1, 1, 1, 1, 1, 0, 1, 0])) (y := (cAt B5 [1, 1, 1, 1, 1, 0, 1, 1])) (by kernel_rfl) (by kernel_rfl) h7 ?_
    refine CW.seq (x := (cAt B5 [1, 1, 1, 1, 1, 0, 1, 0, 0])) (y := (cAt B5 [1, 1, 1, 1, 1, 0, 1, 0, 1])) (by kernel_rfl) ?_
    refine CW.region (id := 7) (d := false) H6 (by kernel_rfl) mixed 1 [(1, .call 0 (pureRec (.tuple #[.agg #[.bool (gV (hPut u1 c1 k1 n1)), .bool (gC (hPut u1 c1 k1 n1)), .int .i64 (gK (hPut u1 c1 k1 n1)), .int .i64 (gN (hPut u1 c1 k1 n1))], .bool (gOk (hPut u1 c1 k1 n1))]))), (5, .key 4), (6, .key 4)] [] [2, 3, 4, 6, 7, 9, 10, 11, 12, 13, 14] [0, 1, 2, 3, 4] (by kernel_rfl)
      (fun β8 _ => [(2, .int .u64 w), (3, .pointer (some ⟨(β1 0), 0, none⟩)), (4, .pointer (some ⟨(β1 1), 0, none⟩)), (6, .bool false), (7, .int .u64 (hPut u1 c1 k1 n1)), (9, .int .u64 (hPut u2 c2 k2 n2)), (10, .bool (hMay u2 c2 k2 n2)), (11, .pointer (some ⟨(β5 5), 0, none⟩)), (12, .bool (gOk w)), (13, .pointer (some ⟨(β8 5), 0, none⟩)), (14, .bool (gOk (hPut u1 c1 k1 n1)))]) (fun β8 _ => [some (.ro noRo), some (.blk (β1 0) [.bool u1, .bool c1, .int .i64 k1, .int .i64 n1] 23), some (.blk (β1 1) [.bool u2, .bool c2, .int .i64 k2, .int .i64 n2] 23), some (.blk (β5 5) [.bool (gV w), .bool (gC w), .int .i64 (gK w), .int .i64 (gN w)] 23), some (.blk (β8 5) [.bool (gV (hPut u1 c1 k1 n1)), .bool (gC (hPut u1 c1 k1 n1)), .int .i64 (gK (hPut u1 c1 k1 n1)), .int .i64 (gN (hPut u1 c1 k1 n1))] 23)]) (fun β8 _ => [CallOb P0 16 #[.int .u64 (hPut u1 c1 k1 n1)] [some (.ro noRo)] (pureRec (.tuple #[.agg #[.bool (gV (hPut u1 c1 k1 n1)), .bool (gC (hPut u1 c1 k1 n1)), .int .i64 (gK (hPut u1 c1 k1 n1)), .int .i64 (gN (hPut u1 c1 k1 n1))], .bool (gOk (hPut u1 c1 k1 n1))])), (β8 5) = (β8 5)]) (fun _ _ => [True])
      (fun _ _ => by kernel_rfl) (fun _ _ => ⟨(Pure.ob (head_Get (hPut u1 c1 k1 n1) (by first | assumption | exact next_64 (by assumption) | exact hPut_u64 | exact gK_64 | exact gN_64 | (unfold in64; omega) | (unfold inU64; omega) | (unfold inU32; omega) | (unfold inU8; omega) | omega | (simp only [in64, inU64, inU32, inU8] at *; omega)))), rfl, trivial⟩) ?_
    intro β8 _ w8 H8 _
    refine NQ.then ?_
    refine CW.seq (x := (cAt B5 [1, 1, 1, 1, 1, 0, 1, 0, 1, 0])) (y := (cAt B5 [1, 1, 1, 1, 1, 0, 1, 0, 1, 1])) (by kernel_rfl) ?_
    rcases Bool.eq_false_or_eq_true (hMay u2 c2 k2 n2) with h9 | h9
    · refine CW.region (id := 8) (d := false) H8 (by kernel_rfl) mixed 0 [(3, .key 4), (4, .key 1), (6, .dec false), (13, .key 1), (14, .key 2), (17, .dec true), (18, .dec false)] [(3, true), (4, true), (5, true), (8, true), (9, true), (10, true), (11, true), (12, true), (13, true), (14, true), (15, true), (16, true), (17, true)] [2, 3, 4, 6, 7, 11, 12, 13, 58] [0, 1, 2, 3, 4] (by kernel_rfl)
        (fun β10 _ => [(2, .int .u64 w), (3, .pointer (some ⟨(β1 0), 0, none⟩)), (4, .pointer (some ⟨(β1 1), 0, none⟩)), (6, .bool false), (7, .int .u64 (hPut u1 c1 k1 n1)), (11, .pointer (some ⟨(β5 5), 0, none⟩)), (12, .bool (gOk w)), (13, .pointer (some ⟨(β8 5), 0, none⟩)), (58, .bool (!(((hPut u1 c1 k1 n1) == (hPut u2 c2 k2 n2)) == ((u1 == u2) && ((c1 == c2) && ((k1 == k2) && ((n1 == n2) && true)))))))]) (fun β10 _ => [some (.ro noRo), some (.blk (β1 0) [.bool u1, .bool c1, .int .i64 k1, .int .i64 n1] 23), some (.blk (β1 1) [.bool u2, .bool c2, .int .i64 k2, .int .i64 n2] 23), some (.blk (β5 5) [.bool (gV w), .bool (gC w), .int .i64 (gK w), .int .i64 (gN w)] 23), some (.blk (β8 5) [.bool (gV (hPut u1 c1 k1 n1)), .bool (gC (hPut u1 c1 k1 n1)), .int .i64 (gK (hPut u1 c1 k1 n1)), .int .i64 (gN (hPut u1 c1 k1 n1))] 23)]) (fun β10 _ => [((!(gOk (hPut u1 c1 k1 n1))) == false) = true, (β8 5) = (β8 5), ((!(gOk (hPut u1 c1 k1 n1))) == false) = true, (β1 0) = (β1 0), ((!(gOk (hPut u1 c1 k1 n1))) == false) = true, (!(gOk (hPut u1 c1 k1 n1))) = false, ((!(((gV (hPut u1 c1 k1 n1)) == u1) && (((gC (hPut u1 c1 k1 n1)) == c1) && (((gK (hPut u1 c1 k1 n1)) == k1) && (((gN (hPut u1 c1 k1 n1)) == n1) && true))))) == false) = true, ((!(((gV (hPut u1 c1 k1 n1)) == u1) && (((gC (hPut u1 c1 k1 n1)) == c1) && (((gK (hPut u1 c1 k1 n1)) == k1) && (((gN (hPut u1 c1 k1 n1)) == n1) && true))))) == false) = true, ((hMay u2 c2 k2 n2) == true) = true, ((hMay u2 c2 k2 n2) == true) = true, ((hMay u2 c2 k2 n2) == true) = true, ((hMay u2 c2 k2 n2) == true) = true, (β1 0) = (β1 0), ((hMay u2 c2 k2 n2) == true) = true, (β1 1) = (β1 1), ((hMay u2 c2 k2 n2) == true) = true, ((hMay u2 c2 k2 n2) == true) = true, ((!(((gV (hPut u1 c1 k1 n1)) == u1) && (((gC (hPut u1 c1 k1 n1)) == c1) && (((gK (hPut u1 c1 k1 n1)) == k1) && (((gN (hPut u1 c1 k1 n1)) == n1) && true))))) == false) = true, (hMay u2 c2 k2 n2) = true, (!(((gV (hPut u1 c1 k1 n1)) == u1) && (((gC (hPut u1 c1 k1 n1)) == c1) && (((gK (hPut u1 c1 k1 n1)) == k1) && (((gN (hPut u1 c1 k1 n1)) == n1) && true))))) = false]) (fun _ _ => [])
        (fun _ _ => by kernel_rfl) (fun _ _ => ⟨(by rw [show (!(gOk (hPut u1 c1 k1 n1))) = false from (by rw [show (gOk (hPut u1 c1 k1 n1)) = true from (get_put (by assumption)).2.2.2.2]; rfl)]; rfl), rfl, (by rw [show (!(gOk (hPut u1 c1 k1 n1))) = false from (by rw [show (gOk (hPut u1 c1 k1 n1)) = true from (get_put (by assumption)).2.2.2.2]; rfl)]; rfl), rfl, (by rw [show (!(gOk (hPut u1 c1 k1 n1))) = false from (by rw [show (gOk (hPut u1 c1 k1 n1)) = true from (get_put (by assumption)).2.2.2.2]; rfl)]; rfl), (by rw [show (gOk (hPut u1 c1 k1 n1)) = true from (get_put (by assumption)).2.2.2.2]; rfl), (by rw [show (!(((gV (hPut u1 c1 k1 n1)) == u1) && (((gC (hPut u1 c1 k1 n1)) == c1) && (((gK (hPut u1 c1 k1 n1)) == k1) && (((gN (hPut u1 c1 k1 n1)) == n1) && true))))) = false from (by rw [show (((gV (hPut u1 c1 k1 n1)) == u1) && (((gC (hPut u1 c1 k1 n1)) == c1) && (((gK (hPut u1 c1 k1 n1)) == k1) && (((gN (hPut u1 c1 k1 n1)) == n1) && true)))) = true from (get_put_b (by assumption))]; rfl)]; rfl), (by rw [show (!(((gV (hPut u1 c1 k1 n1)) == u1) && (((gC (hPut u1 c1 k1 n1)) == c1) && (((gK (hPut u1 c1 k1 n1)) == k1) && (((gN (hPut u1 c1 k1 n1)) == n1) && true))))) = false from (by rw [show (((gV (hPut u1 c1 k1 n1)) == u1) && (((gC (hPut u1 c1 k1 n1)) == c1) && (((gK (hPut u1 c1 k1 n1)) == k1) && (((gN (hPut u1 c1 k1 n1)) == n1) && true)))) = true from (get_put_b (by assumption))]; rfl)]; rfl), (by rw [show (hMay u2 c2 k2 n2) = true from h9]; rfl), (by rw [show (hMay u2 c2 k2 n2) = true from h9]; rfl), (by rw [show (hMay u2 c2 k2 n2) = true from h9]; rfl), (by rw [show (hMay u2 c2 k2 n2) = true from h9]; rfl), rfl, (by rw [show (hMay u2 c2 k2 n2) = true from h9]; rfl), rfl, (by rw [show (hMay u2 c2 k2 n2) = true from h9]; rfl), (by rw [show (hMay u2 c2 k2 n2) = true from h9]; rfl), (by rw [show (!(((gV (hPut u1 c1 k1 n1)) == u1) && (((gC (hPut u1 c1 k1 n1)) == c1) && (((gK (hPut u1 c1 k1 n1)) == k1) && (((gN (hPut u1 c1 k1 n1)) == n1) && true))))) = false from (by rw [show (((gV (hPut u1 c1 k1 n1)) == u1) && (((gC (hPut u1 c1 k1 n1)) == c1) && (((gK (hPut u1 c1 k1 n1)) == k1) && (((gN (hPut u1 c1 k1 n1)) == n1) && true)))) = true from (get_put_b (by assumption))]; rfl)]; rfl), h9, (by rw [show (((gV (hPut u1 c1 k1 n1)) == u1) && (((gC (hPut u1 c1 k1 n1)) == c1) && (((gK (hPut u1 c1 k1 n1)) == k1) && (((gN (hPut u1 c1 k1 n1)) == n1) && true)))) = true from (get_put_b (by assumption))]; rfl), trivial⟩) ?_
      intro β10 _ w10 H10 _
      refine NQ.then ?_
      refine CW.cond_f (o := .tmp 58) (b := (!(((hPut u1 c1 k1 n1) == (hPut u2 c2 k2 n2)) == ((u1 == u2) && ((c1 == c2) && ((k1 == k2) && ((n1 == n2) && true))))))) (x := (cAt B5 [1, 1, 1, 1, 1, 0, 1, 0, 1, 1, 0])) (y := (cAt B5 [1, 1, 1, 1, 1, 0, 1, 0, 1, 1, 1])) (by kernel_rfl) (by kernel_rfl) (by rw [show (((hPut u1 c1 k1 n1) == (hPut u2 c2 k2 n2)) == ((u1 == u2) && ((c1 == c2) && ((k1 == k2) && ((n1 == n2) && true))))) = true from (put_inj_b (by assumption) (by assumption))]; rfl) ?_
      refine CW.skip (by kernel_rfl) ?_
      refine NQ.then ?_
      refine CW.seq (x := (cAt B5 [1, 1, 1, 1, 1, 1, 0])) (y := (cAt B5 [1, 1, 1, 1, 1, 1, 1])) (by kernel_rfl) ?_
      refine CW.region (id := 10) (d := false) H10 (by kernel_rfl) mixed 0 [(0, .key 3), (1, .call 0 (pureRec (.tuple #[.int .u64 (hPut (gV w) (gC w) (gK w) (gN w)), .bool (hMay (gV w) (gC w) (gK w) (gN w))])))] [] [2, 3, 4, 6, 7, 11, 12, 13, 15, 16] [0, 1, 2, 3, 4] (by kernel_rfl)
        (fun β11 _ => [(2, .int .u64 w), (3, .pointer (some ⟨(β1 0), 0, none⟩)), (4, .pointer (some ⟨(β1 1), 0, none⟩)), (6, .bool false), (7, .int .u64 (hPut u1 c1 k1 n1)), (11, .pointer (some ⟨(β5 5), 0, none⟩)), (12, .bool (gOk w)), (13, .pointer (some ⟨(β8 5), 0, none⟩)), (15, .int .u64 (hPut (gV w) (gC w) (gK w) (gN w))), (16, .bool (hMay (gV w) (gC w) (gK w) (gN w)))]) (fun β11 _ => [some (.ro noRo), some (.blk (β1 0) [.bool u1, .bool c1, .int .i64 k1, .int .i64 n1] 23), some (.blk (β1 1) [.bool u2, .bool c2, .int .i64 k2, .int .i64 n2] 23), some (.blk (β5 5) [.bool (gV w), .bool (gC w), .int .i64 (gK w), .int .i64 (gN w)] 23), some (.blk (β8 5) [.bool (gV (hPut u1 c1 k1 n1)), .bool (gC (hPut u1 c1 k1 n1)), .int .i64 (gK (hPut u1 c1 k1 n1)), .int .i64 (gN (hPut u1 c1 k1 n1))] 23)]) (fun β11 _ => [(β5 5) = (β5 5), CallOb P0 12 #[.agg #[.bool (gV w), .bool (gC w), .int .i64 (gK w), .int .i64 (gN w)]] [some (.ro noRo)] (pureRec (.tuple #[.int .u64 (hPut (gV w) (gC w) (gK w) (gN w)), .bool (hMay (gV w) (gC w) (gK w) (gN w))]))]) (fun _ _ => [True])
        (fun _ _ => by kernel_rfl) (fun _ _ => ⟨rfl, (Pure.ob (head_Put (gV w) (gC w) (gK w) (gN w) (by first | assumption | exact next_64 (by assumption) | exact hPut_u64 | exact gK_64 | exact gN_64 | (unfold in64; omega) | (unfold inU64; omega) | (unfold inU32; omega) | (unfold inU8; omega) | omega | (simp only [in64, inU64, inU32, inU8] at *; omega)) (by first | assumption | exact next_64 (by assumption) | exact hPut_u64 | exact gK_64 | exact gN_64 | (unfold in64; omega) | (unfold inU64; omega) | (unfold inU32; omega) | (unfold inU8; omega) | omega | (simp only [in64, inU64, inU32, inU8] at *; omega)))), trivial⟩) ?_
      intro β11 _ w11 H11 _
      refine NQ.then ?_
      refine CW.seq (x := (cAt B5 [1, 1, 1, 1, 1, 1, 1, 0])) (y := (cAt B5 [1, 1, 1, 1, 1, 1, 1, 1])) (by kernel_rfl) ?_
      rcases Bool.eq_false_or_eq_true (gOk w) with h12 | h12
      · refine CW.region (id := 11) (d := false) H11 (by kernel_rfl) mixed 0 [(8, .dec false), (9, .dec true), (16, .dec true), (17, .dec true)] [(2, true), (3, true), (4, true), (5, true), (6, true), (7, true), (8, true), (11, true), (12, true), (13, false), (14, false), (15, false), (16, true)] [2, 3, 4, 6, 7, 11, 13] [0, 1, 2, 3, 4] (by kernel_rfl)
          (fun β13 _ => [(2, .int .u64 w), (3, .pointer (some ⟨(β1 0), 0, none⟩)), (4, .pointer (some ⟨(β1 1), 0, none⟩)), (6, .bool true), (7, .int .u64 (hPut u1 c1 k1 n1)), (11, .pointer (some ⟨(β5 5), 0, none⟩)), (13, .pointer (some ⟨(β8 5), 0, none⟩))]) (fun β13 _ => [some (.ro noRo), some (.blk (β1 0) [.bool u1, .bool c1, .int .i64 k1, .int .i64 n1] 23), some (.blk (β1 1) [.bool u2, .bool c2, .int .i64 k2, .int .i64 n2] 23), some (.blk (β5 5) [.bool (gV w), .bool (gC w), .int .i64 (gK w), .int .i64 (gN w)] 23), some (.blk (β8 5) [.bool (gV (hPut u1 c1 k1 n1)), .bool (gC (hPut u1 c1 k1 n1)), .int .i64 (gK (hPut u1 c1 k1 n1)), .int .i64 (gN (hPut u1 c1 k1 n1))] 23)]) (fun β13 _ => [((hMay (gV w) (gC w) (gK w) (gN w)) == true) = true, ((hMay (gV w) (gC w) (gK w) (gN w)) == true) = true, ((hMay (gV w) (gC w) (gK w) (gN w)) == true) = true, ((!(gOk w)) == false) = true, ((!(gOk w)) == false) = true, ((!(gOk w)) == false) = true, ((hMay (gV w) (gC w) (gK w) (gN w)) == true) = true, (!(gOk w)) = false, (hMay (gV w) (gC w) (gK w) (gN w)) = true, (((hPut (gV w) (gC w) (gK w) (gN w)) == w) == true) = true, (((hPut (gV w) (gC w) (gK w) (gN w)) == w) == true) = true, ((gOk w) == false) = false, ((gOk w) == false) = false, ((gOk w) == false) = false, (((hPut (gV w) (gC w) (gK w) (gN w)) == w) == true) = true, (gOk w) = true, ((hPut (gV w) (gC w) (gK w) (gN w)) == w) = true]) (fun _ _ => [])
          (fun _ _ => by kernel_rfl) (fun _ _ => ⟨(by rw [show (hMay (gV w) (gC w) (gK w) (gN w)) = true from (gOk_may hw)]; rfl), (by rw [show (hMay (gV w) (gC w) (gK w) (gN w)) = true from (gOk_may hw)]; rfl), (by rw [show (hMay (gV w) (gC w) (gK w) (gN w)) = true from (gOk_may hw)]; rfl), (by rw [show (!(gOk w)) = false from (by rw [show (gOk w) = true from h12]; rfl)]; rfl), (by rw [show (!(gOk w)) = false from (by rw [show (gOk w) = true from h12]; rfl)]; rfl), (by rw [show (!(gOk w)) = false from (by rw [show (gOk w) = true from h12]; rfl)]; rfl), (by rw [show (hMay (gV w) (gC w) (gK w) (gN w)) = true from (gOk_may hw)]; rfl), (by rw [show (gOk w) = true from h12]; rfl), (gOk_may hw), (by rw [show ((hPut (gV w) (gC w) (gK w) (gN w)) == w) = true from (beq_iff_eq.2 (gOk_put hw (by assumption)))]; rfl), (by rw [show ((hPut (gV w) (gC w) (gK w) (gN w)) == w) = true from (beq_iff_eq.2 (gOk_put hw (by assumption)))]; rfl), (by rw [show (gOk w) = true from h12]; rfl), (by rw [show (gOk w) = true from h12]; rfl), (by rw [show (gOk w) = true from h12]; rfl), (by rw [show ((hPut (gV w) (gC w) (gK w) (gN w)) == w) = true from (beq_iff_eq.2 (gOk_put hw (by assumption)))]; rfl), h12, (beq_iff_eq.2 (gOk_put hw (by assumption))), trivial⟩) ?_
        intro β13 _ w13 H13 _
        refine NQ.then ?_
        refine CW.ret (by kernel_rfl) ?_
        refine NQ.ret H13 [.tmp 6] (by kernel_rfl) [] [.bool true] [] (by kernel_rfl) trivial ?_
        exact ⟨congrArg Ending.returned (by first | rfl | exact congrArg Value.bool (put_inj_b (by assumption) (by assumption)) | exact congrArg Value.bool (beq_iff_eq.2 (gOk_put hw (by assumption))) | exact congrArg Value.bool (gOk_zero (by assumption))), H13.below⟩
      · refine CW.region (id := 11) (d := false) H11 (by kernel_rfl) mixed 0 [(8, .dec true), (9, .dec true), (13, .key 3), (16, .dec false)] [(2, true), (3, true), (4, true), (5, false), (6, false), (7, false), (8, true), (13, true), (14, true), (15, true)] [2, 3, 4, 6, 7, 11, 13] [0, 1, 2, 3, 4] (by kernel_rfl)
          (fun β14 _ => [(2, .int .u64 w), (3, .pointer (some ⟨(β1 0), 0, none⟩)), (4, .pointer (some ⟨(β1 1), 0, none⟩)), (6, .bool (((gV w) == false) && (((gC w) == false) && (((gK w) == 0) && (((gN w) == 0) && true))))), (7, .int .u64 (hPut u1 c1 k1 n1)), (11, .pointer (some ⟨(β5 5), 0, none⟩)), (13, .pointer (some ⟨(β8 5), 0, none⟩))]) (fun β14 _ => [some (.ro noRo), some (.blk (β1 0) [.bool u1, .bool c1, .int .i64 k1, .int .i64 n1] 23), some (.blk (β1 1) [.bool u2, .bool c2, .int .i64 k2, .int .i64 n2] 23), some (.blk (β5 5) [.bool (gV w), .bool (gC w), .int .i64 (gK w), .int .i64 (gN w)] 23), some (.blk (β8 5) [.bool (gV (hPut u1 c1 k1 n1)), .bool (gC (hPut u1 c1 k1 n1)), .int .i64 (gK (hPut u1 c1 k1 n1)), .int .i64 (gN (hPut u1 c1 k1 n1))] 23)]) (fun β14 _ => [((hMay (gV w) (gC w) (gK w) (gN w)) == true) = true, ((hMay (gV w) (gC w) (gK w) (gN w)) == true) = true, ((hMay (gV w) (gC w) (gK w) (gN w)) == true) = true, ((!(gOk w)) == false) = false, ((!(gOk w)) == false) = false, ((!(gOk w)) == false) = false, ((hMay (gV w) (gC w) (gK w) (gN w)) == true) = true, (!(gOk w)) = true, (hMay (gV w) (gC w) (gK w) (gN w)) = true, ((gOk w) == false) = true, (β5 5) = (β5 5), ((gOk w) == false) = true, ((gOk w) == false) = true, (gOk w) = false]) (fun _ _ => [])
          (fun _ _ => by kernel_rfl) (fun _ _ => ⟨(by rw [show (hMay (gV w) (gC w) (gK w) (gN w)) = true from (gOk_may hw)]; rfl), (by rw [show (hMay (gV w) (gC w) (gK w) (gN w)) = true from (gOk_may hw)]; rfl), (by rw [show (hMay (gV w) (gC w) (gK w) (gN w)) = true from (gOk_may hw)]; rfl), (by rw [show (!(gOk w)) = true from (by rw [show (gOk w) = false from h12]; rfl)]; rfl), (by rw [show (!(gOk w)) = true from (by rw [show (gOk w) = false from h12]; rfl)]; rfl), (by rw [show (!(gOk w)) = true from (by rw [show (gOk w) = false from h12]; rfl)]; rfl), (by rw [show (hMay (gV w) (gC w) (gK w) (gN w)) = true from (gOk_may hw)]; rfl), (by rw [show (gOk w) = false from h12]; rfl), (gOk_may hw), (by rw [show (gOk w) = false from h12]; rfl), rfl, (by rw [show (gOk w) = false from h12]; rfl), (by rw [show (gOk w) = false from h12]; rfl), h12, trivial⟩) ?_
        intro β14 _ w14 H14 _
        refine NQ.then ?_
        refine CW.ret (by kernel_rfl) ?_
        refine NQ.ret H14 [.tmp 6] (by kernel_rfl) [] [.bool (((gV w) == false) && (((gC w) == false) && (((gK w) == 0) && (((gN w) == 0) && true))))] [] (by kernel_rfl) trivial ?_
        exact ⟨congrArg Ending.returned (by first | rfl | exact congrArg Value.bool (put_inj_b (by assumption) (by assumption)) | exact congrArg Value.bool (beq_iff_eq.2 (gOk_put hw (by assumption))) | exact congrArg Value.bool (gOk_zero (by assumption))), H14.below⟩
    · refine CW.region (id := 8) (d := false) H8 (by kernel_rfl) mixed 0 [(3, .key 4), (4, .key 1), (6, .dec false), (17, .dec false), (18, .dec false)] [(3, true), (4, true), (5, true), (8, true), (9, true), (10, false), (11, false), (12, false), (13, false), (14, false), (15, false), (16, false), (17, true)] [2, 3, 4, 6, 7, 11, 12, 13, 58] [0, 1, 2, 3, 4] (by kernel_rfl)
        (fun β15 _ => [(2, .int .u64 w), (3, .pointer (some ⟨(β1 0), 0, none⟩)), (4, .pointer (some ⟨(β1 1), 0, none⟩)), (6, .bool false), (7, .int .u64 (hPut u1 c1 k1 n1)), (11, .pointer (some ⟨(β5 5), 0, none⟩)), (12, .bool (gOk w)), (13, .pointer (some ⟨(β8 5), 0, none⟩)), (58, .bool false)]) (fun β15 _ => [some (.ro noRo), some (.blk (β1 0) [.bool u1, .bool c1, .int .i64 k1, .int .i64 n1] 23), some (.blk (β1 1) [.bool u2, .bool c2, .int .i64 k2, .int .i64 n2] 23), some (.blk (β5 5) [.bool (gV w), .bool (gC w), .int .i64 (gK w), .int .i64 (gN w)] 23), some (.blk (β8 5) [.bool (gV (hPut u1 c1 k1 n1)), .bool (gC (hPut u1 c1 k1 n1)), .int .i64 (gK (hPut u1 c1 k1 n1)), .int .i64 (gN (hPut u1 c1 k1 n1))] 23)]) (fun β15 _ => [((!(gOk (hPut u1 c1 k1 n1))) == false) = true, (β8 5) = (β8 5), ((!(gOk (hPut u1 c1 k1 n1))) == false) = true, (β1 0) = (β1 0), ((!(gOk (hPut u1 c1 k1 n1))) == false) = true, (!(gOk (hPut u1 c1 k1 n1))) = false, ((!(((gV (hPut u1 c1 k1 n1)) == u1) && (((gC (hPut u1 c1 k1 n1)) == c1) && (((gK (hPut u1 c1 k1 n1)) == k1) && (((gN (hPut u1 c1 k1 n1)) == n1) && true))))) == false) = true, ((!(((gV (hPut u1 c1 k1 n1)) == u1) && (((gC (hPut u1 c1 k1 n1)) == c1) && (((gK (hPut u1 c1 k1 n1)) == k1) && (((gN (hPut u1 c1 k1 n1)) == n1) && true))))) == false) = true, ((hMay u2 c2 k2 n2) == true) = false, ((hMay u2 c2 k2 n2) == true) = false, ((hMay u2 c2 k2 n2) == true) = false, ((hMay u2 c2 k2 n2) == true) = false, ((hMay u2 c2 k2 n2) == true) = false, ((hMay u2 c2 k2 n2) == true) = false, ((hMay u2 c2 k2 n2) == true) = false, ((!(((gV (hPut u1 c1 k1 n1)) == u1) && (((gC (hPut u1 c1 k1 n1)) == c1) && (((gK (hPut u1 c1 k1 n1)) == k1) && (((gN (hPut u1 c1 k1 n1)) == n1) && true))))) == false) = true, (hMay u2 c2 k2 n2) = false, (!(((gV (hPut u1 c1 k1 n1)) == u1) && (((gC (hPut u1 c1 k1 n1)) == c1) && (((gK (hPut u1 c1 k1 n1)) == k1) && (((gN (hPut u1 c1 k1 n1)) == n1) && true))))) = false]) (fun _ _ => [])
        (fun _ _ => by kernel_rfl) (fun _ _ => ⟨(by rw [show (!(gOk (hPut u1 c1 k1 n1))) = false from (by rw [show (gOk (hPut u1 c1 k1 n1)) = true from (get_put (by assumption)).2.2.2.2]; rfl)]; rfl), rfl, (by rw [show (!(gOk (hPut u1 c1 k1 n1))) = false from (by rw [show (gOk (hPut u1 c1 k1 n1)) = true from (get_put (by assumption)).2.2.2.2]; rfl)]; rfl), rfl, (by rw [show (!(gOk (hPut u1 c1 k1 n1))) = false from (by rw [show (gOk (hPut u1 c1 k1 n1)) = true from (get_put (by assumption)).2.2.2.2]; rfl)]; rfl), (by rw [show (gOk (hPut u1 c1 k1 n1)) = true from (get_put (by assumption)).2.2.2.2]; rfl), (by rw [show (!(((gV (hPut u1 c1 k1 n1)) == u1) && (((gC (hPut u1 c1 k1 n1)) == c1) && (((gK (hPut u1 c1 k1 n1)) == k1) && (((gN (hPut u1 c1 k1 n1)) == n1) && true))))) = false from (by rw [show (((gV (hPut u1 c1 k1 n1)) == u1) && (((gC (hPut u1 c1 k1 n1)) == c1) && (((gK (hPut u1 c1 k1 n1)) == k1) && (((gN (hPut u1 c1 k1 n1)) == n1) && true)))) = true from (get_put_b (by assumption))]; rfl)]; rfl), (by rw [show (!(((gV (hPut u1 c1 k1 n1)) == u1) && (((gC (hPut u1 c1 k1 n1)) == c1) && (((gK (hPut u1 c1 k1 n1)) == k1) && (((gN (hPut u1 c1 k1 n1)) == n1) && true))))) = false from (by rw [show (((gV (hPut u1 c1 k1 n1)) == u1) && (((gC (hPut u1 c1 k1 n1)) == c1) && (((gK (hPut u1 c1 k1 n1)) == k1) && (((gN (hPut u1 c1 k1 n1)) == n1) && true)))) = true from (get_put_b (by assumption))]; rfl)]; rfl), (by rw [show (hMay u2 c2 k2 n2) = false from h9]; rfl), (by rw [show (hMay u2 c2 k2 n2) = false from h9]; rfl), (by rw [show (hMay u2 c2 k2 n2) = false from h9]; rfl), (by rw [show (hMay u2 c2 k2 n2) = false from h9]; rfl), (by rw [show (hMay u2 c2 k2 n2) = false from h9]; rfl), (by rw [show (hMay u2 c2 k2 n2) = false from h9]; rfl), (by rw [show (hMay u2 c2 k2 n2) = false from h9]; rfl), (by rw [show (!(((gV (hPut u1 c1 k1 n1)) == u1) && (((gC (hPut u1 c1 k1 n1)) == c1) && (((gK (hPut u1 c1 k1 n1)) == k1) && (((gN (hPut u1 c1 k1 n1)) == n1) && true))))) = false from (by rw [show (((gV (hPut u1 c1 k1 n1)) == u1) && (((gC (hPut u1 c1 k1 n1)) == c1) && (((gK (hPut u1 c1 k1 n1)) == k1) && (((gN (hPut u1 c1 k1 n1)) == n1) && true)))) = true from (get_put_b (by assumption))]; rfl)]; rfl), h9, (by rw [show (((gV (hPut u1 c1 k1 n1)) == u1) && (((gC (hPut u1 c1 k1 n1)) == c1) && (((gK (hPut u1 c1 k1 n1)) == k1) && (((gN (hPut u1 c1 k1 n1)) == n1) && true)))) = true from (get_put_b (by assumption))]; rfl), trivial⟩) ?_
      intro β15 _ w15 H15 _
      refine NQ.then ?_
      refine CW.cond_f (o := .tmp 58) (b := false) (x := (cAt B5 [1, 1, 1, 1, 1, 0, 1, 0, 1, 1, 0])) (y := (cAt B5 [1, 1, 1, 1, 1, 0, 1, 0, 1, 1, 1])) (by kernel_rfl) (by kernel_rfl) rfl ?_
      refine CW.skip (by kernel_rfl) ?_
      refine NQ.then ?_
      refine CW.seq (x := (cAt B5 [1, 1, 1, 1, 1, 1, 0])) (y := (cAt B5 [1, 1, 1, 1, 1, 1, 1])) (by kernel_rfl) ?_
      refine CW.region (id := 10) (d := false) H15 (by kernel_rfl) mixed 0 [(0, .key 3), (1, .call 0 (pureRec (.tuple #[.int .u64 (hPut (gV w) (gC w) (gK w) (gN w)), .bool (hMay (gV w) (gC w) (gK w) (gN w))])))] [] [2, 3, 4, 6, 7, 11, 12, 13, 15, 16] [0, 1, 2, 3, 4] (by kernel_rfl)
        (fun β16 _ => [(2, .int .u64 w), (3, .pointer (some ⟨(β1 0), 0, none⟩)), (4, .pointer (some ⟨(β1 1), 0, none⟩)), (6, .bool false), (7, .int .u64 (hPut u1 c1 k1 n1)), (11, .pointer (some ⟨(β5 5), 0, none⟩)), (12, .bool (gOk w)), (13, .pointer (some ⟨(β8 5), 0, none⟩)), (15, .int .u64 (hPut (gV w) (gC w) (gK w) (gN w))), (16, .bool (hMay (gV w) (gC w) (gK w) (gN w)))]) (fun β16 _ => [some (.ro noRo), some (.blk (β1 0) [.bool u1, .bool c1, .int .i64 k1, .int .i64 n1] 23), some (.blk (β1 1) [.bool u2, .bool c2, .int .i64 k2, .int .i64 n2] 23), some (.blk (β5 5) [.bool (gV w), .bool (gC w), .int .i64 (gK w), .int .i64 (gN w)] 23), some (.blk (β8 5) [.bool (gV (hPut u1 c1 k1 n1)), .bool (gC (hPut u1 c1 k1 n1)), .int .i64 (gK (hPut u1 c1 k1 n1)), .int .i64 (gN (hPut u1 c1 k1 n1))] 23)]) (fun β16 _ => [(β5 5) = (β5 5), CallOb P0 12 #[.agg #[.bool (gV w), .bool (gC w), .int .i64 (gK w), .int .i64 (gN w)]] [some (.ro noRo)] (pureRec (.tuple #[.int .u64 (hPut (gV w) (gC w) (gK w) (gN w)), .bool (hMay (gV w) (gC w) (gK w) (gN w))]))]) (fun _ _ => [True])
        (fun _ _ => by kernel_rfl) (fun _ _ => ⟨rfl, (Pure.ob (head_Put (gV w) (gC w) (gK w) (gN w) (by first | assumption | exact next_64 (by assumption) | exact hPut_u64 | exact gK_64 | exact gN_64 | (unfold in64; omega) | (unfold inU64; omega) | (unfold inU32; omega) | (unfold inU8; omega) | omega | (simp only [in64, inU64, inU32, inU8] at *; omega)) (by first | assumption | exact next_64 (by assumption) | exact hPut_u64 | exact gK_64 | exact gN_64 | (unfold in64; omega) | (unfold inU64; omega) | (unfold inU32; omega) | (unfold inU8; omega) | omega | (simp only [in64, inU64, inU32, inU8] at *; omega)))), trivial⟩) ?_
      intro β16 _ w16 H16 _
      refine NQ.then ?_
      refine CW.seq (x := (cAt B5 [1, 1, 1, 1, 1, 1, 1, 0])) (y := (cAt B5 [1, 1, 1, 1, 1, 1, 1, 1])) (by kernel_rfl) ?_
      rcases Bool.eq_false_or_eq_true (gOk w) with h17 | h17
      · refine CW.region (id := 11) (d := false) H16 (by kernel_rfl) mixed 0 [(8, .dec false), (9, .dec true), (16, .dec true), (17, .dec true)] [(2, true), (3, true), (4, true), (5, true), (6, true), (7, true), (8, true), (11, true), (12, true), (13, false), (14, false), (15, false), (16, true)] [2, 3, 4, 6, 7, 11, 13] [0, 1, 2, 3, 4] (by kernel_rfl)
          (fun β18 _ => [(2, .int .u64 w), (3, .pointer (some ⟨(β1 0), 0, none⟩)), (4, .pointer (some ⟨(β1 1), 0, none⟩)), (6, .bool true), (7, .int .u64 (hPut u1 c1 k1 n1)), (11, .pointer (some ⟨(β5 5), 0, none⟩)), (13, .pointer (some ⟨(β8 5), 0, none⟩))]) (fun β18 _ => [some (.ro noRo), some (.blk (β1 0) [.bool u1, .bool c1, .int .i64 k1, .int .i64 n1] 23), some (.blk (β1 1) [.bool u2, .bool c2, .int .i64 k2, .int .i64 n2] 23), some (.blk (β5 5) [.bool (gV w), .bool (gC w), .int .i64 (gK w), .int .i64 (gN w)] 23), some (.blk (β8 5) [.bool (gV (hPut u1 c1 k1 n1)), .bool (gC (hPut u1 c1 k1 n1)), .int .i64 (gK (hPut u1 c1 k1 n1)), .int .i64 (gN (hPut u1 c1 k1 n1))] 23)]) (fun β18 _ => [((hMay (gV w) (gC w) (gK w) (gN w)) == true) = true, ((hMay (gV w) (gC w) (gK w) (gN w)) == true) = true, ((hMay (gV w) (gC w) (gK w) (gN w)) == true) = true, ((!(gOk w)) == false) = true, ((!(gOk w)) == false) = true, ((!(gOk w)) == false) = true, ((hMay (gV w) (gC w) (gK w) (gN w)) == true) = true, (!(gOk w)) = false, (hMay (gV w) (gC w) (gK w) (gN w)) = true, (((hPut (gV w) (gC w) (gK w) (gN w)) == w) == true) = true, (((hPut (gV w) (gC w) (gK w) (gN w)) == w) == true) = true, ((gOk w) == false) = false, ((gOk w) == false) = false, ((gOk w) == false) = false, (((hPut (gV w) (gC w) (gK w) (gN w)) == w) == true) = true, (gOk w) = true, ((hPut (gV w) (gC w) (gK w) (gN w)) == w) = true]) (fun _ _ => [])
          (fun _ _ => by kernel_rfl) (fun _ _ => ⟨(by rw [show (hMay (gV w) (gC w) (gK w) (gN w)) = true from (gOk_may hw)]; rfl), (by rw [show (hMay (gV w) (gC w) (gK w) (gN w)) = true from (gOk_may hw)]; rfl), (by rw [show (hMay (gV w) (gC w) (gK w) (gN w)) = true from (gOk_may hw)]; rfl), (by rw [show (!(gOk w)) = false from (by rw [show (gOk w) = true from h17]; rfl)]; rfl), (by rw [show (!(gOk w)) = false from (by rw [show (gOk w) = true from h17]; rfl)]; rfl), (by rw [show (!(gOk w)) = false from (by rw [show (gOk w) = true from h17]; rfl)]; rfl), (by rw [show (hMay (gV w) (gC w) (gK w) (gN w)) = true from (gOk_may hw)]; rfl), (by rw [show (gOk w) = true from h17]; rfl), (gOk_may hw), (by rw [show ((hPut (gV w) (gC w) (gK w) (gN w)) == w) = true from (beq_iff_eq.2 (gOk_put hw (by assumption)))]; rfl), (by rw [show ((hPut (gV w) (gC w) (gK w) (gN w)) == w) = true from (beq_iff_eq.2 (gOk_put hw (by assumption)))]; rfl), (by rw [show (gOk w) = true from h17]; rfl), (by rw [show (gOk w) = true from h17]; rfl), (by rw [show (gOk w) = true from h17]; rfl), (by rw [show ((hPut (gV w) (gC w) (gK w) (gN w)) == w) = true from (beq_iff_eq.2 (gOk_put hw (by assumption)))]; rfl), h17, (beq_iff_eq.2 (gOk_put hw (by assumption))), trivial⟩) ?_
        intro β18 _ w18 H18 _
        refine NQ.then ?_
        refine CW.ret (by kernel_rfl) ?_
        refine NQ.ret H18 [.tmp 6] (by kernel_rfl) [] [.bool true] [] (by kernel_rfl) trivial ?_
        exact ⟨congrArg Ending.returned (by first | rfl | exact congrArg Value.bool (put_inj_b (by assumption) (by assumption)) | exact congrArg Value.bool (beq_iff_eq.2 (gOk_put hw (by assumption))) | exact congrArg Value.bool (gOk_zero (by assumption))), H18.below⟩
      · refine CW.region (id := 11) (d := false) H16 (by kernel_rfl) mixed 0 [(8, .dec true), (9, .dec true), (13, .key 3), (16, .dec false)] [(2, true), (3, true), (4, true), (5, false), (6, false), (7, false), (8, true), (13, true), (14, true), (15, true)] [2, 3, 4, 6, 7, 11, 13] [0, 1, 2, 3, 4] (by kernel_rfl)
          (fun β19 _ => [(2, .int .u64 w), (3, .pointer (some ⟨(β1 0), 0, none⟩)), (4, .pointer (some ⟨(β1 1), 0, none⟩)), (6, .bool (((gV w) == false) && (((gC w) == false) && (((gK w) == 0) && (((gN w) == 0) && true))))), (7, .int .u64 (hPut u1 c1 k1 n1)), (11, .pointer (some ⟨(β5 5), 0, none⟩)), (13, .pointer (some ⟨(β8 5), 0, none⟩))]) (fun β19 _ => [some (.ro noRo), some (.blk (β1 0) [.bool u1, .bool c1, .int .i64 k1, .int .i64 n1] 23), some (.blk (β1 1) [.bool u2, .bool c2, .int .i64 k2, .int .i64 n2] 23), some (.blk (β5 5) [.bool (gV w), .bool (gC w), .int .i64 (gK w), .int .i64 (gN w)] 23), some (.blk (β8 5) [.bool (gV (hPut u1 c1 k1 n1)), .bool (gC (hPut u1 c1 k1 n1)), .int .i64 (gK (hPut u1 c1 k1 n1)), .int .i64 (gN (hPut u1 c1 k1 n1))] 23)]) (fun β19 _ => [((hMay (gV w) (gC w) (gK w) (gN w)) == true) = true, ((hMay (gV w) (gC w) (gK w) (gN w)) == true) = true, ((hMay (gV w) (gC w) (gK w) (gN w)) == true) = true, ((!(gOk w)) == false) = false, ((!(gOk w)) == false) = false, ((!(gOk w)) == false) = false, ((hMay (gV w) (gC w) (gK w) (gN w)) == true) = true, (!(gOk w)) = true, (hMay (gV w) (gC w) (gK w) (gN w)) = true, ((gOk w) == false) = true, (β5 5) = (β5 5), ((gOk w) == false) = true, ((gOk w) == false) = true, (gOk w) = false]) (fun _ _ => [])
          (fun _ _ => by kernel_rfl) (fun _ _ => ⟨(by rw [show (hMay (gV w) (gC w) (gK w) (gN w)) = true from (gOk_may hw)]; rfl), (by rw [show (hMay (gV w) (gC w) (gK w) (gN w)) = true from (gOk_may hw)]; rfl), (by rw [show (hMay (gV w) (gC w) (gK w) (gN w)) = true from (gOk_may hw)]; rfl), (by rw [show (!(gOk w)) = true from (by rw [show (gOk w) = false from h17]; rfl)]; rfl), (by rw [show (!(gOk w)) = true from (by rw [show (gOk w) = false from h17]; rfl)]; rfl), (by rw [show (!(gOk w)) = true from (by rw [show (gOk w) = false from h17]; rfl)]; rfl), (by rw [show (hMay (gV w) (gC w) (gK w) (gN w)) = true from (gOk_may hw)]; rfl), (by rw [show (gOk w) = false from h17]; rfl), (gOk_may hw), (by rw [show (gOk w) = false from h17]; rfl), rfl, (by rw [show (gOk w) = false from h17]; rfl), (by rw [show (gOk w) = false from h17]; rfl), h17, trivial⟩) ?_
        intro β19 _ w19 H19 _
        refine NQ.then ?_
        refine CW.ret (by kernel_rfl) ?_
        refine NQ.ret H19 [.tmp 6] (by kernel_rfl) [] [.bool (((gV w) == false) && (((gC w) == false) && (((gK w) == 0) && (((gN w) == 0) && true))))] [] (by kernel_rfl) trivial ?_
        exact ⟨congrArg Ending.returned (by first | rfl | exact congrArg Value.bool (put_inj_b (by assumption) (by assumption)) | exact congrArg Value.bool (beq_iff_eq.2 (gOk_put hw (by assumption))) | exact congrArg Value.bool (gOk_zero (by assumption))), H19.below⟩
  · refine CW.cond_f (o := .tmp 34) (b := (hMay u1 c1 k1 n1)) (x := (cAt B5 [1, 1, 1, 1, 1, 0, 1, 0])) (y := (cAt B5 [1, 1, 1, 1, 1, 0, 1, 1])) (by kernel_rfl) (by kernel_rfl) h7 ?_
    refine CW.skip (by kernel_rfl) ?_
    refine NQ.then ?_
    refine CW.seq (x := (cAt B5 [1, 1, 1, 1, 1, 1, 0])) (y := (cAt B5 [1, 1, 1, 1, 1, 1, 1])) (by kernel_rfl) ?_
    refine CW.region (id := 10) (d := false) H6 (by kernel_rfl) mixed 0 [(0, .key 3), (1, .call 0 (pureRec (.tuple #[.int .u64 (hPut (gV w) (gC w) (gK w) (gN w)), .bool (hMay (gV w) (gC w) (gK w) (gN w))])))] [] [2, 3, 4, 6, 7, 9, 10, 11, 12, 15, 16] [0, 1, 2, 3] (by kernel_rfl)
      (fun β20 _ => [(2, .int .u64 w), (3, .pointer (some ⟨(β1 0), 0, none⟩)), (4, .pointer (some ⟨(β1 1), 0, none⟩)), (6, .bool false), (7, .int .u64 (hPut u1 c1 k1 n1)), (9, .int .u64 (hPut u2 c2 k2 n2)), (10, .bool (hMay u2 c2 k2 n2)), (11, .pointer (some ⟨(β5 5), 0, none⟩)), (12, .bool (gOk w)), (15, .int .u64 (hPut (gV w) (gC w) (gK w) (gN w))), (16, .bool (hMay (gV w) (gC w) (gK w) (gN w)))]) (fun β20 _ => [some (.ro noRo), some (.blk (β1 0) [.bool u1, .bool c1, .int .i64 k1, .int .i64 n1] 23), some (.blk (β1 1) [.bool u2, .bool c2, .int .i64 k2, .int .i64 n2] 23), some (.blk (β5 5) [.bool (gV w), .bool (gC w), .int .i64 (gK w), .int .i64 (gN w)] 23)]) (fun β20 _ => [(β5 5) = (β5 5), CallOb P0 12 #[.agg #[.bool (gV w), .bool (gC w), .int .i64 (gK w), .int .i64 (gN w)]] [some (.ro noRo)] (pureRec (.tuple #[.int .u64 (hPut (gV w) (gC w) (gK w) (gN w)), .bool (hMay (gV w) (gC w) (gK w) (gN w))]))]) (fun _ _ => [True])
      (fun _ _ => by kernel_rfl) (fun _ _ => ⟨rfl, (Pure.ob (head_Put (gV w) (gC w) (gK w) (gN w) (by first | assumption | exact next_64 (by assumption) | exact hPut_u64 | exact gK_64 | exact gN_64 | (unfold in64; omega) | (unfold inU64; omega) | (unfold inU32; omega) | (unfold inU8; omega) | omega | (simp only [in64, inU64, inU32, inU8] at *; omega)) (by first | assumption | exact next_64 (by assumption) | exact hPut_u64 | exact gK_64 | exact gN_64 | (unfold in64; omega) | (unfold inU64; omega) | (unfold inU32; omega) | (unfold inU8; omega) | omega | (simp only [in64, inU64, inU32, inU8] at *; omega)))), trivial⟩) ?_
    intro β20 _ w20 H20 _
    refine NQ.then ?_
    refine CW.seq (x := (cAt B5 [1, 1, 1, 1, 1, 1, 1, 0])) (y := (cAt B5 [1, 1, 1, 1, 1, 1, 1, 1])) (by kernel_rfl) ?_
    rcases Bool.eq_false_or_eq_true (gOk w) with h21 | h21
    · refine CW.region (id := 11) (d := false) H20 (by kernel_rfl) mixed 0 [(8, .dec false), (9, .dec true), (16, .dec true), (17, .dec true)] [(2, true), (3, true), (4, true), (5, true), (6, true), (7, true), (8, true), (11, true), (12, true), (13, false), (14, false), (15, false), (16, true)] [2, 3, 4, 6, 7, 9, 10, 11] [0, 1, 2, 3] (by kernel_rfl)
        (fun β22 _ => [(2, .int .u64 w), (3, .pointer (some ⟨(β1 0), 0, none⟩)), (4, .pointer (some ⟨(β1 1), 0, none⟩)), (6, .bool true), (7, .int .u64 (hPut u1 c1 k1 n1)), (9, .int .u64 (hPut u2 c2 k2 n2)), (10, .bool (hMay u2 c2 k2 n2)), (11, .pointer (some ⟨(β5 5), 0, none⟩))]) (fun β22 _ => [some (.ro noRo), some (.blk (β1 0) [.bool u1, .bool c1, .int .i64 k1, .int .i64 n1] 23), some (.blk (β1 1) [.bool u2, .bool c2, .int .i64 k2, .int .i64 n2] 23), some (.blk (β5 5) [.bool (gV w), .bool (gC w), .int .i64 (gK w), .int .i64 (gN w)] 23)]) (fun β22 _ => [((hMay (gV w) (gC w) (gK w) (gN w)) == true) = true, ((hMay (gV w) (gC w) (gK w) (gN w)) == true) = true, ((hMay (gV w) (gC w) (gK w) (gN w)) == true) = true, ((!(gOk w)) == false) = true, ((!(gOk w)) == false) = true, ((!(gOk w)) == false) = true, ((hMay (gV w) (gC w) (gK w) (gN w)) == true) = true, (!(gOk w)) = false, (hMay (gV w) (gC w) (gK w) (gN w)) = true, (((hPut (gV w) (gC w) (gK w) (gN w)) == w) == true) = true, (((hPut (gV w) (gC w) (gK w) (gN w)) == w) == true) = true, ((gOk w) == false) = false, ((gOk w) == false) = false, ((gOk w) == false) = false, (((hPut (gV w) (gC w) (gK w) (gN w)) == w) == true) = true, (gOk w) = true, ((hPut (gV w) (gC w) (gK w) (gN w)) == w) = true]) (fun _ _ => [])
        (fun _ _ => by kernel_rfl) (fun _ _ => ⟨(by rw [show (hMay (gV w) (gC w) (gK w) (gN w)) = true from (gOk_may hw)]; rfl), (by rw [show (hMay (gV w) (gC w) (gK w) (gN w)) = true from (gOk_may hw)]; rfl), (by rw [show (hMay (gV w) (gC w) (gK w) (gN w)) = true from (gOk_may hw)]; rfl), (by rw [show (!(gOk w)) = false from (by rw [show (gOk w) = true from h21]; rfl)]; rfl), (by rw [show (!(gOk w)) = false from (by rw [show (gOk w) = true from h21]; rfl)]; rfl), (by rw [show (!(gOk w)) = false from (by rw [show (gOk w) = true from h21]; rfl)]; rfl), (by rw [show (hMay (gV w) (gC w) (gK w) (gN w)) = true from (gOk_may hw)]; rfl), (by rw [show (gOk w) = true from h21]; rfl), (gOk_may hw), (by rw [show ((hPut (gV w) (gC w) (gK w) (gN w)) == w) = true from (beq_iff_eq.2 (gOk_put hw (by assumption)))]; rfl), (by rw [show ((hPut (gV w) (gC w) (gK w) (gN w)) == w) = true from (beq_iff_eq.2 (gOk_put hw (by assumption)))]; rfl), (by rw [show (gOk w) = true from h21]; rfl), (by rw [show (gOk w) = true from h21]; rfl), (by rw [show (gOk w) = true from h21]; rfl), (by rw [show ((hPut (gV w) (gC w) (gK w) (gN w)) == w) = true from (beq_iff_eq.2 (gOk_put hw (by assumption)))]; rfl), h21, (beq_iff_eq.2 (gOk_put hw (by assumption))), trivial⟩) ?_
      intro β22 _ w22 H22 _
      refine NQ.then ?_
      refine CW.ret (by kernel_rfl) ?_
      refine NQ.ret H22 [.tmp 6] (by kernel_rfl) [] [.bool true] [] (by kernel_rfl) trivial ?_
      exact ⟨congrArg Ending.returned (by first | rfl | exact congrArg Value.bool (put_inj_b (by assumption) (by assumption)) | exact congrArg Value.bool (beq_iff_eq.2 (gOk_put hw (by assumption))) | exact congrArg Value.bool (gOk_zero (by assumption))), H22.below⟩
    · refine CW.region (id := 11) (d := false) H20 (by kernel_rfl) mixed 0 [(8, .dec true), (9, .dec true), (13, .key 3), (16, .dec false)] [(2, true), (3, true), (4, true), (5, false), (6, false), (7, false), (8, true), (13, true), (14, true), (15, true)] [2, 3, 4, 6, 7, 9, 10, 11] [0, 1, 2, 3] (by kernel_rfl)
        (fun β23 _ => [(2, .int .u64 w), (3, .pointer (some ⟨(β1 0), 0, none⟩)), (4, .pointer (some ⟨(β1 1), 0, none⟩)), (6, .bool (((gV w) == false) && (((gC w) == false) && (((gK w) == 0) && (((gN w) == 0) && true))))), (7, .int .u64 (hPut u1 c1 k1 n1)), (9, .int .u64 (hPut u2 c2 k2 n2)), (10, .bool (hMay u2 c2 k2 n2)), (11, .pointer (some ⟨(β5 5), 0, none⟩))]) (fun β23 _ => [some (.ro noRo), some (.blk (β1 0) [.bool u1, .bool c1, .int .i64 k1, .int .i64 n1] 23), some (.blk (β1 1) [.bool u2, .bool c2, .int .i64 k2, .int .i64 n2] 23), some (.blk (β5 5) [.bool (gV w), .bool (gC w), .int .i64 (gK w), .int .i64 (gN w)] 23)]) (fun β23 _ => [((hMay (gV w) (gC w) (gK w) (gN w)) == true) = true, ((hMay (gV w) (gC w) (gK w) (gN w)) == true) = true, ((hMay (gV w) (gC w) (gK w) (gN w)) == true) = true, ((!(gOk w)) == false) = false, ((!(gOk w)) == false) = false, ((!(gOk w)) == false) = false, ((hMay (gV w) (gC w) (gK w) (gN w)) == true) = true, (!(gOk w)) = true, (hMay (gV w) (gC w) (gK w) (gN w)) = true, ((gOk w) == false) = true, (β5 5) = (β5 5), ((gOk w) == false) = true, ((gOk w) == false) = true, (gOk w) = false]) (fun _ _ => [])
        (fun _ _ => by kernel_rfl) (fun _ _ => ⟨(by rw [show (hMay (gV w) (gC w) (gK w) (gN w)) = true from (gOk_may hw)]; rfl), (by rw [show (hMay (gV w) (gC w) (gK w) (gN w)) = true from (gOk_may hw)]; rfl), (by rw [show (hMay (gV w) (gC w) (gK w) (gN w)) = true from (gOk_may hw)]; rfl), (by rw [show (!(gOk w)) = true from (by rw [show (gOk w) = false from h21]; rfl)]; rfl), (by rw [show (!(gOk w)) = true from (by rw [show (gOk w) = false from h21]; rfl)]; rfl), (by rw [show (!(gOk w)) = true from (by rw [show (gOk w) = false from h21]; rfl)]; rfl), (by rw [show (hMay (gV w) (gC w) (gK w) (gN w)) = true from (gOk_may hw)]; rfl), (by rw [show (gOk w) = false from h21]; rfl), (gOk_may hw), (by rw [show (gOk w) = false from h21]; rfl), rfl, (by rw [show (gOk w) = false from h21]; rfl), (by rw [show (gOk w) = false from h21]; rfl), h21, trivial⟩) ?_
      intro β23 _ w23 H23 _
      refine NQ.then ?_
      refine CW.ret (by kernel_rfl) ?_
      refine NQ.ret H23 [.tmp 6] (by kernel_rfl) [] [.bool (((gV w) == false) && (((gC w) == false) && (((gK w) == 0) && (((gN w) == 0) && true))))] [] (by kernel_rfl) trivial ?_
      exact ⟨congrArg Ending.returned (by first | rfl | exact congrArg Value.bool (put_inj_b (by assumption) (by assumption)) | exact congrArg Value.bool (beq_iff_eq.2 (gOk_put hw (by assumption))) | exact congrArg Value.bool (gOk_zero (by assumption))), H23.below⟩

theorem law_HeaderParts (u : Bool) (c : Bool) (k : Int) (n : Int) (hk : in64 k) (hn : in64 n) : Pure noRo P0 6 #[.agg #[.bool u, .bool c, .int .i64 k, .int .i64 n]] (.bool true) := by
  intro w0 hG
  have H0 := Own.begin hG
  refine enter (fn := F6) (c := B6) (n := 90) [(0, .agg #[.bool u, .bool c, .int .i64 k, .int .i64 n])] (by kernel_rfl) (by kernel_rfl) (by kernel_rfl) (by kernel_rfl) (by kernel_rfl) ?_
  refine CW.seq (x := (cAt B6 [0])) (y := (cAt B6 [1])) (by kernel_rfl) ?_
  refine CW.region (id := 0) (d := false) H0 (by kernel_rfl) mixed 1 [(0, .key 1)] [] [1, 2] [0, 1] (by kernel_rfl)
    (fun β1 _ => [(1, .pointer (some ⟨(β1 0), 0, none⟩)), (2, .bool false)]) (fun β1 _ => [some (.ro noRo), some (.blk (β1 0) [.bool u, .bool c, .int .i64 k, .int .i64 n] 23)]) (fun β1 _ => []) (fun _ _ => [])
    (fun _ _ => by kernel_rfl) (fun _ _ => trivial) ?_
  intro β1 _ w1 H1 _
  refine NQ.then ?_
  refine CW.seq (x := (cAt B6 [1, 0])) (y := (cAt B6 [1, 1])) (by kernel_rfl) ?_
  refine CW.seq (x := (cAt B6 [1, 0, 0])) (y := (cAt B6 [1, 0, 1])) (by kernel_rfl) ?_
  rcases Bool.eq_false_or_eq_true (hMay u c k n) with h2 | h2
  · refine CW.region (id := 1) (d := false) H1 (by kernel_rfl) mixed 0 [(0, .call 0 (pureRec (.bool true))), (3, .key 1), (4, .call 0 (pureRec (.bool (hMay u c k n)))), (9, .key 1), (11, .dec false)] [(8, true), (9, true), (10, true)] [1, 2, 21] [0, 1] (by kernel_rfl)
      (fun β3 _ => [(1, .pointer (some ⟨(β1 0), 0, none⟩)), (2, .bool false), (21, .bool (!u))]) (fun β3 _ => [some (.ro noRo), some (.blk (β1 0) [.bool u, .bool c, .int .i64 k, .int .i64 n] 23)]) (fun β3 _ => [CallOb P0 11 #[] [some (.ro noRo)] (pureRec (.bool true)), (β1 0) = (β1 0), CallOb P0 13 #[.agg #[.bool u, .bool c, .int .i64 k, .int .i64 n]] [some (.ro noRo)] (pureRec (.bool (hMay u c k n))), ((!(hMay u c k n)) == false) = true, ((!(hMay u c k n)) == false) = true, (β1 0) = (β1 0), ((!(hMay u c k n)) == false) = true, (!(hMay u c k n)) = false]) (fun _ _ => [True, True])
      (fun _ _ => by kernel_rfl) (fun _ _ => ⟨(Pure.ob (law02_awake  )), rfl, (Pure.ob (ref02_May u c k n)), (by rw [show (!(hMay u c k n)) = false from (by rw [show (hMay u c k n) = true from h2]; rfl)]; rfl), (by rw [show (!(hMay u c k n)) = false from (by rw [show (hMay u c k n) = true from h2]; rfl)]; rfl), rfl, (by rw [show (!(hMay u c k n)) = false from (by rw [show (hMay u c k n) = true from h2]; rfl)]; rfl), (by rw [show (hMay u c k n) = true from h2]; rfl), trivial⟩) ?_
    intro β3 _ w3 H3 _
    refine NQ.then ?_
    rcases Bool.eq_false_or_eq_true u with h4 | h4
    · refine CW.cond_f (o := .tmp 21) (b := (!u)) (x := (cAt B6 [1, 0, 1, 0])) (y := (cAt B6 [1, 0, 1, 1])) (by kernel_rfl) (by kernel_rfl) (by rw [show u = true from h4]; rfl) ?_
      refine CW.skip (by kernel_rfl) ?_
      refine NQ.then ?_
      refine CW.seq (x := (cAt B6 [1, 1, 0])) (y := (cAt B6 [1, 1, 1])) (by kernel_rfl) ?_
      refine CW.region (id := 3) (d := false) H3 (by kernel_rfl) mixed 0 [(0, .key 1), (1, .call 0 (pureRec (.tuple #[.int .u64 (hPut u c k n), .bool (hMay u c k n)])))] [] [1, 2, 3, 4] [0, 1] (by kernel_rfl)
        (fun β5 _ => [(1, .pointer (some ⟨(β1 0), 0, none⟩)), (2, .bool false), (3, .int .u64 (hPut u c k n)), (4, .bool (hMay u c k n))]) (fun β5 _ => [some (.ro noRo), some (.blk (β1 0) [.bool u, .bool c, .int .i64 k, .int .i64 n] 23)]) (fun β5 _ => [(β1 0) = (β1 0), CallOb P0 12 #[.agg #[.bool u, .bool c, .int .i64 k, .int .i64 n]] [some (.ro noRo)] (pureRec (.tuple #[.int .u64 (hPut u c k n), .bool (hMay u c k n)]))]) (fun _ _ => [True])
        (fun _ _ => by kernel_rfl) (fun _ _ => ⟨rfl, (Pure.ob (head_Put u c k n (by first | assumption | exact next_64 (by assumption) | exact hPut_u64 | exact gK_64 | exact gN_64 | (unfold in64; omega) | (unfold inU64; omega) | (unfold inU32; omega) | (unfold inU8; omega) | omega | (simp only [in64, inU64, inU32, inU8] at *; omega)) (by first | assumption | exact next_64 (by assumption) | exact hPut_u64 | exact gK_64 | exact gN_64 | (unfold in64; omega) | (unfold inU64; omega) | (unfold inU32; omega) | (unfold inU8; omega) | omega | (simp only [in64, inU64, inU32, inU8] at *; omega)))), trivial⟩) ?_
      intro β5 _ w5 H5 _
      refine NQ.then ?_
      refine CW.seq (x := (cAt B6 [1, 1, 1, 0])) (y := (cAt B6 [1, 1, 1, 1])) (by kernel_rfl) ?_
      refine CW.region (id := 4) (d := false) H5 (by kernel_rfl) mixed 1 [(0, .key 1), (1, .key 2), (2, .key 2)] [] [1, 2, 3, 4, 5] [0, 1, 2] (by kernel_rfl)
        (fun β6 _ => [(1, .pointer (some ⟨(β1 0), 0, none⟩)), (2, .bool false), (3, .int .u64 (hPut u c k n)), (4, .bool (hMay u c k n)), (5, .pointer (some ⟨(β6 1), 0, none⟩))]) (fun β6 _ => [some (.ro noRo), some (.blk (β1 0) [.bool u, .bool c, .int .i64 k, .int .i64 n] 23), some (.blk (β6 1) [.bool u, .bool c, .int .i64 k, .int .i64 n] 23)]) (fun β6 _ => [(β1 0) = (β1 0), (β6 1) = (β6 1)]) (fun _ _ => [])
        (fun _ _ => by kernel_rfl) (fun _ _ => ⟨rfl, rfl, trivial⟩) ?_
      intro β6 _ w6 H6 _
      refine NQ.then ?_
      refine CW.seq (x := (cAt B6 [1, 1, 1, 1, 0])) (y := (cAt B6 [1, 1, 1, 1, 1])) (by kernel_rfl) ?_
      refine CW.region (id := 5) (d := false) H6 (by kernel_rfl) mixed 0 [(1, .key 1), (4, .key 2)] [] [1, 2, 3, 4, 5] [0, 1, 2] (by kernel_rfl)
        (fun β7 _ => [(1, .pointer (some ⟨(β1 0), 0, none⟩)), (2, .bool false), (3, .int .u64 (hPut u c k n)), (4, .bool (hMay u c k n)), (5, .pointer (some ⟨(β6 1), 0, none⟩))]) (fun β7 _ => [some (.ro noRo), some (.blk (β1 0) [.bool u, .bool c, .int .i64 k, .int .i64 n] 23), some (.blk (β6 1) [.bool u, .bool (!c), .int .i64 k, .int .i64 n] 23)]) (fun β7 _ => [(β1 0) = (β1 0), (β6 1) = (β6 1)]) (fun _ _ => [])
        (fun _ _ => by kernel_rfl) (fun _ _ => ⟨rfl, rfl, trivial⟩) ?_
      intro β7 _ w7 H7 _
      refine NQ.then ?_
      refine CW.seq (x := (cAt B6 [1, 1, 1, 1, 1, 0])) (y := (cAt B6 [1, 1, 1, 1, 1, 1])) (by kernel_rfl) ?_
      refine CW.region (id := 6) (d := false) H7 (by kernel_rfl) mixed 0 [(0, .key 2), (1, .call 0 (pureRec (.tuple #[.int .u64 (hPut u (!c) k n), .bool (hMay u (!c) k n)])))] [] [1, 2, 3, 4, 5, 6, 7] [0, 1, 2] (by kernel_rfl)
        (fun β8 _ => [(1, .pointer (some ⟨(β1 0), 0, none⟩)), (2, .bool false), (3, .int .u64 (hPut u c k n)), (4, .bool (hMay u c k n)), (5, .pointer (some ⟨(β6 1), 0, none⟩)), (6, .int .u64 (hPut u (!c) k n)), (7, .bool (hMay u (!c) k n))]) (fun β8 _ => [some (.ro noRo), some (.blk (β1 0) [.bool u, .bool c, .int .i64 k, .int .i64 n] 23), some (.blk (β6 1) [.bool u, .bool (!c), .int .i64 k, .int .i64 n] 23)]) (fun β8 _ => [(β6 1) = (β6 1), CallOb P0 12 #[.agg #[.bool u, .bool (!c), .int .i64 k, .int .i64 n]] [some (.ro noRo)] (pureRec (.tuple #[.int .u64 (hPut u (!c) k n), .bool (hMay u (!c) k n)]))]) (fun _ _ => [True])
        (fun _ _ => by kernel_rfl) (fun _ _ => ⟨rfl, (Pure.ob (head_Put u (!c) k n (by first | assumption | exact next_64 (by assumption) | exact hPut_u64 | exact gK_64 | exact gN_64 | (unfold in64; omega) | (unfold inU64; omega) | (unfold inU32; omega) | (unfold inU8; omega) | omega | (simp only [in64, inU64, inU32, inU8] at *; omega)) (by first | assumption | exact next_64 (by assumption) | exact hPut_u64 | exact gK_64 | exact gN_64 | (unfold in64; omega) | (unfold inU64; omega) | (unfold inU32; omega) | (unfold inU8; omega) | omega | (simp only [in64, inU64, inU32, inU8] at *; omega)))), trivial⟩) ?_
      intro β8 _ w8 H8 _
      refine NQ.then ?_
      refine CW.seq (x := (cAt B6 [1, 1, 1, 1, 1, 1, 0])) (y := (cAt B6 [1, 1, 1, 1, 1, 1, 1])) (by kernel_rfl) ?_
      refine CW.seq (x := (cAt B6 [1, 1, 1, 1, 1, 1, 0, 0])) (y := (cAt B6 [1, 1, 1, 1, 1, 1, 0, 1])) (by kernel_rfl) ?_
      rcases Bool.eq_false_or_eq_true c with h9 | h9
      · refine CW.region (id := 7) (d := false) H8 (by kernel_rfl) mixed 0 [(5, .dec false), (9, .dec false), (13, .dec false), (16, .key 1), (22, .dec true), (23, .dec false), (26, .key 1), (33, .dec false), (34, .dec false)] [(3, true), (4, true), (7, true), (8, true), (11, true), (12, true), (15, true), (16, true), (17, true), (18, true), (19, true), (20, true), (21, true), (22, true), (25, true), (26, true), (27, true), (28, true), (29, false), (30, false), (31, false), (32, false), (33, true)] [1, 2, 3, 5, 72] [0, 1, 2] (by kernel_rfl)
          (fun β10 _ => [(1, .pointer (some ⟨(β1 0), 0, none⟩)), (2, .bool false), (3, .int .u64 (hPut u c k n)), (5, .pointer (some ⟨(β6 1), 0, none⟩)), (72, .bool false)]) (fun β10 _ => [some (.ro noRo), some (.blk (β1 0) [.bool u, .bool c, .int .i64 k, .int .i64 n] 23), some (.blk (β6 1) [.bool u, .bool (!c), .int .i64 k, .int .i64 n] 23)]) (fun β10 _ => [((!(hMay u c k n)) == false) = true, ((!(hMay u c k n)) == false) = true, (!(hMay u c k n)) = false, ((!(hMay u (!c) k n)) == false) = true, ((!(hMay u (!c) k n)) == false) = true, (!(hMay u (!c) k n)) = false, ((decide ((hPut u c k n) > 255)) == false) = true, ((decide ((hPut u c k n) > 255)) == false) = true, (decide ((hPut u c k n) > 255)) = false, ((decide ((hPut u c k n) < 128)) == false) = true, ((decide ((hPut u c k n) < 128)) == false) = true, (β1 0) = (β1 0), ((decide ((hPut u c k n) < 128)) == false) = true, (c == true) = true, (c == true) = true, (c == true) = true, (c == true) = true, ((decide ((hPut u c k n) < 128)) == false) = true, c = true, (decide ((hPut u c k n) < 128)) = false, (((hPut u c k n) != (iAdd .u64 (hPut u (!c) k n) 64)) == false) = true, (((hPut u c k n) != (iAdd .u64 (hPut u (!c) k n) 64)) == false) = true, (β1 0) = (β1 0), (((hPut u c k n) != (iAdd .u64 (hPut u (!c) k n) 64)) == false) = true, (((hPut u c k n) != (iAdd .u64 (hPut u (!c) k n) 64)) == false) = true, ((!c) == true) = false, ((!c) == true) = false, ((!c) == true) = false, ((!c) == true) = false, (((hPut u c k n) != (iAdd .u64 (hPut u (!c) k n) 64)) == false) = true, (!c) = false, ((hPut u c k n) != (iAdd .u64 (hPut u (!c) k n) 64)) = false]) (fun _ _ => [])
          (fun _ _ => by kernel_rfl) (fun _ _ => ⟨(by rw [show (!(hMay u c k n)) = false from (by rw [show (hMay u c k n) = true from h2]; rfl)]; rfl), (by rw [show (!(hMay u c k n)) = false from (by rw [show (hMay u c k n) = true from h2]; rfl)]; rfl), (by rw [show (hMay u c k n) = true from h2]; rfl), (by rw [show (!(hMay u (!c) k n)) = false from (by rw [show (hMay u (!c) k n) = true from (may_other (by assumption) (by assumption))]; rfl)]; rfl), (by rw [show (!(hMay u (!c) k n)) = false from (by rw [show (hMay u (!c) k n) = true from (may_other (by assumption) (by assumption))]; rfl)]; rfl), (by rw [show (hMay u (!c) k n) = true from (may_other (by assumption) (by assumption))]; rfl), (by rw [show (decide ((hPut u c k n) > 255)) = false from (decide_eq_false (by have := parts (by assumption) (by assumption : u = true); omega))]; rfl), (by rw [show (decide ((hPut u c k n) > 255)) = false from (decide_eq_false (by have := parts (by assumption) (by assumption : u = true); omega))]; rfl), (decide_eq_false (by have := parts (by assumption) (by assumption : u = true); omega)), (by rw [show (decide ((hPut u c k n) < 128)) = false from (decide_eq_false (by have := parts (by assumption) (by assumption : u = true); omega))]; rfl), (by rw [show (decide ((hPut u c k n) < 128)) = false from (decide_eq_false (by have := parts (by assumption) (by assumption : u = true); omega))]; rfl), rfl, (by rw [show (decide ((hPut u c k n) < 128)) = false from (decide_eq_false (by have := parts (by assumption) (by assumption : u = true); omega))]; rfl), (by rw [show c = true from h9]; rfl), (by rw [show c = true from h9]; rfl), (by rw [show c = true from h9]; rfl), (by rw [show c = true from h9]; rfl), (by rw [show (decide ((hPut u c k n) < 128)) = false from (decide_eq_false (by have := parts (by assumption) (by assumption : u = true); omega))]; rfl), h9, (decide_eq_false (by have := parts (by assumption) (by assumption : u = true); omega)), (by rw [show ((hPut u c k n) != (iAdd .u64 (hPut u (!c) k n) 64)) = false from (by rw [add64 64 (by omega) (by omega)]; have hp := (parts (by assumption) (by assumption : u = true)).2.2.1 (by assumption); simp [← hp])]; rfl), (by rw [show ((hPut u c k n) != (iAdd .u64 (hPut u (!c) k n) 64)) = false from (by rw [add64 64 (by omega) (by omega)]; have hp := (parts (by assumption) (by assumption : u = true)).2.2.1 (by assumption); simp [← hp])]; rfl), rfl, (by rw [show ((hPut u c k n) != (iAdd .u64 (hPut u (!c) k n) 64)) = false from (by rw [add64 64 (by omega) (by omega)]; have hp := (parts (by assumption) (by assumption : u = true)).2.2.1 (by assumption); simp [← hp])]; rfl), (by rw [show ((hPut u c k n) != (iAdd .u64 (hPut u (!c) k n) 64)) = false from (by rw [add64 64 (by omega) (by omega)]; have hp := (parts (by assumption) (by assumption : u = true)).2.2.1 (by assumption); simp [← hp])]; rfl), (by rw [show (!c) = false from (by rw [show c = true from h9]; rfl)]; rfl), (by rw [show (!c) = false from (by rw [show c = true from h9]; rfl)]; rfl), (by rw [show (!c) = false from (by rw [show c = true from h9]; rfl)]; rfl), (by rw [show (!c) = false from (by rw [show c = true from h9]; rfl)]; rfl), (by rw [show ((hPut u c k n) != (iAdd .u64 (hPut u (!c) k n) 64)) = false from (by rw [add64 64 (by omega) (by omega)]; have hp := (parts (by assumption) (by assumption : u = true)).2.2.1 (by assumption); simp [← hp])]; rfl), (by rw [show c = true from h9]; rfl), (by rw [add64 64 (by omega) (by omega)]; have hp := (parts (by assumption) (by assumption : u = true)).2.2.1 (by assumption); simp [← hp]), trivial⟩) ?_
        intro β10 _ w10 H10 _
        refine NQ.then ?_
        refine CW.cond_f (o := .tmp 72) (b := false) (x := (cAt B6 [1, 1, 1, 1, 1, 1, 0, 1, 0])) (y := (cAt B6 [1, 1, 1, 1, 1, 1, 0, 1, 1])) (by kernel_rfl) (by kernel_rfl) rfl ?_
        refine CW.skip (by kernel_rfl) ?_
        refine NQ.then ?_
        refine CW.seq (x := (cAt B6 [1, 1, 1, 1, 1, 1, 1, 0])) (y := (cAt B6 [1, 1, 1, 1, 1, 1, 1, 1])) (by kernel_rfl) ?_
        refine CW.region (id := 9) (d := false) H10 (by kernel_rfl) mixed 0 [(1, .key 1), (4, .key 1)] [] [1, 2, 3, 5] [0, 1, 2] (by kernel_rfl)
          (fun β11 _ => [(1, .pointer (some ⟨(β1 0), 0, none⟩)), (2, .bool false), (3, .int .u64 (hPut u c k n)), (5, .pointer (some ⟨(β6 1), 0, none⟩))]) (fun β11 _ => [some (.ro noRo), some (.blk (β1 0) [.bool u, .bool c, .int .i64 k, .int .i64 (iAdd .i64 n 1)] 23), some (.blk (β6 1) [.bool u, .bool (!c), .int .i64 k, .int .i64 n] 23)]) (fun β11 _ => [(β1 0) = (β1 0), (β1 0) = (β1 0)]) (fun _ _ => [])
          (fun _ _ => by kernel_rfl) (fun _ _ => ⟨rfl, rfl, trivial⟩) ?_
        intro β11 _ w11 H11 _
        rw [show (iAdd .i64 n 1) = (n + 1) from next_n (by assumption)] at H11
        refine NQ.then ?_
        refine CW.seq (x := (cAt B6 [1, 1, 1, 1, 1, 1, 1, 1, 0])) (y := (cAt B6 [1, 1, 1, 1, 1, 1, 1, 1, 1])) (by kernel_rfl) ?_
        refine CW.region (id := 10) (d := false) H11 (by kernel_rfl) mixed 0 [(0, .key 1), (1, .call 0 (pureRec (.tuple #[.int .u64 (hPut u c k (n + 1)), .bool (hMay u c k (n + 1))])))] [] [1, 2, 3, 5, 8, 9] [0, 1, 2] (by kernel_rfl)
          (fun β12 _ => [(1, .pointer (some ⟨(β1 0), 0, none⟩)), (2, .bool false), (3, .int .u64 (hPut u c k n)), (5, .pointer (some ⟨(β6 1), 0, none⟩)), (8, .int .u64 (hPut u c k (n + 1))), (9, .bool (hMay u c k (n + 1)))]) (fun β12 _ => [some (.ro noRo), some (.blk (β1 0) [.bool u, .bool c, .int .i64 k, .int .i64 (n + 1)] 23), some (.blk (β6 1) [.bool u, .bool (!c), .int .i64 k, .int .i64 n] 23)]) (fun β12 _ => [(β1 0) = (β1 0), CallOb P0 12 #[.agg #[.bool u, .bool c, .int .i64 k, .int .i64 (n + 1)]] [some (.ro noRo)] (pureRec (.tuple #[.int .u64 (hPut u c k (n + 1)), .bool (hMay u c k (n + 1))]))]) (fun _ _ => [True])
          (fun _ _ => by kernel_rfl) (fun _ _ => ⟨rfl, (Pure.ob (head_Put u c k (n + 1) (by first | assumption | exact next_64 (by assumption) | exact hPut_u64 | exact gK_64 | exact gN_64 | (unfold in64; omega) | (unfold inU64; omega) | (unfold inU32; omega) | (unfold inU8; omega) | omega | (simp only [in64, inU64, inU32, inU8] at *; omega)) (by first | assumption | exact next_64 (by assumption) | exact hPut_u64 | exact gK_64 | exact gN_64 | (unfold in64; omega) | (unfold inU64; omega) | (unfold inU32; omega) | (unfold inU8; omega) | omega | (simp only [in64, inU64, inU32, inU8] at *; omega)))), trivial⟩) ?_
        intro β12 _ w12 H12 _
        refine NQ.then ?_
        refine CW.seq (x := (cAt B6 [1, 1, 1, 1, 1, 1, 1, 1, 1, 0])) (y := (cAt B6 [1, 1, 1, 1, 1, 1, 1, 1, 1, 1])) (by kernel_rfl) ?_
        rcases Bool.eq_false_or_eq_true (hMay u c k (n + 1)) with h13 | h13
        · refine CW.region (id := 11) (d := false) H12 (by kernel_rfl) mixed 0 [(7, .dec false)] [(3, true), (4, true), (5, true), (6, true)] [1, 2, 3, 5] [0, 1, 2] (by kernel_rfl)
            (fun β14 _ => [(1, .pointer (some ⟨(β1 0), 0, none⟩)), (2, .bool ((hPut u c k (n + 1)) == (iAdd .u64 (hPut u c k n) 1))), (3, .int .u64 (hPut u c k n)), (5, .pointer (some ⟨(β6 1), 0, none⟩))]) (fun β14 _ => [some (.ro noRo), some (.blk (β1 0) [.bool u, .bool c, .int .i64 k, .int .i64 (n + 1)] 23), some (.blk (β6 1) [.bool u, .bool (!c), .int .i64 k, .int .i64 n] 23)]) (fun β14 _ => [((!(hMay u c k (n + 1))) == false) = true, ((!(hMay u c k (n + 1))) == false) = true, ((!(hMay u c k (n + 1))) == false) = true, ((!(hMay u c k (n + 1))) == false) = true, (!(hMay u c k (n + 1))) = false]) (fun _ _ => [])
            (fun _ _ => by kernel_rfl) (fun _ _ => ⟨(by rw [show (!(hMay u c k (n + 1))) = false from (by rw [show (hMay u c k (n + 1)) = true from h13]; rfl)]; rfl), (by rw [show (!(hMay u c k (n + 1))) = false from (by rw [show (hMay u c k (n + 1)) = true from h13]; rfl)]; rfl), (by rw [show (!(hMay u c k (n + 1))) = false from (by rw [show (hMay u c k (n + 1)) = true from h13]; rfl)]; rfl), (by rw [show (!(hMay u c k (n + 1))) = false from (by rw [show (hMay u c k (n + 1)) = true from h13]; rfl)]; rfl), (by rw [show (hMay u c k (n + 1)) = true from h13]; rfl), trivial⟩) ?_
          intro β14 _ w14 H14 _
          rw [show (iAdd .u64 (hPut u c k n) 1) = ((hPut u c k n) + 1) from add64 1 (by omega) (by omega)]
          refine NQ.then ?_
          refine CW.ret (by kernel_rfl) ?_
          refine NQ.ret H14 [.tmp 2] (by kernel_rfl) [] [.bool ((hPut u c k (n + 1)) == ((hPut u c k n) + 1))] [] (by kernel_rfl) trivial ?_
          exact ⟨congrArg Ending.returned (by first | rfl | exact congrArg Value.bool (beq_iff_eq.2 ((parts (by assumption) (by assumption : u = true)).2.2.2.2 (by assumption)))), H14.below⟩
        · refine CW.region (id := 11) (d := false) H12 (by kernel_rfl) mixed 0 [(7, .dec true)] [(3, false), (4, false), (5, false), (6, false)] [1, 2, 3, 5] [0, 1, 2] (by kernel_rfl)
            (fun β15 _ => [(1, .pointer (some ⟨(β1 0), 0, none⟩)), (2, .bool true), (3, .int .u64 (hPut u c k n)), (5, .pointer (some ⟨(β6 1), 0, none⟩))]) (fun β15 _ => [some (.ro noRo), some (.blk (β1 0) [.bool u, .bool c, .int .i64 k, .int .i64 (n + 1)] 23), some (.blk (β6 1) [.bool u, .bool (!c), .int .i64 k, .int .i64 n] 23)]) (fun β15 _ => [((!(hMay u c k (n + 1))) == false) = false, ((!(hMay u c k (n + 1))) == false) = false, ((!(hMay u c k (n + 1))) == false) = false, ((!(hMay u c k (n + 1))) == false) = false, (!(hMay u c k (n + 1))) = true]) (fun _ _ => [])
            (fun _ _ => by kernel_rfl) (fun _ _ => ⟨(by rw [show (!(hMay u c k (n + 1))) = true from (by rw [show (hMay u c k (n + 1)) = false from h13]; rfl)]; rfl), (by rw [show (!(hMay u c k (n + 1))) = true from (by rw [show (hMay u c k (n + 1)) = false from h13]; rfl)]; rfl), (by rw [show (!(hMay u c k (n + 1))) = true from (by rw [show (hMay u c k (n + 1)) = false from h13]; rfl)]; rfl), (by rw [show (!(hMay u c k (n + 1))) = true from (by rw [show (hMay u c k (n + 1)) = false from h13]; rfl)]; rfl), (by rw [show (hMay u c k (n + 1)) = false from h13]; rfl), trivial⟩) ?_
          intro β15 _ w15 H15 _
          refine NQ.then ?_
          refine CW.ret (by kernel_rfl) ?_
          refine NQ.ret H15 [.tmp 2] (by kernel_rfl) [] [.bool true] [] (by kernel_rfl) trivial ?_
          exact ⟨congrArg Ending.returned (by first | rfl | exact congrArg Value.bool (beq_iff_eq.2 ((parts (by assumption) (by assumption : u = true)).2.2.2.2 (by assumption)))), H15.below⟩
      · refine CW.region (id := 7) (d := false) H8 (by kernel_rfl) mixed 0 [(5, .dec false), (9, .dec false), (13, .dec false), (16, .key 1), (22, .dec false), (23, .dec false), (26, .key 1), (33, .dec true)] [(3, true), (4, true), (7, true), (8, true), (11, true), (12, true), (15, true), (16, true), (17, true), (18, false), (19, false), (20, false), (21, false), (22, true), (29, true), (30, true), (31, true), (32, true)] [1, 2, 3, 5, 72] [0, 1, 2] (by kernel_rfl)
          (fun β16 _ => [(1, .pointer (some ⟨(β1 0), 0, none⟩)), (2, .bool false), (3, .int .u64 (hPut u c k n)), (5, .pointer (some ⟨(β6 1), 0, none⟩)), (72, .bool ((hPut u (!c) k n) != (iAdd .u64 (hPut u c k n) 64)))]) (fun β16 _ => [some (.ro noRo), some (.blk (β1 0) [.bool u, .bool c, .int .i64 k, .int .i64 n] 23), some (.blk (β6 1) [.bool u, .bool (!c), .int .i64 k, .int .i64 n] 23)]) (fun β16 _ => [((!(hMay u c k n)) == false) = true, ((!(hMay u c k n)) == false) = true, (!(hMay u c k n)) = false, ((!(hMay u (!c) k n)) == false) = true, ((!(hMay u (!c) k n)) == false) = true, (!(hMay u (!c) k n)) = false, ((decide ((hPut u c k n) > 255)) == false) = true, ((decide ((hPut u c k n) > 255)) == false) = true, (decide ((hPut u c k n) > 255)) = false, ((decide ((hPut u c k n) < 128)) == false) = true, ((decide ((hPut u c k n) < 128)) == false) = true, (β1 0) = (β1 0), ((decide ((hPut u c k n) < 128)) == false) = true, (c == true) = false, (c == true) = false, (c == true) = false, (c == true) = false, ((decide ((hPut u c k n) < 128)) == false) = true, c = false, (decide ((hPut u c k n) < 128)) = false, (β1 0) = (β1 0), ((!c) == true) = true, ((!c) == true) = true, ((!c) == true) = true, ((!c) == true) = true, (!c) = true]) (fun _ _ => [])
          (fun _ _ => by kernel_rfl) (fun _ _ => ⟨(by rw [show (!(hMay u c k n)) = false from (by rw [show (hMay u c k n) = true from h2]; rfl)]; rfl), (by rw [show (!(hMay u c k n)) = false from (by rw [show (hMay u c k n) = true from h2]; rfl)]; rfl), (by rw [show (hMay u c k n) = true from h2]; rfl), (by rw [show (!(hMay u (!c) k n)) = false from (by rw [show (hMay u (!c) k n) = true from (may_other (by assumption) (by assumption))]; rfl)]; rfl), (by rw [show (!(hMay u (!c) k n)) = false from (by rw [show (hMay u (!c) k n) = true from (may_other (by assumption) (by assumption))]; rfl)]; rfl), (by rw [show (hMay u (!c) k n) = true from (may_other (by assumption) (by assumption))]; rfl), (by rw [show (decide ((hPut u c k n) > 255)) = false from (decide_eq_false (by have := parts (by assumption) (by assumption : u = true); omega))]; rfl), (by rw [show (decide ((hPut u c k n) > 255)) = false from (decide_eq_false (by have := parts (by assumption) (by assumption : u = true); omega))]; rfl), (decide_eq_false (by have := parts (by assumption) (by assumption : u = true); omega)), (by rw [show (decide ((hPut u c k n) < 128)) = false from (decide_eq_false (by have := parts (by assumption) (by assumption : u = true); omega))]; rfl), (by rw [show (decide ((hPut u c k n) < 128)) = false from (decide_eq_false (by have := parts (by assumption) (by assumption : u = true); omega))]; rfl), rfl, (by rw [show (decide ((hPut u c k n) < 128)) = false from (decide_eq_false (by have := parts (by assumption) (by assumption : u = true); omega))]; rfl), (by rw [show c = false from h9]; rfl), (by rw [show c = false from h9]; rfl), (by rw [show c = false from h9]; rfl), (by rw [show c = false from h9]; rfl), (by rw [show (decide ((hPut u c k n) < 128)) = false from (decide_eq_false (by have := parts (by assumption) (by assumption : u = true); omega))]; rfl), h9, (decide_eq_false (by have := parts (by assumption) (by assumption : u = true); omega)), rfl, (by rw [show (!c) = true from (by rw [show c = false from h9]; rfl)]; rfl), (by rw [show (!c) = true from (by rw [show c = false from h9]; rfl)]; rfl), (by rw [show (!c) = true from (by rw [show c = false from h9]; rfl)]; rfl), (by rw [show (!c) = true from (by rw [show c = false from h9]; rfl)]; rfl), (by rw [show c = false from h9]; rfl), trivial⟩) ?_
        intro β16 _ w16 H16 _
        rw [show (iAdd .u64 (hPut u c k n) 64) = ((hPut u c k n) + 64) from add64 64 (by omega) (by omega)]
        refine NQ.then ?_
        refine CW.cond_f (o := .tmp 72) (b := ((hPut u (!c) k n) != ((hPut u c k n) + 64))) (x := (cAt B6 [1, 1, 1, 1, 1, 1, 0, 1, 0])) (y := (cAt B6 [1, 1, 1, 1, 1, 1, 0, 1, 1])) (by kernel_rfl) (by kernel_rfl) (by have hp := (parts (by assumption) (by assumption : u = true)).2.2.2.1 (by assumption); simp [← hp]) ?_
        refine CW.skip (by kernel_rfl) ?_
        refine NQ.then ?_
        refine CW.seq (x := (cAt B6 [1, 1, 1, 1, 1, 1, 1, 0])) (y := (cAt B6 [1, 1, 1, 1, 1, 1, 1, 1])) (by kernel_rfl) ?_
        refine CW.region (id := 9) (d := false) H16 (by kernel_rfl) mixed 0 [(1, .key 1), (4, .key 1)] [] [1, 2, 3, 5] [0, 1, 2] (by kernel_rfl)
          (fun β17 _ => [(1, .pointer (some ⟨(β1 0), 0, none⟩)), (2, .bool false), (3, .int .u64 (hPut u c k n)), (5, .pointer (some ⟨(β6 1), 0, none⟩))]) (fun β17 _ => [some (.ro noRo), some (.blk (β1 0) [.bool u, .bool c, .int .i64 k, .int .i64 (iAdd .i64 n 1)] 23), some (.blk (β6 1) [.bool u, .bool (!c), .int .i64 k, .int .i64 n] 23)]) (fun β17 _ => [(β1 0) = (β1 0), (β1 0) = (β1 0)]) (fun _ _ => [])
          (fun _ _ => by kernel_rfl) (fun _ _ => ⟨rfl, rfl, trivial⟩) ?_
        intro β17 _ w17 H17 _
        rw [show (iAdd .i64 n 1) = (n + 1) from next_n (by assumption)] at H17
        refine NQ.then ?_
        refine CW.seq (x := (cAt B6 [1, 1, 1, 1, 1, 1, 1, 1, 0])) (y := (cAt B6 [1, 1, 1, 1, 1, 1, 1, 1, 1])) (by kernel_rfl) ?_
        refine CW.region (id := 10) (d := false) H17 (by kernel_rfl) mixed 0 [(0, .key 1), (1, .call 0 (pureRec (.tuple #[.int .u64 (hPut u c k (n + 1)), .bool (hMay u c k (n + 1))])))] [] [1, 2, 3, 5, 8, 9] [0, 1, 2] (by kernel_rfl)
          (fun β18 _ => [(1, .pointer (some ⟨(β1 0), 0, none⟩)), (2, .bool false), (3, .int .u64 (hPut u c k n)), (5, .pointer (some ⟨(β6 1), 0, none⟩)), (8, .int .u64 (hPut u c k (n + 1))), (9, .bool (hMay u c k (n + 1)))]) (fun β18 _ => [some (.ro noRo), some (.blk (β1 0) [.bool u, .bool c, .int .i64 k, .int .i64 (n + 1)] 23), some (.blk (β6 1) [.bool u, .bool (!c), .int .i64 k, .int .i64 n] 23)]) (fun β18 _ => [(β1 0) = (β1 0), CallOb P0 12 #[.agg #[.bool u, .bool c, .int .i64 k, .int .i64 (n + 1)]] [some (.ro noRo)] (pureRec (.tuple #[.int .u64 (hPut u c k (n + 1)), .bool (hMay u c k (n + 1))]))]) (fun _ _ => [True])
          (fun _ _ => by kernel_rfl) (fun _ _ => ⟨rfl, (Pure.ob (head_Put u c k (n + 1) (by first | assumption | exact next_64 (by assumption) | exact hPut_u64 | exact gK_64 | exact gN_64 | (unfold in64; omega) | (unfold inU64; omega) | (unfold inU32; omega) | (unfold inU8; omega) | omega | (simp only [in64, inU64, inU32, inU8] at *; omega)) (by first | assumption | exact next_64 (by assumption) | exact hPut_u64 | exact gK_64 | exact gN_64 | (unfold in64; omega) | (unfold inU64; omega) | (unfold inU32; omega) | (unfold inU8; omega) | omega | (simp only [in64, inU64, inU32, inU8] at *; omega)))), trivial⟩) ?_
        intro β18 _ w18 H18 _
        refine NQ.then ?_
        refine CW.seq (x := (cAt B6 [1, 1, 1, 1, 1, 1, 1, 1, 1, 0])) (y := (cAt B6 [1, 1, 1, 1, 1, 1, 1, 1, 1, 1])) (by kernel_rfl) ?_
        rcases Bool.eq_false_or_eq_true (hMay u c k (n + 1)) with h19 | h19
        · refine CW.region (id := 11) (d := false) H18 (by kernel_rfl) mixed 0 [(7, .dec false)] [(3, true), (4, true), (5, true), (6, true)] [1, 2, 3, 5] [0, 1, 2] (by kernel_rfl)
            (fun β20 _ => [(1, .pointer (some ⟨(β1 0), 0, none⟩)), (2, .bool ((hPut u c k (n + 1)) == (iAdd .u64 (hPut u c k n) 1))), (3, .int .u64 (hPut u c k n)), (5, .pointer (some ⟨(β6 1), 0, none⟩))]) (fun β20 _ => [some (.ro noRo), some (.blk (β1 0) [.bool u, .bool c, .int .i64 k, .int .i64 (n + 1)] 23), some (.blk (β6 1) [.bool u, .bool (!c), .int .i64 k, .int .i64 n] 23)]) (fun β20 _ => [((!(hMay u c k (n + 1))) == false) = true, ((!(hMay u c k (n + 1))) == false) = true, ((!(hMay u c k (n + 1))) == false) = true, ((!(hMay u c k (n + 1))) == false) = true, (!(hMay u c k (n + 1))) = false]) (fun _ _ => [])
            (fun _ _ => by kernel_rfl) (fun _ _ => ⟨(by rw [show (!(hMay u c k (n + 1))) = false from (by rw [show (hMay u c k (n + 1)) = true from h19]; rfl)]; rfl), (by rw [show (!(hMay u c k (n + 1))) = false from (by rw [show (hMay u c k (n + 1)) = true from h19]; rfl)]; rfl), (by rw [show (!(hMay u c k (n + 1))) = false from (by rw [show (hMay u c k (n + 1)) = true from h19]; rfl)]; rfl), (by rw [show (!(hMay u c k (n + 1))) = false from (by rw [show (hMay u c k (n + 1)) = true from h19]; rfl)]; rfl), (by rw [show (hMay u c k (n + 1)) = true from h19]; rfl), trivial⟩) ?_
          intro β20 _ w20 H20 _
          rw [show (iAdd .u64 (hPut u c k n) 1) = ((hPut u c k n) + 1) from add64 1 (by omega) (by omega)]
          refine NQ.then ?_
          refine CW.ret (by kernel_rfl) ?_
          refine NQ.ret H20 [.tmp 2] (by kernel_rfl) [] [.bool ((hPut u c k (n + 1)) == ((hPut u c k n) + 1))] [] (by kernel_rfl) trivial ?_
          exact ⟨congrArg Ending.returned (by first | rfl | exact congrArg Value.bool (beq_iff_eq.2 ((parts (by assumption) (by assumption : u = true)).2.2.2.2 (by assumption)))), H20.below⟩
        · refine CW.region (id := 11) (d := false) H18 (by kernel_rfl) mixed 0 [(7, .dec true)] [(3, false), (4, false), (5, false), (6, false)] [1, 2, 3, 5] [0, 1, 2] (by kernel_rfl)
            (fun β21 _ => [(1, .pointer (some ⟨(β1 0), 0, none⟩)), (2, .bool true), (3, .int .u64 (hPut u c k n)), (5, .pointer (some ⟨(β6 1), 0, none⟩))]) (fun β21 _ => [some (.ro noRo), some (.blk (β1 0) [.bool u, .bool c, .int .i64 k, .int .i64 (n + 1)] 23), some (.blk (β6 1) [.bool u, .bool (!c), .int .i64 k, .int .i64 n] 23)]) (fun β21 _ => [((!(hMay u c k (n + 1))) == false) = false, ((!(hMay u c k (n + 1))) == false) = false, ((!(hMay u c k (n + 1))) == false) = false, ((!(hMay u c k (n + 1))) == false) = false, (!(hMay u c k (n + 1))) = true]) (fun _ _ => [])
            (fun _ _ => by kernel_rfl) (fun _ _ => ⟨(by rw [show (!(hMay u c k (n + 1))) = true from (by rw [show (hMay u c k (n + 1)) = false from h19]; rfl)]; rfl), (by rw [show (!(hMay u c k (n + 1))) = true from (by rw [show (hMay u c k (n + 1)) = false from h19]; rfl)]; rfl), (by rw [show (!(hMay u c k (n + 1))) = true from (by rw [show (hMay u c k (n + 1)) = false from h19]; rfl)]; rfl), (by rw [show (!(hMay u c k (n + 1))) = true from (by rw [show (hMay u c k (n + 1)) = false from h19]; rfl)]; rfl), (by rw [show (hMay u c k (n + 1)) = false from h19]; rfl), trivial⟩) ?_
          intro β21 _ w21 H21 _
          refine NQ.then ?_
          refine CW.ret (by kernel_rfl) ?_
          refine NQ.ret H21 [.tmp 2] (by kernel_rfl) [] [.bool true] [] (by kernel_rfl) trivial ?_
          exact ⟨congrArg Ending.returned (by first | rfl | exact congrArg Value.bool (beq_iff_eq.2 ((parts (by assumption) (by assumption : u = true)).2.2.2.2 (by assumption)))), H21.below⟩
    · refine CW.cond_t (o := .tmp 21) (b := (!u)) (x := (cAt B6 [1, 0, 1, 0])) (y := (cAt B6 [1, 0, 1, 1])) (by kernel_rfl) (by kernel_rfl) (by rw [show u = false from h4]; rfl) ?_
      refine CW.seq (x := (cAt B6 [1, 0, 1, 0, 0])) (y := (cAt B6 [1, 0, 1, 0, 1])) (by kernel_rfl) ?_
      refine CW.region (id := 2) (d := false) H3 (by kernel_rfl) mixed 0 [(0, .call 0 (pureRec (.bool true)))] [] [1, 2] [0, 1] (by kernel_rfl)
        (fun β22 _ => [(1, .pointer (some ⟨(β1 0), 0, none⟩)), (2, .bool true)]) (fun β22 _ => [some (.ro noRo), some (.blk (β1 0) [.bool u, .bool c, .int .i64 k, .int .i64 n] 23)]) (fun β22 _ => [CallOb P0 11 #[] [some (.ro noRo)] (pureRec (.bool true))]) (fun _ _ => [True])
        (fun _ _ => by kernel_rfl) (fun _ _ => ⟨(Pure.ob (law02_awake  )), trivial⟩) ?_
      intro β22 _ w22 H22 _
      refine NQ.then ?_
      refine CW.ret (by kernel_rfl) ?_
      refine NQ.then_ret ?_
      refine NQ.ret H22 [.tmp 2] (by kernel_rfl) [] [.bool true] [] (by kernel_rfl) trivial ?_
      exact ⟨congrArg Ending.returned (by first | rfl | exact congrArg Value.bool (beq_iff_eq.2 ((parts (by assumption) (by assumption : u = true)).2.2.2.2 (by assumption)))), H22.below⟩
  · refine CW.region (id := 1) (d := false) H1 (by kernel_rfl) mixed 0 [(0, .call 0 (pureRec (.bool true))), (3, .key 1), (4, .call 0 (pureRec (.bool (hMay u c k n)))), (11, .dec true)] [(8, false), (9, false), (10, false)] [1, 2, 21] [0, 1] (by kernel_rfl)
      (fun β23 _ => [(1, .pointer (some ⟨(β1 0), 0, none⟩)), (2, .bool false), (21, .bool true)]) (fun β23 _ => [some (.ro noRo), some (.blk (β1 0) [.bool u, .bool c, .int .i64 k, .int .i64 n] 23)]) (fun β23 _ => [CallOb P0 11 #[] [some (.ro noRo)] (pureRec (.bool true)), (β1 0) = (β1 0), CallOb P0 13 #[.agg #[.bool u, .bool c, .int .i64 k, .int .i64 n]] [some (.ro noRo)] (pureRec (.bool (hMay u c k n))), ((!(hMay u c k n)) == false) = false, ((!(hMay u c k n)) == false) = false, ((!(hMay u c k n)) == false) = false, (!(hMay u c k n)) = true]) (fun _ _ => [True, True])
      (fun _ _ => by kernel_rfl) (fun _ _ => ⟨(Pure.ob (law02_awake  )), rfl, (Pure.ob (ref02_May u c k n)), (by rw [show (!(hMay u c k n)) = true from (by rw [show (hMay u c k n) = false from h2]; rfl)]; rfl), (by rw [show (!(hMay u c k n)) = true from (by rw [show (hMay u c k n) = false from h2]; rfl)]; rfl), (by rw [show (!(hMay u c k n)) = true from (by rw [show (hMay u c k n) = false from h2]; rfl)]; rfl), (by rw [show (hMay u c k n) = false from h2]; rfl), trivial⟩) ?_
    intro β23 _ w23 H23 _
    refine NQ.then ?_
    refine CW.cond_t (o := .tmp 21) (b := true) (x := (cAt B6 [1, 0, 1, 0])) (y := (cAt B6 [1, 0, 1, 1])) (by kernel_rfl) (by kernel_rfl) rfl ?_
    refine CW.seq (x := (cAt B6 [1, 0, 1, 0, 0])) (y := (cAt B6 [1, 0, 1, 0, 1])) (by kernel_rfl) ?_
    refine CW.region (id := 2) (d := false) H23 (by kernel_rfl) mixed 0 [(0, .call 0 (pureRec (.bool true)))] [] [1, 2] [0, 1] (by kernel_rfl)
      (fun β24 _ => [(1, .pointer (some ⟨(β1 0), 0, none⟩)), (2, .bool true)]) (fun β24 _ => [some (.ro noRo), some (.blk (β1 0) [.bool u, .bool c, .int .i64 k, .int .i64 n] 23)]) (fun β24 _ => [CallOb P0 11 #[] [some (.ro noRo)] (pureRec (.bool true))]) (fun _ _ => [True])
      (fun _ _ => by kernel_rfl) (fun _ _ => ⟨(Pure.ob (law02_awake  )), trivial⟩) ?_
    intro β24 _ w24 H24 _
    refine NQ.then ?_
    refine CW.ret (by kernel_rfl) ?_
    refine NQ.then_ret ?_
    refine NQ.ret H24 [.tmp 2] (by kernel_rfl) [] [.bool true] [] (by kernel_rfl) trivial ?_
    exact ⟨congrArg Ending.returned (by first | rfl | exact congrArg Value.bool (beq_iff_eq.2 ((parts (by assumption) (by assumption : u = true)).2.2.2.2 (by assumption)))), H24.below⟩
end Go.Proofs.Ytnpbnkfmajokfaa.Fl
