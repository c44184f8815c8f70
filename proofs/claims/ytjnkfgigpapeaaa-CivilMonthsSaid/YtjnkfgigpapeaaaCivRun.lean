import Derived.Test.YtjnkfgigpapeaaaCivC
import Derived.Test.YtjnkfgigpapeaaaTab
namespace Go.Proofs.Ytjnkfgigpapeaaa
set_option linter.unusedVariables false
open Go Go.RowKit
set_option maxRecDepth 100000

theorem leap_run (K : List Frm → Sy → Prop) (N : List Ent → SV → Prop) (y : Int) : (run Try.prog [] false [] K (retP Try.prog Try.f97.results.toList N) 400 [.code (bodyOf Try.f97)] ⟨padTo 16 [.int .i64 y], []⟩) = (
(4 : Int) ≠ (0 : Int) ∧
 match Int.tmod y (4 : Int) == (0 : Int) with
 | true =>
  (100 : Int) ≠ (0 : Int) ∧
   match Int.tmod y (100 : Int) != (0 : Int) with
   | true => N [] (SV.bool true)
   | false => (400 : Int) ≠ (0 : Int) ∧ N [] (SV.bool (Int.tmod y (400 : Int) == (0 : Int)))
 | false => true = true ∧ true = true ∧ true = true ∧ N [] (SV.bool false)) := by kernel_rfl


theorem leaps_run (K : List Frm → Sy → Prop) (N : List Ent → SV → Prop) (y : Int) : (run Try.prog [] false [] K (retP Try.prog Try.f96.results.toList N) 400 [.code (bodyOf Try.f96)] ⟨padTo 11 [.int .i64 y], []⟩) = (
(4 : Int) ≠ (0 : Int) ∧
 (100 : Int) ≠ (0 : Int) ∧
  (400 : Int) ≠ (0 : Int) ∧
   N []
    (SV.int IntKind.i64
     (IntKind.wrap IntKind.i64
      (IntKind.wrap IntKind.i64 (IntKind.wrap IntKind.i64 (Int.tdiv y (4 : Int)) - IntKind.wrap IntKind.i64 (Int.tdiv y (100 : Int))) + IntKind.wrap IntKind.i64 (Int.tdiv y (400 : Int)))))) := by kernel_rfl


theorem begins_run (K : List Frm → Sy → Prop) (N : List Ent → SV → Prop) (y : Int) : (run Try.prog civ1 false [] K (retP Try.prog Try.f67.results.toList N) 400 [.code (bodyOf Try.f67)] ⟨padTo 12 [.int .i64 y], []⟩) = (
true = true ∧
 ((0 : Int) ≤ IntKind.wrap IntKind.i64 (y - (1 : Int)) ∧ IntKind.wrap IntKind.i64 (y - (1 : Int)) ≤ (1000000 : Int)) ∧
  true = true ∧
   ((0 : Int) ≤ (1969 : Int) ∧ (1969 : Int) ≤ (1000000 : Int)) ∧
    N []
     (SV.int IntKind.i64
      (IntKind.wrap IntKind.i64
       (IntKind.wrap IntKind.i64 (IntKind.wrap IntKind.i64 ((365 : Int) * IntKind.wrap IntKind.i64 (y - (1970 : Int))) + leapsI (IntKind.wrap IntKind.i64 (y - (1 : Int)))) - (477 : Int))))) := by kernel_rfl


theorem length_run (K : List Frm → Sy → Prop) (N : List Ent → SV → Prop) (y m : Int) : (run Try.prog civ1 false [] K (retP Try.prog Try.f68.results.toList N) 400 [.code (bodyOf Try.f68)] ⟨padTo 29 [.int .i64 y, .int .i64 m], []⟩) = (
match decide (y < (1970 : Int)) with
| true => N [] (SV.int IntKind.i64 (0 : Int))
| false =>
 match decide (y > (2200 : Int)) with
 | true => N [] (SV.int IntKind.i64 (0 : Int))
 | false =>
  match decide (m < (1 : Int)) with
  | true => N [] (SV.int IntKind.i64 (0 : Int))
  | false =>
   match decide (m > (12 : Int)) with
   | true => N [] (SV.int IntKind.i64 (0 : Int))
   | false =>
    match m == (2 : Int) with
    | true =>
     true = true ∧
      (0 : Int) ≤ y ∧
       match leapB y with
       | true => N [] (SV.int IntKind.i64 (29 : Int))
       | false => N [] (SV.int IntKind.i64 (28 : Int))
    | false =>
     match m == (4 : Int) with
     | true => N [] (SV.int IntKind.i64 (30 : Int))
     | false =>
      match m == (6 : Int) with
      | true => N [] (SV.int IntKind.i64 (30 : Int))
      | false =>
       match m == (9 : Int) with
       | true => N [] (SV.int IntKind.i64 (30 : Int))
       | false =>
        match m == (11 : Int) with
        | true => N [] (SV.int IntKind.i64 (30 : Int))
        | false => N [] (SV.int IntKind.i64 (31 : Int))) := by kernel_rfl


theorem in_run (K : List Frm → Sy → Prop) (N : List Ent → SV → Prop) (n b : Int) : (run Try.prog [] false [] K (retP Try.prog Try.f76.results.toList N) 400 [.code (bodyOf Try.f76)] ⟨padTo 12 [.int .i64 n, .int .i64 b], []⟩) = (
match decide (n ≥ (0 : Int)) with
| true => N [] (SV.bool (decide (n < b)))
| false => N [] (SV.bool false)) := by kernel_rfl


theorem weekday_run (K : List Frm → Sy → Prop) (N : List Ent → SV → Prop) (n : Int) : (run Try.prog [] false [] K (retP Try.prog Try.f30.results.toList N) 400 [.code (bodyOf Try.f30)] ⟨padTo 9 [.int .i64 n], []⟩) = (
(7 : Int) ≠ (0 : Int) ∧
 (7 : Int) ≠ (0 : Int) ∧
  (7 : Int) ≠ (0 : Int) ∧ N [] (SV.int IntKind.i64 (Int.tmod (IntKind.wrap IntKind.i64 (Int.tmod (IntKind.wrap IntKind.i64 (Int.tmod n (7 : Int) + (7 : Int))) (7 : Int) + (3 : Int))) (7 : Int)))) := by kernel_rfl


theorem is_run (K : List Frm → Sy → Prop) (N : List Ent → SV → Prop) (y m d : Int) : (run Try.prog civ2 true [] K (retP Try.prog Try.f17.results.toList N) 400 [.code (bodyOf Try.f17)] ⟨padTo 16 [.agg [.int .i64 y, .int .i64 m, .int .i64 d]], []⟩) = (
true = true ∧
 ∀ (b : Nat),
  b = b ∧
   match decide (d ≥ (1 : Int)) with
   | true =>
    b = b ∧
     b = b ∧
      b = b ∧
       true = true ∧
        (Ent.mk (Loc.blk b) (SObj.cells [SV.int IntKind.i64 y, SV.int IntKind.i64 m, SV.int IntKind.i64 d] 27) =
         Ent.mk (Loc.blk b) (SObj.cells [SV.int IntKind.i64 y, SV.int IntKind.i64 m, SV.int IntKind.i64 d] 27) ∧
         True) ∧
         N [Ent.mk (Loc.blk b) (SObj.cells [SV.int IntKind.i64 y, SV.int IntKind.i64 m, SV.int IntKind.i64 d] 27)] (SV.bool (decide (d ≤ lenI y m)))
   | false =>
    (Ent.mk (Loc.blk b) (SObj.cells [SV.int IntKind.i64 y, SV.int IntKind.i64 m, SV.int IntKind.i64 d] 27) =
     Ent.mk (Loc.blk b) (SObj.cells [SV.int IntKind.i64 y, SV.int IntKind.i64 m, SV.int IntKind.i64 d] 27) ∧
     True) ∧
     N [Ent.mk (Loc.blk b) (SObj.cells [SV.int IntKind.i64 y, SV.int IntKind.i64 m, SV.int IntKind.i64 d] 27)] (SV.bool false)) := by kernel_rfl


theorem days_run (K : List Frm → Sy → Prop) (N : List Ent → SV → Prop) (y m d : Int) : (run Try.prog civ3 true [] K (retP Try.prog Try.f15.results.toList N) 400 [.code (bodyOf Try.f15)] ⟨padTo 29 [.agg [.int .i64 y, .int .i64 m, .int .i64 d]], []⟩) = (
true = true ∧
 ∀ (b : Nat),
  (b = b ∧ 3 = 3) ∧
   true = true ∧
    match !isB y m d with
    | true =>
     N [Ent.mk (Loc.blk b) (SObj.cells [SV.int IntKind.i64 y, SV.int IntKind.i64 m, SV.int IntKind.i64 d] 27)] (SV.tuple [SV.int IntKind.i64 (0 : Int), SV.int IntKind.i64 (20 : Int)])
    | false =>
     b = b ∧
      b = b ∧
       true = true ∧
        ((1 : Int) ≤ y ∧ y ≤ (1000000 : Int)) ∧
         (Ent.mk (Loc.blk b) (SObj.cells [SV.int IntKind.i64 y, SV.int IntKind.i64 m, SV.int IntKind.i64 d] 27) =
          Ent.mk (Loc.blk b) (SObj.cells [SV.int IntKind.i64 y, SV.int IntKind.i64 m, SV.int IntKind.i64 d] 27) ∧
          True) ∧
          K (frm [] (bodyOf Try.f15) [1, 1, 1, 0, 1, 0] [])
           (Sy.mk
            [SV.agg [SV.int IntKind.i64 y, SV.int IntKind.i64 m, SV.int IntKind.i64 d], SV.ptr 0 b 0, SV.int IntKind.i64 (0 : Int), SV.int IntKind.i64 (0 : Int),
             SV.int IntKind.i64 (IntKind.wrap IntKind.i64 (IntKind.wrap IntKind.i64 (beginsI y + d) - (1 : Int))), SV.int IntKind.i64 (1 : Int),
             SV.agg [SV.int IntKind.i64 y, SV.int IntKind.i64 m, SV.int IntKind.i64 d], SV.bool (isB y m d), SV.bool false, SV.ptr 0 b 0, SV.int IntKind.i64 y,
             SV.int IntKind.i64 (beginsI y), SV.ptr 0 b 2, SV.int IntKind.i64 d, SV.int IntKind.i64 (IntKind.wrap IntKind.i64 (beginsI y + d)),
             SV.int IntKind.i64 (IntKind.wrap IntKind.i64 (IntKind.wrap IntKind.i64 (beginsI y + d) - (1 : Int))), SV.raw (Value.tuple #[]), SV.raw (Value.tuple #[]),
             SV.raw (Value.tuple #[]), SV.raw (Value.tuple #[]), SV.raw (Value.tuple #[]), SV.raw (Value.tuple #[]), SV.raw (Value.tuple #[]), SV.raw (Value.tuple #[]),
             SV.raw (Value.tuple #[]), SV.raw (Value.tuple #[]), SV.raw (Value.tuple #[]), SV.raw (Value.tuple #[]), SV.raw (Value.tuple #[])]
            [Ent.mk (Loc.blk b) (SObj.cells [SV.int IntKind.i64 y, SV.int IntKind.i64 m, SV.int IntKind.i64 d] 27)])) := by kernel_rfl


theorem date_run (K : List Frm → Sy → Prop) (N : List Ent → SV → Prop) (n : Int) : (run Try.prog civ3 true [] K (retP Try.prog Try.f29.results.toList N) 400 [.code (bodyOf Try.f29)] ⟨padTo 54 [.int .i64 n], []⟩) = (
∀ (b : Nat),
 match decide (n < (0 : Int)) with
 | true =>
  (true = true ∧ true = true) ∧
   (b = b ∧ true = true ∧ 3 = 3 ∧ 3 ≤ 3) ∧
    (b = b ∧ 3 = 3) ∧
     N [Ent.mk (Loc.blk b) (SObj.cells [SV.int IntKind.i64 (0 : Int), SV.int IntKind.i64 (0 : Int), SV.int IntKind.i64 (0 : Int)] 27)]
      (SV.tuple [SV.agg [SV.int IntKind.i64 (0 : Int), SV.int IntKind.i64 (0 : Int), SV.int IntKind.i64 (0 : Int)], SV.int IntKind.i64 (20 : Int)])
 | false =>
  true = true ∧
   ((1 : Int) ≤ (2201 : Int) ∧ (2201 : Int) ≤ (1000000 : Int)) ∧
    match decide (n ≥ (84371 : Int)) with
    | true =>
     (true = true ∧ true = true) ∧
      (b = b ∧ true = true ∧ 3 = 3 ∧ 3 ≤ 3) ∧
       (b = b ∧ 3 = 3) ∧
        N [Ent.mk (Loc.blk b) (SObj.cells [SV.int IntKind.i64 (0 : Int), SV.int IntKind.i64 (0 : Int), SV.int IntKind.i64 (0 : Int)] 27)]
         (SV.tuple [SV.agg [SV.int IntKind.i64 (0 : Int), SV.int IntKind.i64 (0 : Int), SV.int IntKind.i64 (0 : Int)], SV.int IntKind.i64 (20 : Int)])
    | false =>
     (366 : Int) ≠ (0 : Int) ∧
      (true = true ∧ true = true) ∧
       ∀ (b_1 : Nat),
        (b_1 = b_1 ∧ true = true ∧ 3 = 3 ∧ 3 ≤ 3) ∧
         K (frm [] (bodyOf Try.f29) [1, 1, 1, 0, 0] [])
          (Sy.mk
           [SV.int IntKind.i64 n, SV.raw (Value.tuple #[]), SV.ptr 0 b 0, SV.int IntKind.i64 (0 : Int), SV.ptr 1 b_1 0, SV.int IntKind.i64 n,
            SV.bool (decide (n < (0 : Int))), SV.bool false, SV.int IntKind.i64 n, SV.int IntKind.i64 (84371 : Int), SV.bool (decide (n ≥ (84371 : Int))), SV.bool false,
            SV.raw (Value.tuple #[]), SV.int IntKind.i64 n, SV.int IntKind.i64 (IntKind.wrap IntKind.i64 (Int.tdiv n (366 : Int))),
            SV.int IntKind.i64 (IntKind.wrap IntKind.i64 ((1970 : Int) + IntKind.wrap IntKind.i64 (Int.tdiv n (366 : Int)))),
            SV.agg
             [SV.int IntKind.i64 (IntKind.wrap IntKind.i64 ((1970 : Int) + IntKind.wrap IntKind.i64 (Int.tdiv n (366 : Int)))), SV.int IntKind.i64 (1 : Int),
              SV.int IntKind.i64 (0 : Int)],
            SV.raw (Value.tuple #[]), SV.raw (Value.tuple #[]), SV.raw (Value.tuple #[]), SV.raw (Value.tuple #[]), SV.raw (Value.tuple #[]), SV.raw (Value.tuple #[]),
            SV.raw (Value.tuple #[]), SV.raw (Value.tuple #[]), SV.raw (Value.tuple #[]), SV.raw (Value.tuple #[]), SV.raw (Value.tuple #[]), SV.raw (Value.tuple #[]),
            SV.raw (Value.tuple #[]), SV.raw (Value.tuple #[]), SV.raw (Value.tuple #[]), SV.raw (Value.tuple #[]), SV.raw (Value.tuple #[]), SV.raw (Value.tuple #[]),
            SV.raw (Value.tuple #[]), SV.raw (Value.tuple #[]), SV.raw (Value.tuple #[]), SV.raw (Value.tuple #[]), SV.raw (Value.tuple #[]), SV.raw (Value.tuple #[]),
            SV.raw (Value.tuple #[]), SV.raw (Value.tuple #[]), SV.raw (Value.tuple #[]), SV.raw (Value.tuple #[]), SV.raw (Value.tuple #[]), SV.raw (Value.tuple #[]),
            SV.raw (Value.tuple #[]), SV.raw (Value.tuple #[]), SV.raw (Value.tuple #[]), SV.raw (Value.tuple #[]), SV.raw (Value.tuple #[]), SV.raw (Value.tuple #[]),
            SV.raw (Value.tuple #[])]
           [Ent.mk (Loc.blk b) (SObj.cells [SV.int IntKind.i64 (0 : Int), SV.int IntKind.i64 (0 : Int), SV.int IntKind.i64 (0 : Int)] 27),
            Ent.mk (Loc.blk b_1)
             (SObj.cells
              [SV.int IntKind.i64 (IntKind.wrap IntKind.i64 ((1970 : Int) + IntKind.wrap IntKind.i64 (Int.tdiv n (366 : Int)))), SV.int IntKind.i64 (1 : Int),
               SV.int IntKind.i64 (0 : Int)]
              27)])) := by kernel_rfl


theorem days_loop (K : List Frm → Sy → Prop) (N : List Ent → SV → Prop) (J : Act → World → Prop) (u : Nat → Value) (b : Nat) (y m d n i : Int) : (run Try.prog civ3 true [] K (retP Try.prog Try.f15.results.toList N) 400 (frm [J] (bodyOf Try.f15) [1, 1, 1, 0, 1, 0, 0] []) ⟨mkT u 29 0 [(1, .ptr 0 b 0), (2, .int .i64 0), (3, .int .i64 0), (4, .int .i64 n), (5, .int .i64 i)], [⟨.blk b, .cells [.int .i64 y, .int .i64 m, .int .i64 d] 27⟩]⟩) = (
b = b ∧
 match decide (i < m) with
 | true =>
  b = b ∧
   true = true ∧
    K (Frm.loop J :: Frm.blk 0 :: frm [] (bodyOf Try.f15) [1, 1, 1, 1] [])
     (Sy.mk
      [SV.raw (u 0), SV.ptr 0 b 0, SV.int IntKind.i64 (0 : Int), SV.int IntKind.i64 (0 : Int), SV.int IntKind.i64 (IntKind.wrap IntKind.i64 (n + lenI y i)),
       SV.int IntKind.i64 (IntKind.wrap IntKind.i64 (i + (1 : Int))), SV.raw (u 6), SV.raw (u 7), SV.raw (u 8), SV.raw (u 9), SV.raw (u 10),
       SV.raw (u 11), SV.raw (u 12), SV.raw (u 13), SV.raw (u 14), SV.raw (u 15), SV.int IntKind.i64 i, SV.ptr 0 b 1,
       SV.int IntKind.i64 m, SV.bool true, SV.int IntKind.i64 i, SV.int IntKind.i64 (IntKind.wrap IntKind.i64 (i + (1 : Int))), SV.int IntKind.i64 n, SV.ptr 0 b 0,
       SV.int IntKind.i64 y, SV.int IntKind.i64 i, SV.int IntKind.i64 (lenI y i), SV.int IntKind.i64 (IntKind.wrap IntKind.i64 (n + lenI y i)), SV.raw (u 28)]
      [Ent.mk (Loc.blk b) (SObj.cells [SV.int IntKind.i64 y, SV.int IntKind.i64 m, SV.int IntKind.i64 d] (27 : TypeId))])
 | false => N [Ent.mk (Loc.blk b) (SObj.cells [SV.int IntKind.i64 y, SV.int IntKind.i64 m, SV.int IntKind.i64 d] (27 : TypeId))] (SV.tuple [SV.int IntKind.i64 n, SV.int IntKind.i64 (0 : Int)])) := by kernel_rfl


theorem date_loop1 (K : List Frm → Sy → Prop) (N : List Ent → SV → Prop) (J : Act → World → Prop) (u : Nat → Value) (a b : Nat) (n y m : Int) : (run Try.prog civ3 true [] K (retP Try.prog Try.f29.results.toList N) 400 (frm [J] (bodyOf Try.f29) [1, 1, 1, 0, 0, 0] []) ⟨mkT u 54 0 [(0, .int .i64 n), (2, .ptr 0 a 0), (3, .int .i64 0), (4, .ptr 1 b 0)], [⟨.blk a, .cells [.int .i64 0, .int .i64 0, .int .i64 0] 27⟩, ⟨.blk b, .cells [.int .i64 y, .int .i64 m, .int .i64 0] 27⟩]⟩) = (
b = b ∧
 true = true ∧
  ((1 : Int) ≤ IntKind.wrap IntKind.i64 (y + (1 : Int)) ∧ IntKind.wrap IntKind.i64 (y + (1 : Int)) ≤ (1000000 : Int)) ∧
   match decide (n ≥ beginsI (IntKind.wrap IntKind.i64 (y + (1 : Int)))) with
   | true =>
    b = b ∧
     (b = b ∧ true = true ∧ 1 = 1 ∧ 1 ≤ 3) ∧
      K (Frm.loop J :: Frm.blk 0 :: frm [] (bodyOf Try.f29) [1, 1, 1, 1] [])
       (Sy.mk
        [SV.int IntKind.i64 n, SV.raw (u 1), SV.ptr 0 a 0, SV.int IntKind.i64 (0 : Int), SV.ptr 1 b 0, SV.raw (u 5), SV.raw (u 6),
         SV.raw (u 7), SV.raw (u 8), SV.raw (u 9), SV.raw (u 10), SV.raw (u 11), SV.raw (u 12), SV.raw (u 13), SV.raw (u 14),
         SV.raw (u 15), SV.raw (u 16), SV.int IntKind.i64 n, SV.ptr 1 b 0, SV.int IntKind.i64 y, SV.int IntKind.i64 (IntKind.wrap IntKind.i64 (y + (1 : Int))),
         SV.int IntKind.i64 (beginsI (IntKind.wrap IntKind.i64 (y + (1 : Int)))), SV.bool true, SV.ptr 1 b 0, SV.int IntKind.i64 y,
         SV.int IntKind.i64 (IntKind.wrap IntKind.i64 (y + (1 : Int))), SV.ptr 1 b 0, SV.raw (u 27), SV.raw (u 28), SV.raw (u 29),
         SV.raw (u 30), SV.raw (u 31), SV.raw (u 32), SV.raw (u 33), SV.raw (u 34), SV.raw (u 35), SV.raw (u 36),
         SV.raw (u 37), SV.raw (u 38), SV.raw (u 39), SV.raw (u 40), SV.raw (u 41), SV.raw (u 42), SV.raw (u 43),
         SV.raw (u 44), SV.raw (u 45), SV.raw (u 46), SV.raw (u 47), SV.raw (u 48), SV.raw (u 49), SV.raw (u 50),
         SV.raw (u 51), SV.raw (u 52), SV.raw (u 53)]
        [Ent.mk (Loc.blk a) (SObj.cells [SV.int IntKind.i64 (0 : Int), SV.int IntKind.i64 (0 : Int), SV.int IntKind.i64 (0 : Int)] (27 : TypeId)),
         Ent.mk (Loc.blk b) (SObj.cells [SV.int IntKind.i64 (IntKind.wrap IntKind.i64 (y + (1 : Int))), SV.int IntKind.i64 m, SV.int IntKind.i64 (0 : Int)] (27 : TypeId))])
   | false =>
    b = b ∧
     true = true ∧
      ((1 : Int) ≤ y ∧ y ≤ (1000000 : Int)) ∧
       K (frm [] (bodyOf Try.f29) [1, 1, 1, 1, 1, 0, 0] [])
        (Sy.mk
         [SV.int IntKind.i64 (IntKind.wrap IntKind.i64 (n - beginsI y)), SV.raw (u 1), SV.ptr 0 a 0, SV.int IntKind.i64 (0 : Int), SV.ptr 1 b 0,
          SV.raw (u 5), SV.raw (u 6), SV.raw (u 7), SV.raw (u 8), SV.raw (u 9), SV.raw (u 10), SV.raw (u 11), SV.raw (u 12),
          SV.raw (u 13), SV.raw (u 14), SV.raw (u 15), SV.raw (u 16), SV.int IntKind.i64 n, SV.ptr 1 b 0, SV.int IntKind.i64 y,
          SV.int IntKind.i64 (IntKind.wrap IntKind.i64 (y + (1 : Int))), SV.int IntKind.i64 (beginsI (IntKind.wrap IntKind.i64 (y + (1 : Int)))), SV.bool false, SV.raw (u 23),
          SV.raw (u 24), SV.raw (u 25), SV.raw (u 26), SV.int IntKind.i64 n, SV.ptr 1 b 0, SV.int IntKind.i64 y, SV.int IntKind.i64 (beginsI y),
          SV.int IntKind.i64 (IntKind.wrap IntKind.i64 (n - beginsI y)), SV.raw (u 32), SV.raw (u 33), SV.raw (u 34), SV.raw (u 35), SV.raw (u 36),
          SV.raw (u 37), SV.raw (u 38), SV.raw (u 39), SV.raw (u 40), SV.raw (u 41), SV.raw (u 42), SV.raw (u 43),
          SV.raw (u 44), SV.raw (u 45), SV.raw (u 46), SV.raw (u 47), SV.raw (u 48), SV.raw (u 49), SV.raw (u 50),
          SV.raw (u 51), SV.raw (u 52), SV.raw (u 53)]
         [Ent.mk (Loc.blk a) (SObj.cells [SV.int IntKind.i64 (0 : Int), SV.int IntKind.i64 (0 : Int), SV.int IntKind.i64 (0 : Int)] (27 : TypeId)),
          Ent.mk (Loc.blk b) (SObj.cells [SV.int IntKind.i64 y, SV.int IntKind.i64 m, SV.int IntKind.i64 (0 : Int)] (27 : TypeId))])) := by kernel_rfl


theorem date_loop2 (K : List Frm → Sy → Prop) (N : List Ent → SV → Prop) (J : Act → World → Prop) (u : Nat → Value) (a b : Nat) (n y m : Int) : (run Try.prog civ3 true [] K (retP Try.prog Try.f29.results.toList N) 400 (frm [J] (bodyOf Try.f29) [1, 1, 1, 1, 1, 0, 0, 0] []) ⟨mkT u 54 0 [(0, .int .i64 n), (2, .ptr 0 a 0), (3, .int .i64 0), (4, .ptr 1 b 0)], [⟨.blk a, .cells [.int .i64 0, .int .i64 0, .int .i64 0] 27⟩, ⟨.blk b, .cells [.int .i64 y, .int .i64 m, .int .i64 0] 27⟩]⟩) = (
b = b ∧
 b = b ∧
  true = true ∧
   match decide (n ≥ lenI y m) with
   | true =>
    b = b ∧
     b = b ∧
      true = true ∧
       b = b ∧
        (b = b ∧ true = true ∧ 1 = 1 ∧ 2 ≤ 3) ∧
         K (Frm.loop J :: Frm.blk 2 :: frm [] (bodyOf Try.f29) [1, 1, 1, 1, 1, 1] [])
          (Sy.mk
           [SV.int IntKind.i64 (IntKind.wrap IntKind.i64 (n - lenI y m)), SV.raw (u 1), SV.ptr 0 a 0, SV.int IntKind.i64 (0 : Int), SV.ptr 1 b 0,
            SV.raw (u 5), SV.raw (u 6), SV.raw (u 7), SV.raw (u 8), SV.raw (u 9), SV.raw (u 10), SV.raw (u 11),
            SV.raw (u 12), SV.raw (u 13), SV.raw (u 14), SV.raw (u 15), SV.raw (u 16), SV.raw (u 17), SV.raw (u 18),
            SV.raw (u 19), SV.raw (u 20), SV.raw (u 21), SV.raw (u 22), SV.raw (u 23), SV.raw (u 24), SV.raw (u 25),
            SV.raw (u 26), SV.raw (u 27), SV.raw (u 28), SV.raw (u 29), SV.raw (u 30), SV.raw (u 31), SV.int IntKind.i64 n,
            SV.ptr 1 b 0, SV.int IntKind.i64 y, SV.ptr 1 b 1, SV.int IntKind.i64 m, SV.int IntKind.i64 (lenI y m), SV.bool true, SV.int IntKind.i64 n,
            SV.ptr 1 b 0, SV.int IntKind.i64 y, SV.ptr 1 b 1, SV.int IntKind.i64 m, SV.int IntKind.i64 (lenI y m),
            SV.int IntKind.i64 (IntKind.wrap IntKind.i64 (n - lenI y m)), SV.ptr 1 b 1, SV.int IntKind.i64 m, SV.int IntKind.i64 (IntKind.wrap IntKind.i64 (m + (1 : Int))),
            SV.ptr 1 b 1, SV.raw (u 50), SV.raw (u 51), SV.raw (u 52), SV.raw (u 53)]
           [Ent.mk (Loc.blk a) (SObj.cells [SV.int IntKind.i64 (0 : Int), SV.int IntKind.i64 (0 : Int), SV.int IntKind.i64 (0 : Int)] (27 : TypeId)),
            Ent.mk (Loc.blk b) (SObj.cells [SV.int IntKind.i64 y, SV.int IntKind.i64 (IntKind.wrap IntKind.i64 (m + (1 : Int))), SV.int IntKind.i64 (0 : Int)] (27 : TypeId))])
   | false =>
    (b = b ∧ true = true ∧ 1 = 1 ∧ 3 ≤ 3) ∧
     (b = b ∧ 3 = 3) ∧
      (a = a ∧ true = true ∧ 3 = 3 ∧ 3 ≤ 3) ∧
       (a = a ∧ 3 = 3) ∧
        N
         [Ent.mk (Loc.blk a) (SObj.cells [SV.int IntKind.i64 y, SV.int IntKind.i64 m, SV.int IntKind.i64 (IntKind.wrap IntKind.i64 (n + (1 : Int)))] (27 : TypeId)),
          Ent.mk (Loc.blk b) (SObj.cells [SV.int IntKind.i64 y, SV.int IntKind.i64 m, SV.int IntKind.i64 (IntKind.wrap IntKind.i64 (n + (1 : Int)))] (27 : TypeId))]
         (SV.tuple [SV.agg [SV.int IntKind.i64 y, SV.int IntKind.i64 m, SV.int IntKind.i64 (IntKind.wrap IntKind.i64 (n + (1 : Int)))], SV.int IntKind.i64 (0 : Int)])) := by kernel_rfl
end Go.Proofs.Ytjnkfgigpapeaaa
