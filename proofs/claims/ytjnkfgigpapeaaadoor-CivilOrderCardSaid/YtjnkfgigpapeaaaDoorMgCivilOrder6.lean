import Derived.Test.YtjnkfgigpapeaaaDoorMgCivilOrder4
import Derived.Test.YtjnkfgigpapeaaaDoorMgCivilOrder5
set_option linter.unusedVariables false
set_option linter.unusedSimpArgs false
set_option linter.unnecessarySimpa false
set_option maxHeartbeats 0
set_option maxRecDepth 100000
namespace Go.Proofs.YtjnkfgigpapeaaaDoor
open Go Go.RowKit

theorem leap2_run (K : List Frm → Sy → Prop) (N : List Ent → SV → Prop) (y : Int) : (run Tryd.prog [] false [] K (retP Tryd.prog Tryd.f52.results.toList N) 600 [.code (bodyOf Tryd.f52)] ⟨padTo 16 [.int .i64 y], []⟩) = (
(4 : Int) ≠ (0 : Int) ∧
 match Int.tmod y (4 : Int) == (0 : Int) with
 | true =>
  (100 : Int) ≠ (0 : Int) ∧
   match Int.tmod y (100 : Int) != (0 : Int) with
   | true => N [] (SV.bool true)
   | false => (400 : Int) ≠ (0 : Int) ∧ N [] (SV.bool (Int.tmod y (400 : Int) == (0 : Int)))
 | false => true = true ∧ true = true ∧ true = true ∧ N [] (SV.bool false)) := by kernel_rfl


theorem yd_run (K : List Frm → Sy → Prop) (N : List Ent → SV → Prop) (y : Int) : (run Tryd.prog r2T1 false [] K (retP Tryd.prog Tryd.f38.results.toList N) 600 [.code (bodyOf Tryd.f38)] ⟨padTo 5 [.int .i64 y], []⟩) = (
true = true ∧
 (0 : Int) ≤ y ∧
  match leapB y with
  | true => N [] (SV.int IntKind.i64 (366 : Int))
  | false => N [] (SV.int IntKind.i64 (365 : Int))) := by kernel_rfl


theorem len2_1 (K : List Frm → Sy → Prop) (N : List Ent → SV → Prop) (y : Int) : (run Tryd.prog r2T1 true [] K (retP Tryd.prog Tryd.f39.results.toList N) 600 [.code (bodyOf Tryd.f39)] ⟨padTo 16 [.int .i64 y, .int .i64 1], []⟩) = (
(true = true ∧ true = true) ∧
 ∀ (b : Nat),
  (b = b ∧ true = true ∧ 13 = 13 ∧ 13 ≤ 13) ∧
   ((0 : Int) ≤ (1 : Int) ∧ (1 : Int) < (↑13 : Int)) ∧
    b = b ∧
     N
      [Ent.mk (Loc.blk b)
       (SObj.cells
        [SV.int IntKind.i64 (0 : Int), SV.int IntKind.i64 (31 : Int), SV.int IntKind.i64 (28 : Int), SV.int IntKind.i64 (31 : Int), SV.int IntKind.i64 (30 : Int),
         SV.int IntKind.i64 (31 : Int), SV.int IntKind.i64 (30 : Int), SV.int IntKind.i64 (31 : Int), SV.int IntKind.i64 (31 : Int), SV.int IntKind.i64 (30 : Int),
         SV.int IntKind.i64 (31 : Int), SV.int IntKind.i64 (30 : Int), SV.int IntKind.i64 (31 : Int)]
        85)]
      (SV.int IntKind.i64 (31 : Int))) := by kernel_rfl


theorem len2_2 (K : List Frm → Sy → Prop) (N : List Ent → SV → Prop) (y : Int) : (run Tryd.prog r2T1 true [] K (retP Tryd.prog Tryd.f39.results.toList N) 600 [.code (bodyOf Tryd.f39)] ⟨padTo 16 [.int .i64 y, .int .i64 2], []⟩) = (
(true = true ∧ true = true) ∧
 ∀ (b : Nat),
  (b = b ∧ true = true ∧ 13 = 13 ∧ 13 ≤ 13) ∧
   true = true ∧
    (0 : Int) ≤ y ∧
     match leapB y with
     | true =>
      N
       [Ent.mk (Loc.blk b)
        (SObj.cells
         [SV.int IntKind.i64 (0 : Int), SV.int IntKind.i64 (31 : Int), SV.int IntKind.i64 (28 : Int), SV.int IntKind.i64 (31 : Int), SV.int IntKind.i64 (30 : Int),
          SV.int IntKind.i64 (31 : Int), SV.int IntKind.i64 (30 : Int), SV.int IntKind.i64 (31 : Int), SV.int IntKind.i64 (31 : Int), SV.int IntKind.i64 (30 : Int),
          SV.int IntKind.i64 (31 : Int), SV.int IntKind.i64 (30 : Int), SV.int IntKind.i64 (31 : Int)]
         85)]
       (SV.int IntKind.i64 (29 : Int))
     | false =>
      ((0 : Int) ≤ (2 : Int) ∧ (2 : Int) < (↑13 : Int)) ∧
       b = b ∧
        N
         [Ent.mk (Loc.blk b)
          (SObj.cells
           [SV.int IntKind.i64 (0 : Int), SV.int IntKind.i64 (31 : Int), SV.int IntKind.i64 (28 : Int), SV.int IntKind.i64 (31 : Int), SV.int IntKind.i64 (30 : Int),
            SV.int IntKind.i64 (31 : Int), SV.int IntKind.i64 (30 : Int), SV.int IntKind.i64 (31 : Int), SV.int IntKind.i64 (31 : Int), SV.int IntKind.i64 (30 : Int),
            SV.int IntKind.i64 (31 : Int), SV.int IntKind.i64 (30 : Int), SV.int IntKind.i64 (31 : Int)]
           85)]
         (SV.int IntKind.i64 (28 : Int))) := by kernel_rfl


theorem len2_3 (K : List Frm → Sy → Prop) (N : List Ent → SV → Prop) (y : Int) : (run Tryd.prog r2T1 true [] K (retP Tryd.prog Tryd.f39.results.toList N) 600 [.code (bodyOf Tryd.f39)] ⟨padTo 16 [.int .i64 y, .int .i64 3], []⟩) = (
(true = true ∧ true = true) ∧
 ∀ (b : Nat),
  (b = b ∧ true = true ∧ 13 = 13 ∧ 13 ≤ 13) ∧
   ((0 : Int) ≤ (3 : Int) ∧ (3 : Int) < (↑13 : Int)) ∧
    b = b ∧
     N
      [Ent.mk (Loc.blk b)
       (SObj.cells
        [SV.int IntKind.i64 (0 : Int), SV.int IntKind.i64 (31 : Int), SV.int IntKind.i64 (28 : Int), SV.int IntKind.i64 (31 : Int), SV.int IntKind.i64 (30 : Int),
         SV.int IntKind.i64 (31 : Int), SV.int IntKind.i64 (30 : Int), SV.int IntKind.i64 (31 : Int), SV.int IntKind.i64 (31 : Int), SV.int IntKind.i64 (30 : Int),
         SV.int IntKind.i64 (31 : Int), SV.int IntKind.i64 (30 : Int), SV.int IntKind.i64 (31 : Int)]
        85)]
      (SV.int IntKind.i64 (31 : Int))) := by kernel_rfl


theorem len2_4 (K : List Frm → Sy → Prop) (N : List Ent → SV → Prop) (y : Int) : (run Tryd.prog r2T1 true [] K (retP Tryd.prog Tryd.f39.results.toList N) 600 [.code (bodyOf Tryd.f39)] ⟨padTo 16 [.int .i64 y, .int .i64 4], []⟩) = (
(true = true ∧ true = true) ∧
 ∀ (b : Nat),
  (b = b ∧ true = true ∧ 13 = 13 ∧ 13 ≤ 13) ∧
   ((0 : Int) ≤ (4 : Int) ∧ (4 : Int) < (↑13 : Int)) ∧
    b = b ∧
     N
      [Ent.mk (Loc.blk b)
       (SObj.cells
        [SV.int IntKind.i64 (0 : Int), SV.int IntKind.i64 (31 : Int), SV.int IntKind.i64 (28 : Int), SV.int IntKind.i64 (31 : Int), SV.int IntKind.i64 (30 : Int),
         SV.int IntKind.i64 (31 : Int), SV.int IntKind.i64 (30 : Int), SV.int IntKind.i64 (31 : Int), SV.int IntKind.i64 (31 : Int), SV.int IntKind.i64 (30 : Int),
         SV.int IntKind.i64 (31 : Int), SV.int IntKind.i64 (30 : Int), SV.int IntKind.i64 (31 : Int)]
        85)]
      (SV.int IntKind.i64 (30 : Int))) := by kernel_rfl


theorem len2_5 (K : List Frm → Sy → Prop) (N : List Ent → SV → Prop) (y : Int) : (run Tryd.prog r2T1 true [] K (retP Tryd.prog Tryd.f39.results.toList N) 600 [.code (bodyOf Tryd.f39)] ⟨padTo 16 [.int .i64 y, .int .i64 5], []⟩) = (
(true = true ∧ true = true) ∧
 ∀ (b : Nat),
  (b = b ∧ true = true ∧ 13 = 13 ∧ 13 ≤ 13) ∧
   ((0 : Int) ≤ (5 : Int) ∧ (5 : Int) < (↑13 : Int)) ∧
    b = b ∧
     N
      [Ent.mk (Loc.blk b)
       (SObj.cells
        [SV.int IntKind.i64 (0 : Int), SV.int IntKind.i64 (31 : Int), SV.int IntKind.i64 (28 : Int), SV.int IntKind.i64 (31 : Int), SV.int IntKind.i64 (30 : Int),
         SV.int IntKind.i64 (31 : Int), SV.int IntKind.i64 (30 : Int), SV.int IntKind.i64 (31 : Int), SV.int IntKind.i64 (31 : Int), SV.int IntKind.i64 (30 : Int),
         SV.int IntKind.i64 (31 : Int), SV.int IntKind.i64 (30 : Int), SV.int IntKind.i64 (31 : Int)]
        85)]
      (SV.int IntKind.i64 (31 : Int))) := by kernel_rfl


theorem len2_6 (K : List Frm → Sy → Prop) (N : List Ent → SV → Prop) (y : Int) : (run Tryd.prog r2T1 true [] K (retP Tryd.prog Tryd.f39.results.toList N) 600 [.code (bodyOf Tryd.f39)] ⟨padTo 16 [.int .i64 y, .int .i64 6], []⟩) = (
(true = true ∧ true = true) ∧
 ∀ (b : Nat),
  (b = b ∧ true = true ∧ 13 = 13 ∧ 13 ≤ 13) ∧
   ((0 : Int) ≤ (6 : Int) ∧ (6 : Int) < (↑13 : Int)) ∧
    b = b ∧
     N
      [Ent.mk (Loc.blk b)
       (SObj.cells
        [SV.int IntKind.i64 (0 : Int), SV.int IntKind.i64 (31 : Int), SV.int IntKind.i64 (28 : Int), SV.int IntKind.i64 (31 : Int), SV.int IntKind.i64 (30 : Int),
         SV.int IntKind.i64 (31 : Int), SV.int IntKind.i64 (30 : Int), SV.int IntKind.i64 (31 : Int), SV.int IntKind.i64 (31 : Int), SV.int IntKind.i64 (30 : Int),
         SV.int IntKind.i64 (31 : Int), SV.int IntKind.i64 (30 : Int), SV.int IntKind.i64 (31 : Int)]
        85)]
      (SV.int IntKind.i64 (30 : Int))) := by kernel_rfl


theorem len2_7 (K : List Frm → Sy → Prop) (N : List Ent → SV → Prop) (y : Int) : (run Tryd.prog r2T1 true [] K (retP Tryd.prog Tryd.f39.results.toList N) 600 [.code (bodyOf Tryd.f39)] ⟨padTo 16 [.int .i64 y, .int .i64 7], []⟩) = (
(true = true ∧ true = true) ∧
 ∀ (b : Nat),
  (b = b ∧ true = true ∧ 13 = 13 ∧ 13 ≤ 13) ∧
   ((0 : Int) ≤ (7 : Int) ∧ (7 : Int) < (↑13 : Int)) ∧
    b = b ∧
     N
      [Ent.mk (Loc.blk b)
       (SObj.cells
        [SV.int IntKind.i64 (0 : Int), SV.int IntKind.i64 (31 : Int), SV.int IntKind.i64 (28 : Int), SV.int IntKind.i64 (31 : Int), SV.int IntKind.i64 (30 : Int),
         SV.int IntKind.i64 (31 : Int), SV.int IntKind.i64 (30 : Int), SV.int IntKind.i64 (31 : Int), SV.int IntKind.i64 (31 : Int), SV.int IntKind.i64 (30 : Int),
         SV.int IntKind.i64 (31 : Int), SV.int IntKind.i64 (30 : Int), SV.int IntKind.i64 (31 : Int)]
        85)]
      (SV.int IntKind.i64 (31 : Int))) := by kernel_rfl


theorem len2_8 (K : List Frm → Sy → Prop) (N : List Ent → SV → Prop) (y : Int) : (run Tryd.prog r2T1 true [] K (retP Tryd.prog Tryd.f39.results.toList N) 600 [.code (bodyOf Tryd.f39)] ⟨padTo 16 [.int .i64 y, .int .i64 8], []⟩) = (
(true = true ∧ true = true) ∧
 ∀ (b : Nat),
  (b = b ∧ true = true ∧ 13 = 13 ∧ 13 ≤ 13) ∧
   ((0 : Int) ≤ (8 : Int) ∧ (8 : Int) < (↑13 : Int)) ∧
    b = b ∧
     N
      [Ent.mk (Loc.blk b)
       (SObj.cells
        [SV.int IntKind.i64 (0 : Int), SV.int IntKind.i64 (31 : Int), SV.int IntKind.i64 (28 : Int), SV.int IntKind.i64 (31 : Int), SV.int IntKind.i64 (30 : Int),
         SV.int IntKind.i64 (31 : Int), SV.int IntKind.i64 (30 : Int), SV.int IntKind.i64 (31 : Int), SV.int IntKind.i64 (31 : Int), SV.int IntKind.i64 (30 : Int),
         SV.int IntKind.i64 (31 : Int), SV.int IntKind.i64 (30 : Int), SV.int IntKind.i64 (31 : Int)]
        85)]
      (SV.int IntKind.i64 (31 : Int))) := by kernel_rfl


theorem len2_9 (K : List Frm → Sy → Prop) (N : List Ent → SV → Prop) (y : Int) : (run Tryd.prog r2T1 true [] K (retP Tryd.prog Tryd.f39.results.toList N) 600 [.code (bodyOf Tryd.f39)] ⟨padTo 16 [.int .i64 y, .int .i64 9], []⟩) = (
(true = true ∧ true = true) ∧
 ∀ (b : Nat),
  (b = b ∧ true = true ∧ 13 = 13 ∧ 13 ≤ 13) ∧
   ((0 : Int) ≤ (9 : Int) ∧ (9 : Int) < (↑13 : Int)) ∧
    b = b ∧
     N
      [Ent.mk (Loc.blk b)
       (SObj.cells
        [SV.int IntKind.i64 (0 : Int), SV.int IntKind.i64 (31 : Int), SV.int IntKind.i64 (28 : Int), SV.int IntKind.i64 (31 : Int), SV.int IntKind.i64 (30 : Int),
         SV.int IntKind.i64 (31 : Int), SV.int IntKind.i64 (30 : Int), SV.int IntKind.i64 (31 : Int), SV.int IntKind.i64 (31 : Int), SV.int IntKind.i64 (30 : Int),
         SV.int IntKind.i64 (31 : Int), SV.int IntKind.i64 (30 : Int), SV.int IntKind.i64 (31 : Int)]
        85)]
      (SV.int IntKind.i64 (30 : Int))) := by kernel_rfl


theorem len2_10 (K : List Frm → Sy → Prop) (N : List Ent → SV → Prop) (y : Int) : (run Tryd.prog r2T1 true [] K (retP Tryd.prog Tryd.f39.results.toList N) 600 [.code (bodyOf Tryd.f39)] ⟨padTo 16 [.int .i64 y, .int .i64 10], []⟩) = (
(true = true ∧ true = true) ∧
 ∀ (b : Nat),
  (b = b ∧ true = true ∧ 13 = 13 ∧ 13 ≤ 13) ∧
   ((0 : Int) ≤ (10 : Int) ∧ (10 : Int) < (↑13 : Int)) ∧
    b = b ∧
     N
      [Ent.mk (Loc.blk b)
       (SObj.cells
        [SV.int IntKind.i64 (0 : Int), SV.int IntKind.i64 (31 : Int), SV.int IntKind.i64 (28 : Int), SV.int IntKind.i64 (31 : Int), SV.int IntKind.i64 (30 : Int),
         SV.int IntKind.i64 (31 : Int), SV.int IntKind.i64 (30 : Int), SV.int IntKind.i64 (31 : Int), SV.int IntKind.i64 (31 : Int), SV.int IntKind.i64 (30 : Int),
         SV.int IntKind.i64 (31 : Int), SV.int IntKind.i64 (30 : Int), SV.int IntKind.i64 (31 : Int)]
        85)]
      (SV.int IntKind.i64 (31 : Int))) := by kernel_rfl


theorem len2_11 (K : List Frm → Sy → Prop) (N : List Ent → SV → Prop) (y : Int) : (run Tryd.prog r2T1 true [] K (retP Tryd.prog Tryd.f39.results.toList N) 600 [.code (bodyOf Tryd.f39)] ⟨padTo 16 [.int .i64 y, .int .i64 11], []⟩) = (
(true = true ∧ true = true) ∧
 ∀ (b : Nat),
  (b = b ∧ true = true ∧ 13 = 13 ∧ 13 ≤ 13) ∧
   ((0 : Int) ≤ (11 : Int) ∧ (11 : Int) < (↑13 : Int)) ∧
    b = b ∧
     N
      [Ent.mk (Loc.blk b)
       (SObj.cells
        [SV.int IntKind.i64 (0 : Int), SV.int IntKind.i64 (31 : Int), SV.int IntKind.i64 (28 : Int), SV.int IntKind.i64 (31 : Int), SV.int IntKind.i64 (30 : Int),
         SV.int IntKind.i64 (31 : Int), SV.int IntKind.i64 (30 : Int), SV.int IntKind.i64 (31 : Int), SV.int IntKind.i64 (31 : Int), SV.int IntKind.i64 (30 : Int),
         SV.int IntKind.i64 (31 : Int), SV.int IntKind.i64 (30 : Int), SV.int IntKind.i64 (31 : Int)]
        85)]
      (SV.int IntKind.i64 (30 : Int))) := by kernel_rfl


theorem len2_12 (K : List Frm → Sy → Prop) (N : List Ent → SV → Prop) (y : Int) : (run Tryd.prog r2T1 true [] K (retP Tryd.prog Tryd.f39.results.toList N) 600 [.code (bodyOf Tryd.f39)] ⟨padTo 16 [.int .i64 y, .int .i64 12], []⟩) = (
(true = true ∧ true = true) ∧
 ∀ (b : Nat),
  (b = b ∧ true = true ∧ 13 = 13 ∧ 13 ≤ 13) ∧
   ((0 : Int) ≤ (12 : Int) ∧ (12 : Int) < (↑13 : Int)) ∧
    b = b ∧
     N
      [Ent.mk (Loc.blk b)
       (SObj.cells
        [SV.int IntKind.i64 (0 : Int), SV.int IntKind.i64 (31 : Int), SV.int IntKind.i64 (28 : Int), SV.int IntKind.i64 (31 : Int), SV.int IntKind.i64 (30 : Int),
         SV.int IntKind.i64 (31 : Int), SV.int IntKind.i64 (30 : Int), SV.int IntKind.i64 (31 : Int), SV.int IntKind.i64 (31 : Int), SV.int IntKind.i64 (30 : Int),
         SV.int IntKind.i64 (31 : Int), SV.int IntKind.i64 (30 : Int), SV.int IntKind.i64 (31 : Int)]
        85)]
      (SV.int IntKind.i64 (31 : Int))) := by kernel_rfl


theorem is2_run (K : List Frm → Sy → Prop) (N : List Ent → SV → Prop) (y m d : Int) : (run Tryd.prog [(39, lengthC2)] true [] K (retP Tryd.prog Tryd.f14.results.toList N) 600 [.code (bodyOf Tryd.f14)] ⟨padTo 36 [.agg [.int .i64 y, .int .i64 m, .int .i64 d]], []⟩) = (
true = true ∧
 ∀ (b : Nat),
  b = b ∧
   match decide (y ≥ (1970 : Int)) with
   | true =>
    b = b ∧
     match decide (y ≤ (2200 : Int)) with
     | true =>
      b = b ∧
       match decide (m ≥ (1 : Int)) with
       | true =>
        b = b ∧
         match decide (m ≤ (12 : Int)) with
         | true =>
          b = b ∧
           match decide (d ≥ (1 : Int)) with
           | true =>
            b = b ∧
             b = b ∧
              b = b ∧
               true = true ∧
                ((1970 : Int) ≤ y ∧ y ≤ (2200 : Int) ∧ (1 : Int) ≤ m ∧ m ≤ (12 : Int)) ∧
                 (Ent.mk (Loc.blk b) (SObj.cells [SV.int IntKind.i64 y, SV.int IntKind.i64 m, SV.int IntKind.i64 d] 23) =
                  Ent.mk (Loc.blk b) (SObj.cells [SV.int IntKind.i64 y, SV.int IntKind.i64 m, SV.int IntKind.i64 d] 23) ∧
                  True) ∧
                  N [Ent.mk (Loc.blk b) (SObj.cells [SV.int IntKind.i64 y, SV.int IntKind.i64 m, SV.int IntKind.i64 d] 23)] (SV.bool (decide (d ≤ lenI y m)))
           | false =>
            (Ent.mk (Loc.blk b) (SObj.cells [SV.int IntKind.i64 y, SV.int IntKind.i64 m, SV.int IntKind.i64 d] 23) =
             Ent.mk (Loc.blk b) (SObj.cells [SV.int IntKind.i64 y, SV.int IntKind.i64 m, SV.int IntKind.i64 d] 23) ∧
             True) ∧
             N [Ent.mk (Loc.blk b) (SObj.cells [SV.int IntKind.i64 y, SV.int IntKind.i64 m, SV.int IntKind.i64 d] 23)] (SV.bool false)
         | false =>
          (Ent.mk (Loc.blk b) (SObj.cells [SV.int IntKind.i64 y, SV.int IntKind.i64 m, SV.int IntKind.i64 d] 23) =
           Ent.mk (Loc.blk b) (SObj.cells [SV.int IntKind.i64 y, SV.int IntKind.i64 m, SV.int IntKind.i64 d] 23) ∧
           True) ∧
           N [Ent.mk (Loc.blk b) (SObj.cells [SV.int IntKind.i64 y, SV.int IntKind.i64 m, SV.int IntKind.i64 d] 23)] (SV.bool false)
       | false =>
        (Ent.mk (Loc.blk b) (SObj.cells [SV.int IntKind.i64 y, SV.int IntKind.i64 m, SV.int IntKind.i64 d] 23) =
         Ent.mk (Loc.blk b) (SObj.cells [SV.int IntKind.i64 y, SV.int IntKind.i64 m, SV.int IntKind.i64 d] 23) ∧
         True) ∧
         N [Ent.mk (Loc.blk b) (SObj.cells [SV.int IntKind.i64 y, SV.int IntKind.i64 m, SV.int IntKind.i64 d] 23)] (SV.bool false)
     | false =>
      (Ent.mk (Loc.blk b) (SObj.cells [SV.int IntKind.i64 y, SV.int IntKind.i64 m, SV.int IntKind.i64 d] 23) =
       Ent.mk (Loc.blk b) (SObj.cells [SV.int IntKind.i64 y, SV.int IntKind.i64 m, SV.int IntKind.i64 d] 23) ∧
       True) ∧
       N [Ent.mk (Loc.blk b) (SObj.cells [SV.int IntKind.i64 y, SV.int IntKind.i64 m, SV.int IntKind.i64 d] 23)] (SV.bool false)
   | false =>
    (Ent.mk (Loc.blk b) (SObj.cells [SV.int IntKind.i64 y, SV.int IntKind.i64 m, SV.int IntKind.i64 d] 23) =
     Ent.mk (Loc.blk b) (SObj.cells [SV.int IntKind.i64 y, SV.int IntKind.i64 m, SV.int IntKind.i64 d] 23) ∧
     True) ∧
     N [Ent.mk (Loc.blk b) (SObj.cells [SV.int IntKind.i64 y, SV.int IntKind.i64 m, SV.int IntKind.i64 d] 23)] (SV.bool false)) := by kernel_rfl


theorem wd_run (K : List Frm → Sy → Prop) (N : List Ent → SV → Prop) (n : Int) : (run Tryd.prog [] false [] K (retP Tryd.prog Tryd.f15.results.toList N) 600 [.code (bodyOf Tryd.f15)] ⟨padTo 9 [.int .i64 n], []⟩) = (
(7 : Int) ≠ (0 : Int) ∧
 (7 : Int) ≠ (0 : Int) ∧
  (7 : Int) ≠ (0 : Int) ∧ N [] (SV.int IntKind.i64 (Int.tmod (IntKind.wrap IntKind.i64 (Int.tmod (IntKind.wrap IntKind.i64 (Int.tmod n (7 : Int) + (7 : Int))) (7 : Int) + (3 : Int))) (7 : Int)))) := by kernel_rfl


theorem wd2_run (K : List Frm → Sy → Prop) (N : List Ent → SV → Prop) (n : Int) : (run Tryd.prog [] false [] K (retP Tryd.prog Tryd.f16.results.toList N) 600 [.code (bodyOf Tryd.f16)] ⟨padTo 9 [.int .i64 n], []⟩) = (
(7 : Int) ≠ (0 : Int) ∧
 (7 : Int) ≠ (0 : Int) ∧
  (7 : Int) ≠ (0 : Int) ∧ N [] (SV.int IntKind.i64 (Int.tmod (IntKind.wrap IntKind.i64 (Int.tmod (IntKind.wrap IntKind.i64 (Int.tmod n (7 : Int) + (3 : Int))) (7 : Int) + (7 : Int))) (7 : Int)))) := by kernel_rfl


theorem days2_start (K : List Frm → Sy → Prop) (N : List Ent → SV → Prop) (y m d : Int) : (run Tryd.prog r2T2 true [] K (retP Tryd.prog Tryd.f12.results.toList N) 600 [.code (bodyOf Tryd.f12)] ⟨padTo 36 [.agg [.int .i64 y, .int .i64 m, .int .i64 d]], []⟩) = (
true = true ∧
 ∀ (b : Nat),
  (b = b ∧ 3 = 3) ∧
   true = true ∧
    match !isB y m d with
    | true =>
     N [Ent.mk (Loc.blk b) (SObj.cells [SV.int IntKind.i64 y, SV.int IntKind.i64 m, SV.int IntKind.i64 d] 23)] (SV.tuple [SV.int IntKind.i64 (0 : Int), SV.int IntKind.i64 (20 : Int)])
    | false =>
     b = b ∧
      K (frm [] (bodyOf Tryd.f12) [1, 1, 1, 0, 1, 0] [])
       (Sy.mk (SV.agg [SV.int IntKind.i64 y, SV.int IntKind.i64 m, SV.int IntKind.i64 d] :: (SV.ptr 0 b 0 :: (SV.int IntKind.i64 (0 : Int) :: (SV.int IntKind.i64 (0 : Int) :: (SV.int IntKind.i64 (IntKind.wrap IntKind.i64 (d - (1 : Int))) :: (SV.int IntKind.i64 (1970 : Int) :: (SV.raw (Value.tuple #[]) :: (SV.agg [SV.int IntKind.i64 y, SV.int IntKind.i64 m, SV.int IntKind.i64 d] :: (SV.bool (isB y m d) :: (SV.bool false :: (SV.ptr 0 b 2 :: (SV.int IntKind.i64 d :: (SV.int IntKind.i64 (IntKind.wrap IntKind.i64 (d - (1 : Int))) :: (rawE [] 23))))))))))))))
        [Ent.mk (Loc.blk b) (SObj.cells [SV.int IntKind.i64 y, SV.int IntKind.i64 m, SV.int IntKind.i64 d] 23)])) := by kernel_rfl


theorem date2_start (K : List Frm → Sy → Prop) (N : List Ent → SV → Prop) (n : Int) : (run Tryd.prog r2T2 true [] K (retP Tryd.prog Tryd.f19.results.toList N) 600 [.code (bodyOf Tryd.f19)] ⟨padTo 39 [.int .i64 n], []⟩) = (
∀ (b : Nat),
 match decide (n < (0 : Int)) with
 | true =>
  (true = true ∧ true = true) ∧
   (b = b ∧ true = true ∧ 3 = 3 ∧ 3 ≤ 3) ∧
    (b = b ∧ 3 = 3) ∧
     N [Ent.mk (Loc.blk b) (SObj.cells [SV.int IntKind.i64 (0 : Int), SV.int IntKind.i64 (0 : Int), SV.int IntKind.i64 (0 : Int)] 23)]
      (SV.tuple [SV.agg [SV.int IntKind.i64 (0 : Int), SV.int IntKind.i64 (0 : Int), SV.int IntKind.i64 (0 : Int)], SV.int IntKind.i64 (20 : Int)])
 | false =>
  K (frm [] (bodyOf Tryd.f19) [1, 1, 0, 1, 0] [])
   (Sy.mk (SV.int IntKind.i64 n :: (SV.raw (Value.tuple #[]) :: (SV.ptr 0 b 0 :: (SV.int IntKind.i64 (0 : Int) :: (SV.int IntKind.i64 (1970 : Int) :: (SV.raw (Value.tuple #[]) :: (SV.int IntKind.i64 n :: (SV.bool false :: (rawE [] 31)))))))))
    [Ent.mk (Loc.blk b) (SObj.cells [SV.int IntKind.i64 (0 : Int), SV.int IntKind.i64 (0 : Int), SV.int IntKind.i64 (0 : Int)] 23)])) := by kernel_rfl


theorem im_run (K : List Frm → Sy → Prop) (N : List Ent → SV → Prop) (y m d h mi s : Int) : (run Tryd.prog r2T2 true [] K (retP Tryd.prog Tryd.f40.results.toList N) 600 [.code (bodyOf Tryd.f40)] ⟨padTo 36 [.agg [.int .i64 y, .int .i64 m, .int .i64 d, .int .i64 h, .int .i64 mi, .int .i64 s]], []⟩) = (
true = true ∧
 ∀ (b : Nat),
  (b = b ∧ 3 = 3) ∧
   true = true ∧
    match isB y m d with
    | true =>
     b = b ∧
      match decide (h ≥ (0 : Int)) with
      | true =>
       b = b ∧
        match decide (h ≤ (23 : Int)) with
        | true =>
         b = b ∧
          match decide (mi ≥ (0 : Int)) with
          | true =>
           b = b ∧
            match decide (mi ≤ (59 : Int)) with
            | true =>
             b = b ∧
              match decide (s ≥ (0 : Int)) with
              | true =>
               b = b ∧
                N
                 [Ent.mk (Loc.blk b)
                  (SObj.cells [SV.int IntKind.i64 y, SV.int IntKind.i64 m, SV.int IntKind.i64 d, SV.int IntKind.i64 h, SV.int IntKind.i64 mi, SV.int IntKind.i64 s] 25)]
                 (SV.bool (decide (s ≤ (59 : Int))))
              | false =>
               N
                [Ent.mk (Loc.blk b)
                 (SObj.cells [SV.int IntKind.i64 y, SV.int IntKind.i64 m, SV.int IntKind.i64 d, SV.int IntKind.i64 h, SV.int IntKind.i64 mi, SV.int IntKind.i64 s] 25)]
                (SV.bool false)
            | false =>
             N
              [Ent.mk (Loc.blk b)
               (SObj.cells [SV.int IntKind.i64 y, SV.int IntKind.i64 m, SV.int IntKind.i64 d, SV.int IntKind.i64 h, SV.int IntKind.i64 mi, SV.int IntKind.i64 s] 25)]
              (SV.bool false)
          | false =>
           N
            [Ent.mk (Loc.blk b)
             (SObj.cells [SV.int IntKind.i64 y, SV.int IntKind.i64 m, SV.int IntKind.i64 d, SV.int IntKind.i64 h, SV.int IntKind.i64 mi, SV.int IntKind.i64 s] 25)]
            (SV.bool false)
        | false =>
         N [Ent.mk (Loc.blk b) (SObj.cells [SV.int IntKind.i64 y, SV.int IntKind.i64 m, SV.int IntKind.i64 d, SV.int IntKind.i64 h, SV.int IntKind.i64 mi, SV.int IntKind.i64 s] 25)]
          (SV.bool false)
      | false =>
       N [Ent.mk (Loc.blk b) (SObj.cells [SV.int IntKind.i64 y, SV.int IntKind.i64 m, SV.int IntKind.i64 d, SV.int IntKind.i64 h, SV.int IntKind.i64 mi, SV.int IntKind.i64 s] 25)]
        (SV.bool false)
    | false =>
     N [Ent.mk (Loc.blk b) (SObj.cells [SV.int IntKind.i64 y, SV.int IntKind.i64 m, SV.int IntKind.i64 d, SV.int IntKind.i64 h, SV.int IntKind.i64 mi, SV.int IntKind.i64 s] 25)]
      (SV.bool false)) := by kernel_rfl


theorem dg_start (K : List Frm → Sy → Prop) (N : List Ent → SV → Prop) (n : Int) : (run Tryd.prog [] false [] K (retP Tryd.prog Tryd.f53.results.toList N) 600 [.code (bodyOf Tryd.f53)] ⟨padTo 28 [.int .i64 n], []⟩) = (
match decide (n < (0 : Int)) with
| true =>
 K (frm [] (bodyOf Tryd.f53) [1, 1, 1, 1, 0, 0] [])
  (Sy.mk (SV.int IntKind.i64 n :: (SV.raw (Value.tuple #[]) :: (SV.str (ByteArray.mk #[]) :: (SV.int IntKind.u64 (IntKind.wrap IntKind.u64 ((0 : Int) - IntKind.wrap IntKind.u64 n)) :: (SV.str (ByteArray.mk #[]) :: (SV.int IntKind.i64 n :: (SV.int IntKind.u64 (IntKind.wrap IntKind.u64 n) :: (SV.int IntKind.i64 n :: (SV.bool true :: (SV.int IntKind.u64 (IntKind.wrap IntKind.u64 n) :: (SV.int IntKind.u64 (IntKind.wrap IntKind.u64 ((0 : Int) - IntKind.wrap IntKind.u64 n)) :: (rawE [] 17))))))))))))
   [])
| false =>
 K (frm [] (bodyOf Tryd.f53) [1, 1, 1, 1, 0, 0] [])
  (Sy.mk (SV.int IntKind.i64 n :: (SV.raw (Value.tuple #[]) :: (SV.str (ByteArray.mk #[]) :: (SV.int IntKind.u64 (IntKind.wrap IntKind.u64 n) :: (SV.str (ByteArray.mk #[]) :: (SV.int IntKind.i64 n :: (SV.int IntKind.u64 (IntKind.wrap IntKind.u64 n) :: (SV.int IntKind.i64 n :: (SV.bool false :: (rawE [] 19))))))))))
   [])) := by kernel_rfl
end Go.Proofs.YtjnkfgigpapeaaaDoor

namespace Go.Proofs.YtjnkfgigpapeaaaDoor
open Go Go.RowKit

theorem days2_l1 (K : List Frm → Sy → Prop) (N : List Ent → SV → Prop) (J : Act → World → Prop) (b : Nat) (y m d n k : Int) (u : Nat → Value) : (run Tryd.prog r2T2 true [] K (retP Tryd.prog Tryd.f12.results.toList N) 600 (frm [J] (bodyOf Tryd.f12) [1, 1, 1, 0, 1, 0, 0] []) ⟨mkT u 36 0 [(1, .ptr 0 b 0), (2, .int .i64 0), (3, .int .i64 0), (4, .int .i64 n), (5, .int .i64 k)], [⟨.blk b, .cells [.int .i64 y, .int .i64 m, .int .i64 d] 23⟩]⟩) = (
b = b ∧
 match decide (k < y) with
 | true =>
  true = true ∧
   (0 : Int) ≤ k ∧
    K (Frm.loop J :: Frm.blk 0 :: frm [] (bodyOf Tryd.f12) [1, 1, 1, 1] [])
     (Sy.mk (SV.raw (u 0) :: (SV.ptr 0 b 0 :: (SV.int IntKind.i64 (0 : Int) :: (SV.int IntKind.i64 (0 : Int) :: (SV.int IntKind.i64 (IntKind.wrap IntKind.i64 (n + yearDaysI k)) :: (SV.int IntKind.i64 (IntKind.wrap IntKind.i64 (k + (1 : Int))) :: (rawR u 6 (SV.int IntKind.i64 k :: (SV.ptr 0 b 0 :: (SV.int IntKind.i64 y :: (SV.bool true :: (SV.int IntKind.i64 k :: (SV.int IntKind.i64 (IntKind.wrap IntKind.i64 (k + (1 : Int))) :: (SV.int IntKind.i64 n :: (SV.int IntKind.i64 k :: (SV.int IntKind.i64 (yearDaysI k) :: (SV.int IntKind.i64 (IntKind.wrap IntKind.i64 (n + yearDaysI k)) :: (rawR u 23 [] 13))))))))))) 7)))))))
      [Ent.mk (Loc.blk b) (SObj.cells [SV.int IntKind.i64 y, SV.int IntKind.i64 m, SV.int IntKind.i64 d] (23 : TypeId))])
 | false =>
  K (frm [] (bodyOf Tryd.f12) [1, 1, 1, 1, 0, 1, 0] [])
   (Sy.mk (SV.raw (u 0) :: (SV.ptr 0 b 0 :: (SV.int IntKind.i64 (0 : Int) :: (SV.int IntKind.i64 (0 : Int) :: (SV.int IntKind.i64 n :: (SV.int IntKind.i64 k :: (SV.int IntKind.i64 (1 : Int) :: (rawR u 7 (SV.int IntKind.i64 k :: (SV.ptr 0 b 0 :: (SV.int IntKind.i64 y :: (SV.bool false :: (rawR u 17 [] 19))))) 6))))))))
    [Ent.mk (Loc.blk b) (SObj.cells [SV.int IntKind.i64 y, SV.int IntKind.i64 m, SV.int IntKind.i64 d] (23 : TypeId))])) := by kernel_rfl


theorem date2_l1 (K : List Frm → Sy → Prop) (N : List Ent → SV → Prop) (J : Act → World → Prop) (b : Nat) (n k : Int) (u : Nat → Value) : (run Tryd.prog r2T2 true [] K (retP Tryd.prog Tryd.f19.results.toList N) 600 (frm [J] (bodyOf Tryd.f19) [1, 1, 0, 1, 0, 0] []) ⟨mkT u 39 0 [(0, .int .i64 n), (2, .ptr 0 b 0), (3, .int .i64 0), (4, .int .i64 k)], [⟨.blk b, .cells [.int .i64 0, .int .i64 0, .int .i64 0] 23⟩]⟩) = (
match decide (k ≤ (2200 : Int)) with
| true =>
 true = true ∧
  (0 : Int) ≤ k ∧
   match decide (n ≥ yearDaysI k) with
   | true =>
    true = true ∧
     (0 : Int) ≤ k ∧
      K (Frm.loop J :: Frm.blk 0 :: frm [] (bodyOf Tryd.f19) [1, 1, 1] [])
       (Sy.mk (SV.int IntKind.i64 (IntKind.wrap IntKind.i64 (n - yearDaysI k)) :: (SV.raw (u 1) :: (SV.ptr 0 b 0 :: (SV.int IntKind.i64 (0 : Int) :: (SV.int IntKind.i64 (IntKind.wrap IntKind.i64 (k + (1 : Int))) :: (rawR u 5 (SV.int IntKind.i64 k :: (SV.bool true :: (SV.int IntKind.i64 k :: (SV.int IntKind.i64 (IntKind.wrap IntKind.i64 (k + (1 : Int))) :: (SV.int IntKind.i64 n :: (SV.int IntKind.i64 k :: (SV.int IntKind.i64 (yearDaysI k) :: (SV.bool true :: (SV.int IntKind.i64 n :: (SV.int IntKind.i64 k :: (SV.int IntKind.i64 (yearDaysI k) :: (SV.int IntKind.i64 (IntKind.wrap IntKind.i64 (n - yearDaysI k)) :: (rawR u 21 [] 18))))))))))))) 4))))))
        [Ent.mk (Loc.blk b) (SObj.cells [SV.int IntKind.i64 (0 : Int), SV.int IntKind.i64 (0 : Int), SV.int IntKind.i64 (0 : Int)] (23 : TypeId))])
   | false =>
    K (frm [J] (bodyOf Tryd.f19) [1, 1, 0, 1, 0, 0, 1, 0, 0, 1, 1, 0, 0] [])
     (Sy.mk (SV.int IntKind.i64 n :: (SV.raw (u 1) :: (SV.ptr 0 b 0 :: (SV.int IntKind.i64 (0 : Int) :: (SV.int IntKind.i64 k :: (SV.int IntKind.i64 (1 : Int) :: (rawR u 6 (SV.int IntKind.i64 k :: (SV.bool true :: (SV.raw (u 11) :: (SV.raw (u 12) :: (SV.int IntKind.i64 n :: (SV.int IntKind.i64 k :: (SV.int IntKind.i64 (yearDaysI k) :: (SV.bool false :: (rawR u 17 [] 22))))))))) 3)))))))
      [Ent.mk (Loc.blk b) (SObj.cells [SV.int IntKind.i64 (0 : Int), SV.int IntKind.i64 (0 : Int), SV.int IntKind.i64 (0 : Int)] (23 : TypeId))])
| false =>
 (true = true ∧ true = true) ∧
  (b = b ∧ true = true ∧ 3 = 3 ∧ 3 ≤ 3) ∧
   (b = b ∧ 3 = 3) ∧
    N [Ent.mk (Loc.blk b) (SObj.cells [SV.int IntKind.i64 (0 : Int), SV.int IntKind.i64 (0 : Int), SV.int IntKind.i64 (0 : Int)] (23 : TypeId))]
     (SV.tuple [SV.agg [SV.int IntKind.i64 (0 : Int), SV.int IntKind.i64 (0 : Int), SV.int IntKind.i64 (0 : Int)], SV.int IntKind.i64 (20 : Int)])) := by kernel_rfl


theorem dg_l (K : List Frm → Sy → Prop) (N : List Ent → SV → Prop) (J : Act → World → Prop) (n u0 : Int) (s : ByteArray) (u : Nat → Value) : (run Tryd.prog [] true [] K (retP Tryd.prog Tryd.f53.results.toList N) 600 (frm [J] (bodyOf Tryd.f53) [1, 1, 1, 1, 0, 0, 0] []) ⟨mkT u 28 0 [(0, .int .i64 n), (2, .str ⟨#[]⟩), (3, .int .u64 u0), (4, .str s)], []⟩) = (
(10 : Int) ≠ (0 : Int) ∧
 (true = true ∧ 1 = 1 ∧ 0 < 1 ∧ 1 ≤ 16777216) ∧
  ∀ (b : Nat),
   (some (Addr.mk b 0 (@none Nat)) = some (Addr.mk b 0 (@none Nat)) ∧ 1 = 1) ∧
    ∃ (bs : List UInt8),
     denL [SV.int IntKind.u8 (IntKind.wrap IntKind.u8 (IntKind.wrap IntKind.u64 ((48 : Int) + Int.tmod u0 (10 : Int))))] =
      List.map (fun (c : UInt8) ↦ Value.int IntKind.u8 (↑(UInt8.toNat c) : Int)) bs ∧
      ByteArray.size (ByteArray.mk (List.toArray bs)) + ByteArray.size s ≤ 9223372036854775807 ∧
       (10 : Int) ≠ (0 : Int) ∧
        match IntKind.wrap IntKind.u64 (Int.tdiv u0 (10 : Int)) == (0 : Int) with
        | true =>
         match decide (n < (0 : Int)) with
         | true =>
          1 + ByteArray.size (ByteArray.mk (List.toArray bs) ++ s) ≤ 9223372036854775807 ∧
           N [Ent.mk (Loc.blk b) (SObj.cells [SV.int IntKind.u8 (IntKind.wrap IntKind.u8 (IntKind.wrap IntKind.u64 ((48 : Int) + Int.tmod u0 (10 : Int))))] 5)]
            (SV.str (ByteArray.mk #[(45 : UInt8)] ++ (ByteArray.mk (List.toArray bs) ++ s)))
         | false =>
          N [Ent.mk (Loc.blk b) (SObj.cells [SV.int IntKind.u8 (IntKind.wrap IntKind.u8 (IntKind.wrap IntKind.u64 ((48 : Int) + Int.tmod u0 (10 : Int))))] 5)]
           (SV.str (ByteArray.mk (List.toArray bs) ++ s))
        | false =>
         K (Frm.loop J :: Frm.blk 0 :: frm [] (bodyOf Tryd.f53) [1, 1, 1, 1, 1] [])
          (Sy.mk (SV.int IntKind.i64 n :: (SV.raw (u 1) :: (SV.str (ByteArray.mk #[]) :: (SV.int IntKind.u64 (IntKind.wrap IntKind.u64 (Int.tdiv u0 (10 : Int))) :: (SV.str (ByteArray.mk (List.toArray bs) ++ s) :: (rawR u 5 (SV.int IntKind.u64 u0 :: (SV.int IntKind.u64 (Int.tmod u0 (10 : Int)) :: (SV.int IntKind.u64 (IntKind.wrap IntKind.u64 ((48 : Int) + Int.tmod u0 (10 : Int))) :: (SV.int IntKind.u8 (IntKind.wrap IntKind.u8 (IntKind.wrap IntKind.u64 ((48 : Int) + Int.tmod u0 (10 : Int)))) :: (SV.vec 0 (some (Addr.mk b 0 (@none Nat))) 1 1 :: (SV.str (ByteArray.mk (List.toArray bs)) :: (SV.str s :: (SV.str (ByteArray.mk (List.toArray bs) ++ s) :: (SV.int IntKind.u64 u0 :: (SV.int IntKind.u64 (IntKind.wrap IntKind.u64 (Int.tdiv u0 (10 : Int))) :: (SV.int IntKind.u64 (IntKind.wrap IntKind.u64 (Int.tdiv u0 (10 : Int))) :: (SV.bool false :: (rawR u 23 [] 5))))))))))))) 6))))))
           [Ent.mk (Loc.blk b) (SObj.cells [SV.int IntKind.u8 (IntKind.wrap IntKind.u8 (IntKind.wrap IntKind.u64 ((48 : Int) + Int.tmod u0 (10 : Int))))] 5)])) := by kernel_rfl
end Go.Proofs.YtjnkfgigpapeaaaDoor

namespace Go.Proofs.YtjnkfgigpapeaaaDoor
open Go Go.RowKit

theorem days2_l2 (K : List Frm → Sy → Prop) (N : List Ent → SV → Prop) (J : Act → World → Prop) (b : Nat) (y m d n k : Int) (u : Nat → Value) : (run Tryd.prog r2T2 true [] K (retP Tryd.prog Tryd.f12.results.toList N) 600 (frm [J] (bodyOf Tryd.f12) [1, 1, 1, 1, 0, 1, 0, 0] []) ⟨mkT u 36 0 [(1, .ptr 0 b 0), (2, .int .i64 0), (3, .int .i64 0), (4, .int .i64 n), (6, .int .i64 k)], [⟨.blk b, .cells [.int .i64 y, .int .i64 m, .int .i64 d] 23⟩]⟩) = (
b = b ∧
 match decide (k < m) with
 | true =>
  b = b ∧
   true = true ∧
    ((1970 : Int) ≤ y ∧ y ≤ (2200 : Int) ∧ (1 : Int) ≤ k ∧ k ≤ (12 : Int)) ∧
     K (Frm.loop J :: Frm.blk 2 :: frm [] (bodyOf Tryd.f12) [1, 1, 1, 1, 1] [])
      (Sy.mk (SV.raw (u 0) :: (SV.ptr 0 b 0 :: (SV.int IntKind.i64 (0 : Int) :: (SV.int IntKind.i64 (0 : Int) :: (SV.int IntKind.i64 (IntKind.wrap IntKind.i64 (n + lenI y k)) :: (SV.raw (u 5) :: (SV.int IntKind.i64 (IntKind.wrap IntKind.i64 (k + (1 : Int))) :: (rawR u 7 (SV.int IntKind.i64 k :: (SV.ptr 0 b 1 :: (SV.int IntKind.i64 m :: (SV.bool true :: (SV.int IntKind.i64 k :: (SV.int IntKind.i64 (IntKind.wrap IntKind.i64 (k + (1 : Int))) :: (SV.int IntKind.i64 n :: (SV.ptr 0 b 0 :: (SV.int IntKind.i64 y :: (SV.int IntKind.i64 k :: (SV.int IntKind.i64 (lenI y k) :: (SV.int IntKind.i64 (IntKind.wrap IntKind.i64 (n + lenI y k)) :: (SV.raw (u 35) :: []))))))))))))) 16))))))))
       [Ent.mk (Loc.blk b) (SObj.cells [SV.int IntKind.i64 y, SV.int IntKind.i64 m, SV.int IntKind.i64 d] (23 : TypeId))])
 | false => N [Ent.mk (Loc.blk b) (SObj.cells [SV.int IntKind.i64 y, SV.int IntKind.i64 m, SV.int IntKind.i64 d] (23 : TypeId))] (SV.tuple [SV.int IntKind.i64 n, SV.int IntKind.i64 (0 : Int)])) := by kernel_rfl


theorem date2_l2 (K : List Frm → Sy → Prop) (N : List Ent → SV → Prop) (J0 J1 : Act → World → Prop) (b : Nat) (n y k : Int) (u : Nat → Value) : (run Tryd.prog r2T2 true [] K (retP Tryd.prog Tryd.f19.results.toList N) 600 (frm [J0, J1] (bodyOf Tryd.f19) [1, 1, 0, 1, 0, 0, 1, 0, 0, 1, 1, 0, 0, 0] []) ⟨mkT u 39 0 [(0, .int .i64 n), (2, .ptr 0 b 0), (3, .int .i64 0), (4, .int .i64 y), (5, .int .i64 k)], [⟨.blk b, .cells [.int .i64 0, .int .i64 0, .int .i64 0] 23⟩]⟩) = (
true = true ∧
 ((1970 : Int) ≤ y ∧ y ≤ (2200 : Int) ∧ (1 : Int) ≤ k ∧ k ≤ (12 : Int)) ∧
  match decide (n ≥ lenI y k) with
  | true =>
   true = true ∧
    ((1970 : Int) ≤ y ∧ y ≤ (2200 : Int) ∧ (1 : Int) ≤ k ∧ k ≤ (12 : Int)) ∧
     K
      (Frm.loop J1 ::
       Frm.blk 2 :: frm [J0] (bodyOf Tryd.f19) [1, 1, 0, 1, 0, 0, 1, 0, 0, 1, 1, 1] [])
      (Sy.mk (SV.int IntKind.i64 (IntKind.wrap IntKind.i64 (n - lenI y k)) :: (SV.raw (u 1) :: (SV.ptr 0 b 0 :: (SV.int IntKind.i64 (0 : Int) :: (SV.int IntKind.i64 y :: (SV.int IntKind.i64 (IntKind.wrap IntKind.i64 (k + (1 : Int))) :: (rawR u 6 (SV.int IntKind.i64 n :: (SV.int IntKind.i64 y :: (SV.int IntKind.i64 k :: (SV.int IntKind.i64 (lenI y k) :: (SV.bool true :: (SV.int IntKind.i64 n :: (SV.int IntKind.i64 y :: (SV.int IntKind.i64 k :: (SV.int IntKind.i64 (lenI y k) :: (SV.int IntKind.i64 (IntKind.wrap IntKind.i64 (n - lenI y k)) :: (SV.int IntKind.i64 k :: (SV.int IntKind.i64 (IntKind.wrap IntKind.i64 (k + (1 : Int))) :: (rawR u 33 [] 6))))))))))))) 15)))))))
       [Ent.mk (Loc.blk b) (SObj.cells [SV.int IntKind.i64 (0 : Int), SV.int IntKind.i64 (0 : Int), SV.int IntKind.i64 (0 : Int)] (23 : TypeId))])
  | false =>
   (true = true ∧ true = true) ∧
    (b = b ∧ true = true ∧ 3 = 3 ∧ 3 ≤ 3) ∧
     (b = b ∧ 3 = 3) ∧
      N [Ent.mk (Loc.blk b) (SObj.cells [SV.int IntKind.i64 y, SV.int IntKind.i64 k, SV.int IntKind.i64 (IntKind.wrap IntKind.i64 (n + (1 : Int)))] (23 : TypeId))]
       (SV.tuple [SV.agg [SV.int IntKind.i64 y, SV.int IntKind.i64 k, SV.int IntKind.i64 (IntKind.wrap IntKind.i64 (n + (1 : Int)))], SV.int IntKind.i64 (0 : Int)])) := by kernel_rfl


theorem two_run (K : List Frm → Sy → Prop) (N : List Ent → SV → Prop) (n : Int) : (run Tryd.prog [(34, itoaC)] true [] K (retP Tryd.prog Tryd.f35.results.toList N) 600 [.code (bodyOf Tryd.f35)] ⟨padTo 10 [.int .i64 n], [itoaE]⟩) = (
match decide (n < (10 : Int)) with
| true =>
 true = true ∧
  ((0 : Int) ≤ n ∧ n ≤ (9223372036854775807 : Int)) ∧
   some (Ent.mk (Loc.blk 0) (SObj.pred fun (W : World) (c : Ch) ↦ c = [] ∧ Lib.TabIs Tryd.prog W "internal/strconv.uint64pow10" IntKind.u64 Lib.pow10Tab)) =
    some (Ent.mk (Loc.blk 0) (SObj.pred fun (W : World) (c : Ch) ↦ c = [] ∧ Lib.TabIs Tryd.prog W "internal/strconv.uint64pow10" IntKind.u64 Lib.pow10Tab)) ∧
    1 + ByteArray.size (dgB n) ≤ 9223372036854775807 ∧
     N [Ent.mk (Loc.blk 0) (SObj.pred fun (W : World) (c : Ch) ↦ c = [] ∧ Lib.TabIs Tryd.prog W "internal/strconv.uint64pow10" IntKind.u64 Lib.pow10Tab)]
      (SV.str (ByteArray.mk #[(48 : UInt8)] ++ dgB n))
| false =>
 true = true ∧
  ((0 : Int) ≤ n ∧ n ≤ (9223372036854775807 : Int)) ∧
   some (Ent.mk (Loc.blk 0) (SObj.pred fun (W : World) (c : Ch) ↦ c = [] ∧ Lib.TabIs Tryd.prog W "internal/strconv.uint64pow10" IntKind.u64 Lib.pow10Tab)) =
    some (Ent.mk (Loc.blk 0) (SObj.pred fun (W : World) (c : Ch) ↦ c = [] ∧ Lib.TabIs Tryd.prog W "internal/strconv.uint64pow10" IntKind.u64 Lib.pow10Tab)) ∧
    N [Ent.mk (Loc.blk 0) (SObj.pred fun (W : World) (c : Ch) ↦ c = [] ∧ Lib.TabIs Tryd.prog W "internal/strconv.uint64pow10" IntKind.u64 Lib.pow10Tab)] (SV.str (dgB n))) := by kernel_rfl


theorem pr_run (K : List Frm → Sy → Prop) (N : List Ent → SV → Prop) (y m d h mi s : Int) : (run Tryd.prog prT true [] K (retP Tryd.prog Tryd.f10.results.toList N) 900 [.code (bodyOf Tryd.f10)] ⟨padTo 43 [.agg [.int .i64 y, .int .i64 m, .int .i64 d, .int .i64 h, .int .i64 mi, .int .i64 s]], [itoaE]⟩) = (
true = true ∧
 ∀ (b : Nat),
  (b = b ∧ 6 = 6) ∧
   true = true ∧
    match isB y m d && (inB h (24 : Int) && (inB mi (60 : Int) && inB s (60 : Int))) with
    | true =>
     b = b ∧
      b = b ∧
       b = b ∧
        b = b ∧
         b = b ∧
          b = b ∧
           true = true ∧
            ((0 : Int) ≤ y ∧ y ≤ (9223372036854775807 : Int)) ∧
             some (Ent.mk (Loc.blk 0) (SObj.pred fun (W : World) (c : Ch) ↦ c = [] ∧ Lib.TabIs Tryd.prog W "internal/strconv.uint64pow10" IntKind.u64 Lib.pow10Tab)) =
              some (Ent.mk (Loc.blk 0) (SObj.pred fun (W : World) (c : Ch) ↦ c = [] ∧ Lib.TabIs Tryd.prog W "internal/strconv.uint64pow10" IntKind.u64 Lib.pow10Tab)) ∧
              (Ent.mk (Loc.blk 0) (SObj.pred fun (W : World) (c : Ch) ↦ c = [] ∧ Lib.TabIs Tryd.prog W "internal/strconv.uint64pow10" IntKind.u64 Lib.pow10Tab) =
               Ent.mk (Loc.blk 0) (SObj.pred fun (W : World) (c : Ch) ↦ c = [] ∧ Lib.TabIs Tryd.prog W "internal/strconv.uint64pow10" IntKind.u64 Lib.pow10Tab) ∧
               Ent.mk (Loc.blk b)
                (SObj.cells [SV.int IntKind.i64 y, SV.int IntKind.i64 m, SV.int IntKind.i64 d, SV.int IntKind.i64 h, SV.int IntKind.i64 mi, SV.int IntKind.i64 s] 25) =
                Ent.mk (Loc.blk b)
                 (SObj.cells [SV.int IntKind.i64 y, SV.int IntKind.i64 m, SV.int IntKind.i64 d, SV.int IntKind.i64 h, SV.int IntKind.i64 mi, SV.int IntKind.i64 s] 25) ∧
                True) ∧
               ByteArray.size (dgB y) + 1 ≤ 9223372036854775807 ∧
                true = true ∧
                 ((0 : Int) ≤ m ∧ m < (100 : Int)) ∧
                  some (Ent.mk (Loc.blk 0) (SObj.pred fun (W : World) (c : Ch) ↦ c = [] ∧ Lib.TabIs Tryd.prog W "internal/strconv.uint64pow10" IntKind.u64 Lib.pow10Tab)) =
                   some
                    (Ent.mk (Loc.blk 0) (SObj.pred fun (W : World) (c : Ch) ↦ c = [] ∧ Lib.TabIs Tryd.prog W "internal/strconv.uint64pow10" IntKind.u64 Lib.pow10Tab)) ∧
                   (Ent.mk (Loc.blk 0) (SObj.pred fun (W : World) (c : Ch) ↦ c = [] ∧ Lib.TabIs Tryd.prog W "internal/strconv.uint64pow10" IntKind.u64 Lib.pow10Tab) =
                    Ent.mk (Loc.blk 0) (SObj.pred fun (W : World) (c : Ch) ↦ c = [] ∧ Lib.TabIs Tryd.prog W "internal/strconv.uint64pow10" IntKind.u64 Lib.pow10Tab) ∧
                    Ent.mk (Loc.blk b)
                     (SObj.cells [SV.int IntKind.i64 y, SV.int IntKind.i64 m, SV.int IntKind.i64 d, SV.int IntKind.i64 h, SV.int IntKind.i64 mi, SV.int IntKind.i64 s]
                      25) =
                     Ent.mk (Loc.blk b)
                      (SObj.cells [SV.int IntKind.i64 y, SV.int IntKind.i64 m, SV.int IntKind.i64 d, SV.int IntKind.i64 h, SV.int IntKind.i64 mi, SV.int IntKind.i64 s]
                       25) ∧
                     True) ∧
                    ByteArray.size (dgB y ++ ByteArray.mk #[(45 : UInt8)]) + ByteArray.size (twoB m) ≤ 9223372036854775807 ∧
                     ByteArray.size (dgB y ++ ByteArray.mk #[(45 : UInt8)] ++ twoB m) + 1 ≤ 9223372036854775807 ∧
                      true = true ∧
                       ((0 : Int) ≤ d ∧ d < (100 : Int)) ∧
                        some
                         (Ent.mk (Loc.blk 0)
                          (SObj.pred fun (W : World) (c : Ch) ↦ c = [] ∧ Lib.TabIs Tryd.prog W "internal/strconv.uint64pow10" IntKind.u64 Lib.pow10Tab)) =
                         some
                          (Ent.mk (Loc.blk 0)
                           (SObj.pred fun (W : World) (c : Ch) ↦ c = [] ∧ Lib.TabIs Tryd.prog W "internal/strconv.uint64pow10" IntKind.u64 Lib.pow10Tab)) ∧
                         (Ent.mk (Loc.blk 0)
                          (SObj.pred fun (W : World) (c : Ch) ↦ c = [] ∧ Lib.TabIs Tryd.prog W "internal/strconv.uint64pow10" IntKind.u64 Lib.pow10Tab) =
                          Ent.mk (Loc.blk 0)
                           (SObj.pred fun (W : World) (c : Ch) ↦ c = [] ∧ Lib.TabIs Tryd.prog W "internal/strconv.uint64pow10" IntKind.u64 Lib.pow10Tab) ∧
                          Ent.mk (Loc.blk b)
                           (SObj.cells
                            [SV.int IntKind.i64 y, SV.int IntKind.i64 m, SV.int IntKind.i64 d, SV.int IntKind.i64 h, SV.int IntKind.i64 mi, SV.int IntKind.i64 s]
                            25) =
                           Ent.mk (Loc.blk b)
                            (SObj.cells
                             [SV.int IntKind.i64 y, SV.int IntKind.i64 m, SV.int IntKind.i64 d, SV.int IntKind.i64 h, SV.int IntKind.i64 mi, SV.int IntKind.i64 s]
                             25) ∧
                           True) ∧
                          ByteArray.size (dgB y ++ ByteArray.mk #[(45 : UInt8)] ++ twoB m ++ ByteArray.mk #[(45 : UInt8)]) + ByteArray.size (twoB d) ≤
                           9223372036854775807 ∧
                           ByteArray.size (dgB y ++ ByteArray.mk #[(45 : UInt8)] ++ twoB m ++ ByteArray.mk #[(45 : UInt8)] ++ twoB d) + 1 ≤
                            9223372036854775807 ∧
                            true = true ∧
                             ((0 : Int) ≤ h ∧ h < (100 : Int)) ∧
                              some
                               (Ent.mk (Loc.blk 0)
                                (SObj.pred fun (W : World) (c : Ch) ↦ c = [] ∧ Lib.TabIs Tryd.prog W "internal/strconv.uint64pow10" IntKind.u64 Lib.pow10Tab)) =
                               some
                                (Ent.mk (Loc.blk 0)
                                 (SObj.pred fun (W : World) (c : Ch) ↦ c = [] ∧ Lib.TabIs Tryd.prog W "internal/strconv.uint64pow10" IntKind.u64 Lib.pow10Tab)) ∧
                               (Ent.mk (Loc.blk 0)
                                (SObj.pred fun (W : World) (c : Ch) ↦ c = [] ∧ Lib.TabIs Tryd.prog W "internal/strconv.uint64pow10" IntKind.u64 Lib.pow10Tab) =
                                Ent.mk (Loc.blk 0)
                                 (SObj.pred fun (W : World) (c : Ch) ↦ c = [] ∧ Lib.TabIs Tryd.prog W "internal/strconv.uint64pow10" IntKind.u64 Lib.pow10Tab) ∧
                                Ent.mk (Loc.blk b)
                                 (SObj.cells
                                  [SV.int IntKind.i64 y, SV.int IntKind.i64 m, SV.int IntKind.i64 d, SV.int IntKind.i64 h, SV.int IntKind.i64 mi,
                                   SV.int IntKind.i64 s]
                                  25) =
                                 Ent.mk (Loc.blk b)
                                  (SObj.cells
                                   [SV.int IntKind.i64 y, SV.int IntKind.i64 m, SV.int IntKind.i64 d, SV.int IntKind.i64 h, SV.int IntKind.i64 mi,
                                    SV.int IntKind.i64 s]
                                   25) ∧
                                 True) ∧
                                ByteArray.size
                                 (dgB y ++ ByteArray.mk #[(45 : UInt8)] ++ twoB m ++ ByteArray.mk #[(45 : UInt8)] ++ twoB d ++ ByteArray.mk #[(32 : UInt8)]) +
                                 ByteArray.size (twoB h) ≤
                                 9223372036854775807 ∧
                                 ByteArray.size
                                  (dgB y ++ ByteArray.mk #[(45 : UInt8)] ++ twoB m ++ ByteArray.mk #[(45 : UInt8)] ++ twoB d ++ ByteArray.mk #[(32 : UInt8)] ++
                                   twoB h) +
                                  1 ≤
                                  9223372036854775807 ∧
                                  true = true ∧
                                   ((0 : Int) ≤ mi ∧ mi < (100 : Int)) ∧
                                    some
                                     (Ent.mk (Loc.blk 0)
                                      (SObj.pred fun (W : World) (c : Ch) ↦
                                       c = [] ∧ Lib.TabIs Tryd.prog W "internal/strconv.uint64pow10" IntKind.u64 Lib.pow10Tab)) =
                                     some
                                      (Ent.mk (Loc.blk 0)
                                       (SObj.pred fun (W : World) (c : Ch) ↦
                                        c = [] ∧ Lib.TabIs Tryd.prog W "internal/strconv.uint64pow10" IntKind.u64 Lib.pow10Tab)) ∧
                                     (Ent.mk (Loc.blk 0)
                                      (SObj.pred fun (W : World) (c : Ch) ↦
                                       c = [] ∧ Lib.TabIs Tryd.prog W "internal/strconv.uint64pow10" IntKind.u64 Lib.pow10Tab) =
                                      Ent.mk (Loc.blk 0)
                                       (SObj.pred fun (W : World) (c : Ch) ↦
                                        c = [] ∧ Lib.TabIs Tryd.prog W "internal/strconv.uint64pow10" IntKind.u64 Lib.pow10Tab) ∧
                                      Ent.mk (Loc.blk b)
                                       (SObj.cells
                                        [SV.int IntKind.i64 y, SV.int IntKind.i64 m, SV.int IntKind.i64 d, SV.int IntKind.i64 h, SV.int IntKind.i64 mi,
                                         SV.int IntKind.i64 s]
                                        25) =
                                       Ent.mk (Loc.blk b)
                                        (SObj.cells
                                         [SV.int IntKind.i64 y, SV.int IntKind.i64 m, SV.int IntKind.i64 d, SV.int IntKind.i64 h, SV.int IntKind.i64 mi,
                                          SV.int IntKind.i64 s]
                                         25) ∧
                                       True) ∧
                                      ByteArray.size
                                       (dgB y ++ ByteArray.mk #[(45 : UInt8)] ++ twoB m ++ ByteArray.mk #[(45 : UInt8)] ++ twoB d ++
                                        ByteArray.mk #[(32 : UInt8)] ++
                                        twoB h ++
                                        ByteArray.mk #[(58 : UInt8)]) +
                                       ByteArray.size (twoB mi) ≤
                                       9223372036854775807 ∧
                                       ByteArray.size
                                        (dgB y ++ ByteArray.mk #[(45 : UInt8)] ++ twoB m ++ ByteArray.mk #[(45 : UInt8)] ++ twoB d ++
                                         ByteArray.mk #[(32 : UInt8)] ++
                                         twoB h ++
                                         ByteArray.mk #[(58 : UInt8)] ++
                                         twoB mi) +
                                        1 ≤
                                        9223372036854775807 ∧
                                        true = true ∧
                                         ((0 : Int) ≤ s ∧ s < (100 : Int)) ∧
                                          some
                                           (Ent.mk (Loc.blk 0)
                                            (SObj.pred fun (W : World) (c : Ch) ↦
                                             c = [] ∧ Lib.TabIs Tryd.prog W "internal/strconv.uint64pow10" IntKind.u64 Lib.pow10Tab)) =
                                           some
                                            (Ent.mk (Loc.blk 0)
                                             (SObj.pred fun (W : World) (c : Ch) ↦
                                              c = [] ∧ Lib.TabIs Tryd.prog W "internal/strconv.uint64pow10" IntKind.u64 Lib.pow10Tab)) ∧
                                           (Ent.mk (Loc.blk 0)
                                            (SObj.pred fun (W : World) (c : Ch) ↦
                                             c = [] ∧ Lib.TabIs Tryd.prog W "internal/strconv.uint64pow10" IntKind.u64 Lib.pow10Tab) =
                                            Ent.mk (Loc.blk 0)
                                             (SObj.pred fun (W : World) (c : Ch) ↦
                                              c = [] ∧ Lib.TabIs Tryd.prog W "internal/strconv.uint64pow10" IntKind.u64 Lib.pow10Tab) ∧
                                            Ent.mk (Loc.blk b)
                                             (SObj.cells
                                              [SV.int IntKind.i64 y, SV.int IntKind.i64 m, SV.int IntKind.i64 d, SV.int IntKind.i64 h,
                                               SV.int IntKind.i64 mi, SV.int IntKind.i64 s]
                                              25) =
                                             Ent.mk (Loc.blk b)
                                              (SObj.cells
                                               [SV.int IntKind.i64 y, SV.int IntKind.i64 m, SV.int IntKind.i64 d, SV.int IntKind.i64 h,
                                                SV.int IntKind.i64 mi, SV.int IntKind.i64 s]
                                               25) ∧
                                             True) ∧
                                            ByteArray.size
                                             (dgB y ++ ByteArray.mk #[(45 : UInt8)] ++ twoB m ++ ByteArray.mk #[(45 : UInt8)] ++ twoB d ++
                                              ByteArray.mk #[(32 : UInt8)] ++
                                              twoB h ++
                                              ByteArray.mk #[(58 : UInt8)] ++
                                              twoB mi ++
                                              ByteArray.mk #[(58 : UInt8)]) +
                                             ByteArray.size (twoB s) ≤
                                             9223372036854775807 ∧
                                             N
                                              [Ent.mk (Loc.blk 0)
                                               (SObj.pred fun (W : World) (c : Ch) ↦
                                                c = [] ∧ Lib.TabIs Tryd.prog W "internal/strconv.uint64pow10" IntKind.u64 Lib.pow10Tab),
                                               Ent.mk (Loc.blk b)
                                                (SObj.cells
                                                 [SV.int IntKind.i64 y, SV.int IntKind.i64 m, SV.int IntKind.i64 d, SV.int IntKind.i64 h,
                                                  SV.int IntKind.i64 mi, SV.int IntKind.i64 s]
                                                 25)]
                                              (SV.str
                                               (dgB y ++ ByteArray.mk #[(45 : UInt8)] ++ twoB m ++ ByteArray.mk #[(45 : UInt8)] ++ twoB d ++
                                                ByteArray.mk #[(32 : UInt8)] ++
                                                twoB h ++
                                                ByteArray.mk #[(58 : UInt8)] ++
                                                twoB mi ++
                                                ByteArray.mk #[(58 : UInt8)] ++
                                                twoB s))
    | false =>
     N
      [Ent.mk (Loc.blk 0) (SObj.pred fun (W : World) (c : Ch) ↦ c = [] ∧ Lib.TabIs Tryd.prog W "internal/strconv.uint64pow10" IntKind.u64 Lib.pow10Tab),
       Ent.mk (Loc.blk b) (SObj.cells [SV.int IntKind.i64 y, SV.int IntKind.i64 m, SV.int IntKind.i64 d, SV.int IntKind.i64 h, SV.int IntKind.i64 mi, SV.int IntKind.i64 s] 25)]
      (SV.str (ByteArray.mk #[]))) := by kernel_rfl


theorem pad_start (K : List Frm → Sy → Prop) (N : List Ent → SV → Prop) (n w : Int) : (run Tryd.prog [(53, digitsC)] true [] K (retP Tryd.prog Tryd.f41.results.toList N) 600 [.code (bodyOf Tryd.f41)] ⟨padTo 15 [.int .i64 n, .int .i64 w], []⟩) = (
true = true ∧
 ((0 : Int) ≤ n ∧ n ≤ (9223372036854775807 : Int)) ∧
  K (frm [] (bodyOf Tryd.f41) [1, 1, 0, 0] [])
   (Sy.mk (SV.int IntKind.i64 n :: (SV.int IntKind.i64 w :: (SV.raw (Value.tuple #[]) :: (SV.raw (Value.tuple #[]) :: (SV.str (ByteArray.mk #[]) :: (SV.str (dgB n) :: (SV.int IntKind.i64 n :: (SV.str (dgB n) :: (rawE [] 7)))))))))
    [])) := by kernel_rfl


theorem pad_l (K : List Frm → Sy → Prop) (N : List Ent → SV → Prop) (J : Act → World → Prop) (w : Int) (s : ByteArray) (u : Nat → Value) : (run Tryd.prog [(53, digitsC)] true [] K (retP Tryd.prog Tryd.f41.results.toList N) 900 (frm [J] (bodyOf Tryd.f41) [1, 1, 0, 0, 0] []) ⟨mkT u 15 0 [(1, .int .i64 w), (5, .str s)], []⟩) = (
match decide ((↑(ByteArray.size s) : Int) < w) with
| true =>
 1 + ByteArray.size s ≤ 9223372036854775807 ∧
  K (Frm.loop J :: Frm.blk 0 :: frm [] (bodyOf Tryd.f41) [1, 1, 1] [])
   (Sy.mk (SV.raw (u 0) :: (SV.int IntKind.i64 w :: (rawR u 2 (SV.str (ByteArray.mk #[(48 : UInt8)] ++ s) :: (SV.raw (u 6) :: (SV.raw (u 7) :: (SV.str s :: (SV.int IntKind.i64 (↑(ByteArray.size s) : Int) :: (SV.int IntKind.i64 w :: (SV.bool true :: (SV.str s :: (SV.str (ByteArray.mk #[(48 : UInt8)] ++ s) :: (SV.raw (u 14) :: [])))))))))) 3)))
    [])
| false => N [] (SV.str s)) := by kernel_rfl


theorem pr2_run (K : List Frm → Sy → Prop) (N : List Ent → SV → Prop) (y m d h mi s : Int) : (run Tryd.prog pr2T true [] K (retP Tryd.prog Tryd.f17.results.toList N) 900 [.code (bodyOf Tryd.f17)] ⟨padTo 37 [.agg [.int .i64 y, .int .i64 m, .int .i64 d, .int .i64 h, .int .i64 mi, .int .i64 s]], []⟩) = (
true = true ∧
 ∀ (b : Nat),
  (b = b ∧ 6 = 6) ∧
   true = true ∧
    match !isMomB y m d h mi s with
    | true =>
     N [Ent.mk (Loc.blk b) (SObj.cells [SV.int IntKind.i64 y, SV.int IntKind.i64 m, SV.int IntKind.i64 d, SV.int IntKind.i64 h, SV.int IntKind.i64 mi, SV.int IntKind.i64 s] 25)]
      (SV.str (ByteArray.mk #[]))
    | false =>
     b = b ∧
      b = b ∧
       b = b ∧
        b = b ∧
         b = b ∧
          b = b ∧
           true = true ∧
            ((0 : Int) ≤ y ∧ y < (10000 : Int) ∧ (0 : Int) ≤ (4 : Int) ∧ (4 : Int) ≤ (4 : Int)) ∧
             (Ent.mk (Loc.blk b)
              (SObj.cells [SV.int IntKind.i64 y, SV.int IntKind.i64 m, SV.int IntKind.i64 d, SV.int IntKind.i64 h, SV.int IntKind.i64 mi, SV.int IntKind.i64 s] 25) =
              Ent.mk (Loc.blk b)
               (SObj.cells [SV.int IntKind.i64 y, SV.int IntKind.i64 m, SV.int IntKind.i64 d, SV.int IntKind.i64 h, SV.int IntKind.i64 mi, SV.int IntKind.i64 s] 25) ∧
              True) ∧
              ByteArray.size (padB y (4 : Int)) + 1 ≤ 9223372036854775807 ∧
               true = true ∧
                ((0 : Int) ≤ m ∧ m < (10000 : Int) ∧ (0 : Int) ≤ (2 : Int) ∧ (2 : Int) ≤ (4 : Int)) ∧
                 (Ent.mk (Loc.blk b)
                  (SObj.cells [SV.int IntKind.i64 y, SV.int IntKind.i64 m, SV.int IntKind.i64 d, SV.int IntKind.i64 h, SV.int IntKind.i64 mi, SV.int IntKind.i64 s]
                   25) =
                  Ent.mk (Loc.blk b)
                   (SObj.cells [SV.int IntKind.i64 y, SV.int IntKind.i64 m, SV.int IntKind.i64 d, SV.int IntKind.i64 h, SV.int IntKind.i64 mi, SV.int IntKind.i64 s]
                    25) ∧
                  True) ∧
                  ByteArray.size (padB y (4 : Int) ++ ByteArray.mk #[(45 : UInt8)]) + ByteArray.size (padB m (2 : Int)) ≤ 9223372036854775807 ∧
                   ByteArray.size (padB y (4 : Int) ++ ByteArray.mk #[(45 : UInt8)] ++ padB m (2 : Int)) + 1 ≤ 9223372036854775807 ∧
                    true = true ∧
                     ((0 : Int) ≤ d ∧ d < (10000 : Int) ∧ (0 : Int) ≤ (2 : Int) ∧ (2 : Int) ≤ (4 : Int)) ∧
                      (Ent.mk (Loc.blk b)
                       (SObj.cells [SV.int IntKind.i64 y, SV.int IntKind.i64 m, SV.int IntKind.i64 d, SV.int IntKind.i64 h, SV.int IntKind.i64 mi, SV.int IntKind.i64 s]
                        25) =
                       Ent.mk (Loc.blk b)
                        (SObj.cells [SV.int IntKind.i64 y, SV.int IntKind.i64 m, SV.int IntKind.i64 d, SV.int IntKind.i64 h, SV.int IntKind.i64 mi, SV.int IntKind.i64 s]
                         25) ∧
                       True) ∧
                       ByteArray.size (padB y (4 : Int) ++ ByteArray.mk #[(45 : UInt8)] ++ padB m (2 : Int) ++ ByteArray.mk #[(45 : UInt8)]) +
                        ByteArray.size (padB d (2 : Int)) ≤
                        9223372036854775807 ∧
                        ByteArray.size (padB y (4 : Int) ++ ByteArray.mk #[(45 : UInt8)] ++ padB m (2 : Int) ++ ByteArray.mk #[(45 : UInt8)] ++ padB d (2 : Int)) + 1 ≤
                         9223372036854775807 ∧
                         true = true ∧
                          ((0 : Int) ≤ h ∧ h < (10000 : Int) ∧ (0 : Int) ≤ (2 : Int) ∧ (2 : Int) ≤ (4 : Int)) ∧
                           (Ent.mk (Loc.blk b)
                            (SObj.cells
                             [SV.int IntKind.i64 y, SV.int IntKind.i64 m, SV.int IntKind.i64 d, SV.int IntKind.i64 h, SV.int IntKind.i64 mi, SV.int IntKind.i64 s]
                             25) =
                            Ent.mk (Loc.blk b)
                             (SObj.cells
                              [SV.int IntKind.i64 y, SV.int IntKind.i64 m, SV.int IntKind.i64 d, SV.int IntKind.i64 h, SV.int IntKind.i64 mi, SV.int IntKind.i64 s]
                              25) ∧
                            True) ∧
                            ByteArray.size
                             (padB y (4 : Int) ++ ByteArray.mk #[(45 : UInt8)] ++ padB m (2 : Int) ++ ByteArray.mk #[(45 : UInt8)] ++ padB d (2 : Int) ++
                              ByteArray.mk #[(32 : UInt8)]) +
                             ByteArray.size (padB h (2 : Int)) ≤
                             9223372036854775807 ∧
                             ByteArray.size
                              (padB y (4 : Int) ++ ByteArray.mk #[(45 : UInt8)] ++ padB m (2 : Int) ++ ByteArray.mk #[(45 : UInt8)] ++ padB d (2 : Int) ++
                               ByteArray.mk #[(32 : UInt8)] ++
                               padB h (2 : Int)) +
                              1 ≤
                              9223372036854775807 ∧
                              true = true ∧
                               ((0 : Int) ≤ mi ∧ mi < (10000 : Int) ∧ (0 : Int) ≤ (2 : Int) ∧ (2 : Int) ≤ (4 : Int)) ∧
                                (Ent.mk (Loc.blk b)
                                 (SObj.cells
                                  [SV.int IntKind.i64 y, SV.int IntKind.i64 m, SV.int IntKind.i64 d, SV.int IntKind.i64 h, SV.int IntKind.i64 mi,
                                   SV.int IntKind.i64 s]
                                  25) =
                                 Ent.mk (Loc.blk b)
                                  (SObj.cells
                                   [SV.int IntKind.i64 y, SV.int IntKind.i64 m, SV.int IntKind.i64 d, SV.int IntKind.i64 h, SV.int IntKind.i64 mi,
                                    SV.int IntKind.i64 s]
                                   25) ∧
                                 True) ∧
                                 ByteArray.size
                                  (padB y (4 : Int) ++ ByteArray.mk #[(45 : UInt8)] ++ padB m (2 : Int) ++ ByteArray.mk #[(45 : UInt8)] ++ padB d (2 : Int) ++
                                   ByteArray.mk #[(32 : UInt8)] ++
                                   padB h (2 : Int) ++
                                   ByteArray.mk #[(58 : UInt8)]) +
                                  ByteArray.size (padB mi (2 : Int)) ≤
                                  9223372036854775807 ∧
                                  ByteArray.size
                                   (padB y (4 : Int) ++ ByteArray.mk #[(45 : UInt8)] ++ padB m (2 : Int) ++ ByteArray.mk #[(45 : UInt8)] ++ padB d (2 : Int) ++
                                    ByteArray.mk #[(32 : UInt8)] ++
                                    padB h (2 : Int) ++
                                    ByteArray.mk #[(58 : UInt8)] ++
                                    padB mi (2 : Int)) +
                                   1 ≤
                                   9223372036854775807 ∧
                                   true = true ∧
                                    ((0 : Int) ≤ s ∧ s < (10000 : Int) ∧ (0 : Int) ≤ (2 : Int) ∧ (2 : Int) ≤ (4 : Int)) ∧
                                     (Ent.mk (Loc.blk b)
                                      (SObj.cells
                                       [SV.int IntKind.i64 y, SV.int IntKind.i64 m, SV.int IntKind.i64 d, SV.int IntKind.i64 h, SV.int IntKind.i64 mi,
                                        SV.int IntKind.i64 s]
                                       25) =
                                      Ent.mk (Loc.blk b)
                                       (SObj.cells
                                        [SV.int IntKind.i64 y, SV.int IntKind.i64 m, SV.int IntKind.i64 d, SV.int IntKind.i64 h, SV.int IntKind.i64 mi,
                                         SV.int IntKind.i64 s]
                                        25) ∧
                                      True) ∧
                                      ByteArray.size
                                       (padB y (4 : Int) ++ ByteArray.mk #[(45 : UInt8)] ++ padB m (2 : Int) ++ ByteArray.mk #[(45 : UInt8)] ++
                                        padB d (2 : Int) ++
                                        ByteArray.mk #[(32 : UInt8)] ++
                                        padB h (2 : Int) ++
                                        ByteArray.mk #[(58 : UInt8)] ++
                                        padB mi (2 : Int) ++
                                        ByteArray.mk #[(58 : UInt8)]) +
                                       ByteArray.size (padB s (2 : Int)) ≤
                                       9223372036854775807 ∧
                                       N
                                        [Ent.mk (Loc.blk b)
                                         (SObj.cells
                                          [SV.int IntKind.i64 y, SV.int IntKind.i64 m, SV.int IntKind.i64 d, SV.int IntKind.i64 h, SV.int IntKind.i64 mi,
                                           SV.int IntKind.i64 s]
                                          25)]
                                        (SV.str
                                         (padB y (4 : Int) ++ ByteArray.mk #[(45 : UInt8)] ++ padB m (2 : Int) ++ ByteArray.mk #[(45 : UInt8)] ++
                                          padB d (2 : Int) ++
                                          ByteArray.mk #[(32 : UInt8)] ++
                                          padB h (2 : Int) ++
                                          ByteArray.mk #[(58 : UInt8)] ++
                                          padB mi (2 : Int) ++
                                          ByteArray.mk #[(58 : UInt8)] ++
                                          padB s (2 : Int)))) := by kernel_rfl


theorem unix2_run (K : List Frm → Sy → Prop) (N : List Ent → SV → Prop) (y m d h mi s : Int) : (run Tryd.prog r2T3 true [] K (retP Tryd.prog Tryd.f20.results.toList N) 900 [.code (bodyOf Tryd.f20)] ⟨padTo 28 [.agg [.int .i64 y, .int .i64 m, .int .i64 d, .int .i64 h, .int .i64 mi, .int .i64 s]], []⟩) = (
true = true ∧
 ∀ (b : Nat),
  (b = b ∧ 6 = 6) ∧
   true = true ∧
    match !isMomB y m d h mi s with
    | true =>
     N [Ent.mk (Loc.blk b) (SObj.cells [SV.int IntKind.i64 y, SV.int IntKind.i64 m, SV.int IntKind.i64 d, SV.int IntKind.i64 h, SV.int IntKind.i64 mi, SV.int IntKind.i64 s] 25)]
      (SV.tuple [SV.int IntKind.i64 (0 : Int), SV.int IntKind.i64 (20 : Int)])
    | false =>
     (b = b ∧ 3 = 3) ∧
      true = true ∧
       match isB y m d with
       | true =>
        b = b ∧
         b = b ∧
          b = b ∧
           N
            [Ent.mk (Loc.blk b)
             (SObj.cells [SV.int IntKind.i64 y, SV.int IntKind.i64 m, SV.int IntKind.i64 d, SV.int IntKind.i64 h, SV.int IntKind.i64 mi, SV.int IntKind.i64 s] 25)]
            (SV.tuple
             [SV.int IntKind.i64
              (IntKind.wrap IntKind.i64
               (IntKind.wrap IntKind.i64 (daysI y m d * (86400 : Int)) +
                IntKind.wrap IntKind.i64 (IntKind.wrap IntKind.i64 (IntKind.wrap IntKind.i64 (h * (3600 : Int)) + IntKind.wrap IntKind.i64 (mi * (60 : Int))) + s))),
              SV.int IntKind.i64 (0 : Int)])
       | false =>
        b = b ∧
         b = b ∧
          b = b ∧
           N
            [Ent.mk (Loc.blk b)
             (SObj.cells [SV.int IntKind.i64 y, SV.int IntKind.i64 m, SV.int IntKind.i64 d, SV.int IntKind.i64 h, SV.int IntKind.i64 mi, SV.int IntKind.i64 s] 25)]
            (SV.tuple
             [SV.int IntKind.i64
              (IntKind.wrap IntKind.i64
               ((0 : Int) + IntKind.wrap IntKind.i64 (IntKind.wrap IntKind.i64 (IntKind.wrap IntKind.i64 (h * (3600 : Int)) + IntKind.wrap IntKind.i64 (mi * (60 : Int))) + s))),
              SV.int IntKind.i64 (0 : Int)])) := by kernel_rfl


theorem mom2_run (K : List Frm → Sy → Prop) (N : List Ent → SV → Prop) (t : Int) : (run Tryd.prog r2T3 true [] K (retP Tryd.prog Tryd.f22.results.toList N) 900 [.code (bodyOf Tryd.f22)] ⟨padTo 36 [.int .i64 t], []⟩) = (
∀ (b : Nat),
 match decide (t < (0 : Int)) with
 | true =>
  (true = true ∧ true = true) ∧
   (b = b ∧ true = true ∧ 6 = 6 ∧ 6 ≤ 6) ∧
    (b = b ∧ 6 = 6) ∧
     N
      [Ent.mk (Loc.blk b)
       (SObj.cells
        [SV.int IntKind.i64 (0 : Int), SV.int IntKind.i64 (0 : Int), SV.int IntKind.i64 (0 : Int), SV.int IntKind.i64 (0 : Int), SV.int IntKind.i64 (0 : Int), SV.int IntKind.i64 (0 : Int)]
        25)]
      (SV.tuple
       [SV.agg
        [SV.int IntKind.i64 (0 : Int), SV.int IntKind.i64 (0 : Int), SV.int IntKind.i64 (0 : Int), SV.int IntKind.i64 (0 : Int), SV.int IntKind.i64 (0 : Int), SV.int IntKind.i64 (0 : Int)],
        SV.int IntKind.i64 (20 : Int)])
 | false =>
  (86400 : Int) ≠ (0 : Int) ∧
   match decide (IntKind.wrap IntKind.i64 (Int.tdiv t (86400 : Int)) > (200000 : Int)) with
   | true =>
    (true = true ∧ true = true) ∧
     (b = b ∧ true = true ∧ 6 = 6 ∧ 6 ≤ 6) ∧
      (b = b ∧ 6 = 6) ∧
       N
        [Ent.mk (Loc.blk b)
         (SObj.cells
          [SV.int IntKind.i64 (0 : Int), SV.int IntKind.i64 (0 : Int), SV.int IntKind.i64 (0 : Int), SV.int IntKind.i64 (0 : Int), SV.int IntKind.i64 (0 : Int),
           SV.int IntKind.i64 (0 : Int)]
          25)]
        (SV.tuple
         [SV.agg
          [SV.int IntKind.i64 (0 : Int), SV.int IntKind.i64 (0 : Int), SV.int IntKind.i64 (0 : Int), SV.int IntKind.i64 (0 : Int), SV.int IntKind.i64 (0 : Int),
           SV.int IntKind.i64 (0 : Int)],
          SV.int IntKind.i64 (20 : Int)])
   | false =>
    (86400 : Int) ≠ (0 : Int) ∧
     true = true ∧
      IntKind.wrap IntKind.i64 (Int.tdiv t (86400 : Int)) ≤ (9223372036854775807 : Int) ∧
       match decide ((0 : Int) ≤ IntKind.wrap IntKind.i64 (Int.tdiv t (86400 : Int))) && decide (IntKind.wrap IntKind.i64 (Int.tdiv t (86400 : Int)) < (84371 : Int)) with
       | true =>
        ∀ (y m d : Int),
         dateP (IntKind.wrap IntKind.i64 (Int.tdiv t (86400 : Int))) y m d →
          ∀ (b_1 : Nat),
           (b_1 = b_1 ∧ true = true ∧ 3 = 3 ∧ 3 ≤ 3) ∧
            (86400 : Int) ≠ (0 : Int) ∧
             (b_1 = b_1 ∧ 3 = 3) ∧
              (3600 : Int) ≠ (0 : Int) ∧
               (60 : Int) ≠ (0 : Int) ∧
                (60 : Int) ≠ (0 : Int) ∧
                 (60 : Int) ≠ (0 : Int) ∧
                  (true = true ∧ true = true) ∧
                   (b = b ∧ true = true ∧ 6 = 6 ∧ 6 ≤ 6) ∧
                    (b = b ∧ 6 = 6) ∧
                     N
                      [Ent.mk (Loc.blk b)
                       (SObj.cells
                        [SV.int IntKind.i64 y, SV.int IntKind.i64 m, SV.int IntKind.i64 d,
                         SV.int IntKind.i64 (IntKind.wrap IntKind.i64 (Int.tdiv (Int.tmod t (86400 : Int)) (3600 : Int))),
                         SV.int IntKind.i64 (Int.tmod (IntKind.wrap IntKind.i64 (Int.tdiv (Int.tmod t (86400 : Int)) (60 : Int))) (60 : Int)),
                         SV.int IntKind.i64 (Int.tmod (Int.tmod t (86400 : Int)) (60 : Int))]
                        25),
                       Ent.mk (Loc.blk b_1) (SObj.cells [SV.int IntKind.i64 y, SV.int IntKind.i64 m, SV.int IntKind.i64 d] 23)]
                      (SV.tuple
                       [SV.agg
                        [SV.int IntKind.i64 y, SV.int IntKind.i64 m, SV.int IntKind.i64 d,
                         SV.int IntKind.i64 (IntKind.wrap IntKind.i64 (Int.tdiv (Int.tmod t (86400 : Int)) (3600 : Int))),
                         SV.int IntKind.i64 (Int.tmod (IntKind.wrap IntKind.i64 (Int.tdiv (Int.tmod t (86400 : Int)) (60 : Int))) (60 : Int)),
                         SV.int IntKind.i64 (Int.tmod (Int.tmod t (86400 : Int)) (60 : Int))],
                        SV.int IntKind.i64 (0 : Int)])
       | false =>
        ∀ (b_1 : Nat),
         (b_1 = b_1 ∧ true = true ∧ 3 = 3 ∧ 3 ≤ 3) ∧
          (true = true ∧ true = true) ∧
           (b = b ∧ true = true ∧ 6 = 6 ∧ 6 ≤ 6) ∧
            (b = b ∧ 6 = 6) ∧
             N
              [Ent.mk (Loc.blk b)
               (SObj.cells
                [SV.int IntKind.i64 (0 : Int), SV.int IntKind.i64 (0 : Int), SV.int IntKind.i64 (0 : Int), SV.int IntKind.i64 (0 : Int), SV.int IntKind.i64 (0 : Int),
                 SV.int IntKind.i64 (0 : Int)]
                25),
               Ent.mk (Loc.blk b_1) (SObj.cells [SV.int IntKind.i64 (0 : Int), SV.int IntKind.i64 (0 : Int), SV.int IntKind.i64 (0 : Int)] 23)]
              (SV.tuple
               [SV.agg
                [SV.int IntKind.i64 (0 : Int), SV.int IntKind.i64 (0 : Int), SV.int IntKind.i64 (0 : Int), SV.int IntKind.i64 (0 : Int), SV.int IntKind.i64 (0 : Int),
                 SV.int IntKind.i64 (0 : Int)],
                SV.int IntKind.i64 (20 : Int)])) := by kernel_rfl


theorem kn2_run (K : List Frm → Sy → Prop) (N : List Ent → SV → Prop) : (run Tryd.prog [(11, daysC), (15, wdC)] true [] K (retP Tryd.prog Tryd.f8.results.toList N) 600 [.code (bodyOf Tryd.f8)] ⟨padTo 30 [], []⟩) = (
(true = true ∧ true = true) ∧
 true = true ∧
  (true = true ∧ true = true) ∧
   true = true ∧
    true = true ∧
     ((-9223372036854775808 : Int) ≤ (19782 : Int) ∧ (19782 : Int) ≤ (9223372036854775807 : Int)) ∧
      true = true ∧ ((-9223372036854775808 : Int) ≤ (-1 : Int) ∧ (-1 : Int) ≤ (9223372036854775807 : Int)) ∧ N [] (SV.bool true)) := by kernel_rfl
end Go.Proofs.YtjnkfgigpapeaaaDoor

namespace Go.Proofs.YtjnkfgigpapeaaaDoor
open Go Go.RowKit

theorem moment_run (K : List Frm → Sy → Prop) (N : List Ent → SV → Prop) (t : Int) : (run Tryd.prog civ4 true [] K (retP Tryd.prog Tryd.f21.results.toList N) 600 [.code (bodyOf Tryd.f21)] ⟨padTo 34 [.int .i64 t], []⟩) = (
∀ (b : Nat),
 match decide (t < (0 : Int)) with
 | true =>
  (true = true ∧ true = true) ∧
   (b = b ∧ true = true ∧ 6 = 6 ∧ 6 ≤ 6) ∧
    (b = b ∧ 6 = 6) ∧
     N
      [Ent.mk (Loc.blk b)
       (SObj.cells
        [SV.int IntKind.i64 (0 : Int), SV.int IntKind.i64 (0 : Int), SV.int IntKind.i64 (0 : Int), SV.int IntKind.i64 (0 : Int), SV.int IntKind.i64 (0 : Int), SV.int IntKind.i64 (0 : Int)]
        25)]
      (SV.tuple
       [SV.agg
        [SV.int IntKind.i64 (0 : Int), SV.int IntKind.i64 (0 : Int), SV.int IntKind.i64 (0 : Int), SV.int IntKind.i64 (0 : Int), SV.int IntKind.i64 (0 : Int), SV.int IntKind.i64 (0 : Int)],
        SV.int IntKind.i64 (20 : Int)])
 | false =>
  (86400 : Int) ≠ (0 : Int) ∧
   true = true ∧
    ((1 : Int) ≤ (2201 : Int) ∧ (2201 : Int) ≤ (1000000 : Int)) ∧
     match decide (IntKind.wrap IntKind.i64 (Int.tdiv t (86400 : Int)) ≥ (84371 : Int)) with
     | true =>
      (true = true ∧ true = true) ∧
       (b = b ∧ true = true ∧ 6 = 6 ∧ 6 ≤ 6) ∧
        (b = b ∧ 6 = 6) ∧
         N
          [Ent.mk (Loc.blk b)
           (SObj.cells
            [SV.int IntKind.i64 (0 : Int), SV.int IntKind.i64 (0 : Int), SV.int IntKind.i64 (0 : Int), SV.int IntKind.i64 (0 : Int), SV.int IntKind.i64 (0 : Int),
             SV.int IntKind.i64 (0 : Int)]
            25)]
          (SV.tuple
           [SV.agg
            [SV.int IntKind.i64 (0 : Int), SV.int IntKind.i64 (0 : Int), SV.int IntKind.i64 (0 : Int), SV.int IntKind.i64 (0 : Int), SV.int IntKind.i64 (0 : Int),
             SV.int IntKind.i64 (0 : Int)],
            SV.int IntKind.i64 (20 : Int)])
     | false =>
      (86400 : Int) ≠ (0 : Int) ∧
       true = true ∧
        match decide ((0 : Int) ≤ IntKind.wrap IntKind.i64 (Int.tdiv t (86400 : Int))) && decide (IntKind.wrap IntKind.i64 (Int.tdiv t (86400 : Int)) < (84371 : Int)) with
        | true =>
         ∀ (y m d : Int),
          dateP (IntKind.wrap IntKind.i64 (Int.tdiv t (86400 : Int))) y m d →
           ∀ (b_1 : Nat),
            (b_1 = b_1 ∧ true = true ∧ 3 = 3 ∧ 3 ≤ 3) ∧
             (86400 : Int) ≠ (0 : Int) ∧
              (b_1 = b_1 ∧ 3 = 3) ∧
               (3600 : Int) ≠ (0 : Int) ∧
                (60 : Int) ≠ (0 : Int) ∧
                 (60 : Int) ≠ (0 : Int) ∧
                  (60 : Int) ≠ (0 : Int) ∧
                   (true = true ∧ true = true) ∧
                    (b = b ∧ true = true ∧ 6 = 6 ∧ 6 ≤ 6) ∧
                     (b = b ∧ 6 = 6) ∧
                      N
                       [Ent.mk (Loc.blk b)
                        (SObj.cells
                         [SV.int IntKind.i64 y, SV.int IntKind.i64 m, SV.int IntKind.i64 d,
                          SV.int IntKind.i64 (IntKind.wrap IntKind.i64 (Int.tdiv (Int.tmod t (86400 : Int)) (3600 : Int))),
                          SV.int IntKind.i64 (Int.tmod (IntKind.wrap IntKind.i64 (Int.tdiv (Int.tmod t (86400 : Int)) (60 : Int))) (60 : Int)),
                          SV.int IntKind.i64 (Int.tmod (Int.tmod t (86400 : Int)) (60 : Int))]
                         25),
                        Ent.mk (Loc.blk b_1) (SObj.cells [SV.int IntKind.i64 y, SV.int IntKind.i64 m, SV.int IntKind.i64 d] 23)]
                       (SV.tuple
                        [SV.agg
                         [SV.int IntKind.i64 y, SV.int IntKind.i64 m, SV.int IntKind.i64 d,
                          SV.int IntKind.i64 (IntKind.wrap IntKind.i64 (Int.tdiv (Int.tmod t (86400 : Int)) (3600 : Int))),
                          SV.int IntKind.i64 (Int.tmod (IntKind.wrap IntKind.i64 (Int.tdiv (Int.tmod t (86400 : Int)) (60 : Int))) (60 : Int)),
                          SV.int IntKind.i64 (Int.tmod (Int.tmod t (86400 : Int)) (60 : Int))],
                         SV.int IntKind.i64 (0 : Int)])
        | false =>
         ∀ (b_1 : Nat),
          (b_1 = b_1 ∧ true = true ∧ 3 = 3 ∧ 3 ≤ 3) ∧
           (86400 : Int) ≠ (0 : Int) ∧
            (b_1 = b_1 ∧ 3 = 3) ∧
             (3600 : Int) ≠ (0 : Int) ∧
              (60 : Int) ≠ (0 : Int) ∧
               (60 : Int) ≠ (0 : Int) ∧
                (60 : Int) ≠ (0 : Int) ∧
                 (true = true ∧ true = true) ∧
                  (b = b ∧ true = true ∧ 6 = 6 ∧ 6 ≤ 6) ∧
                   (b = b ∧ 6 = 6) ∧
                    N
                     [Ent.mk (Loc.blk b)
                      (SObj.cells
                       [SV.int IntKind.i64 (0 : Int), SV.int IntKind.i64 (0 : Int), SV.int IntKind.i64 (0 : Int),
                        SV.int IntKind.i64 (IntKind.wrap IntKind.i64 (Int.tdiv (Int.tmod t (86400 : Int)) (3600 : Int))),
                        SV.int IntKind.i64 (Int.tmod (IntKind.wrap IntKind.i64 (Int.tdiv (Int.tmod t (86400 : Int)) (60 : Int))) (60 : Int)),
                        SV.int IntKind.i64 (Int.tmod (Int.tmod t (86400 : Int)) (60 : Int))]
                       25),
                      Ent.mk (Loc.blk b_1) (SObj.cells [SV.int IntKind.i64 (0 : Int), SV.int IntKind.i64 (0 : Int), SV.int IntKind.i64 (0 : Int)] 23)]
                     (SV.tuple
                      [SV.agg
                       [SV.int IntKind.i64 (0 : Int), SV.int IntKind.i64 (0 : Int), SV.int IntKind.i64 (0 : Int),
                        SV.int IntKind.i64 (IntKind.wrap IntKind.i64 (Int.tdiv (Int.tmod t (86400 : Int)) (3600 : Int))),
                        SV.int IntKind.i64 (Int.tmod (IntKind.wrap IntKind.i64 (Int.tdiv (Int.tmod t (86400 : Int)) (60 : Int))) (60 : Int)),
                        SV.int IntKind.i64 (Int.tmod (Int.tmod t (86400 : Int)) (60 : Int))],
                       SV.int IntKind.i64 (20 : Int)])) := by kernel_rfl


theorem unix_run (K : List Frm → Sy → Prop) (N : List Ent → SV → Prop) (y m d h mi s : Int) : (run Tryd.prog civ4 true [] K (retP Tryd.prog Tryd.f9.results.toList N) 600 [.code (bodyOf Tryd.f9)] ⟨padTo 45 [.agg [.int .i64 y, .int .i64 m, .int .i64 d, .int .i64 h, .int .i64 mi, .int .i64 s]], []⟩) = (
true = true ∧
 ∀ (b : Nat),
  (b = b ∧ 3 = 3) ∧
   true = true ∧
    match isB y m d with
    | true =>
     b = b ∧
      true = true ∧
       match !inB h (24 : Int) with
       | true =>
        N [Ent.mk (Loc.blk b) (SObj.cells [SV.int IntKind.i64 y, SV.int IntKind.i64 m, SV.int IntKind.i64 d, SV.int IntKind.i64 h, SV.int IntKind.i64 mi, SV.int IntKind.i64 s] 25)]
         (SV.tuple [SV.int IntKind.i64 (0 : Int), SV.int IntKind.i64 (20 : Int)])
       | false =>
        b = b ∧
         true = true ∧
          match !inB mi (60 : Int) with
          | true =>
           N
            [Ent.mk (Loc.blk b)
             (SObj.cells [SV.int IntKind.i64 y, SV.int IntKind.i64 m, SV.int IntKind.i64 d, SV.int IntKind.i64 h, SV.int IntKind.i64 mi, SV.int IntKind.i64 s] 25)]
            (SV.tuple [SV.int IntKind.i64 (0 : Int), SV.int IntKind.i64 (20 : Int)])
          | false =>
           b = b ∧
            true = true ∧
             match !inB s (60 : Int) with
             | true =>
              N
               [Ent.mk (Loc.blk b)
                (SObj.cells [SV.int IntKind.i64 y, SV.int IntKind.i64 m, SV.int IntKind.i64 d, SV.int IntKind.i64 h, SV.int IntKind.i64 mi, SV.int IntKind.i64 s] 25)]
               (SV.tuple [SV.int IntKind.i64 (0 : Int), SV.int IntKind.i64 (20 : Int)])
             | false =>
              b = b ∧
               b = b ∧
                b = b ∧
                 N
                  [Ent.mk (Loc.blk b)
                   (SObj.cells [SV.int IntKind.i64 y, SV.int IntKind.i64 m, SV.int IntKind.i64 d, SV.int IntKind.i64 h, SV.int IntKind.i64 mi, SV.int IntKind.i64 s] 25)]
                  (SV.tuple
                   [SV.int IntKind.i64
                    (IntKind.wrap IntKind.i64
                     (IntKind.wrap IntKind.i64 (daysI y m d * (86400 : Int)) +
                      IntKind.wrap IntKind.i64 (IntKind.wrap IntKind.i64 (IntKind.wrap IntKind.i64 (IntKind.wrap IntKind.i64 (h * (60 : Int)) + mi) * (60 : Int)) + s))),
                    SV.int IntKind.i64 (0 : Int)])
    | false =>
     N [Ent.mk (Loc.blk b) (SObj.cells [SV.int IntKind.i64 y, SV.int IntKind.i64 m, SV.int IntKind.i64 d, SV.int IntKind.i64 h, SV.int IntKind.i64 mi, SV.int IntKind.i64 s] 25)]
      (SV.tuple [SV.int IntKind.i64 (0 : Int), SV.int IntKind.i64 (20 : Int)])) := by kernel_rfl
end Go.Proofs.YtjnkfgigpapeaaaDoor

/- civil: Moment and Unix. -/
namespace Go.Proofs.YtjnkfgigpapeaaaDoor
open Go Go.RowKit

theorem moment_ok : CtrOk Tryd.prog 21 momentC := by
  intro args hs N h
  unfold momentC at h
  split at h
  · rename_i t
    obtain ⟨ht, h⟩ := h
    cases hr : decide (0 ≤ t) && decide (t < 7289654400) with
    | false =>
      rw [hr] at h
      refine Spec.pure (Cs := civ4) (kc := true) (ss := []) 600 34 civ4_ok hm Tryd.func21 (by kernel_rfl) (by kernel_rfl) rfl h fun K => ?_
      rw [moment_run]
      intro b
      simp only [Bool.and_eq_false_iff, decide_eq_false_iff_not] at hr
      cases h0 : decide (t < 0) with
      | true => simp
      | false =>
        simp only [decide_eq_false_iff_not] at h0
        have h1 : decide (IntKind.i64.wrap (t.tdiv 86400) ≥ 84371) = true := by
          have h2 : ¬ t < 7289654400 := by rcases hr with hr | hr <;> omega
          rw [Int.tdiv_eq_ediv_of_nonneg (by omega), IntWalk.i64_in _ (by omega)]
          simp; omega
        rw [h1]; simp
    | true =>
      rw [hr] at h
      simp only [Bool.and_eq_true, decide_eq_true_eq] at hr
      obtain ⟨hr0, hr1⟩ := hr
      refine Spec.lift (Φ := fun r => ∃ y m d, dateP (t / 86400) y m d ∧ r = .tuple [.agg [.int .i64 y, .int .i64 m, .int .i64 d, .int .i64 (t % 86400 / 3600), .int .i64 (t % 86400 / 60 % 60), .int .i64 (t % 86400 % 60)], .int .i64 0]) ?_ (by rintro _ ⟨y, m, d, hd, rfl⟩; exact h y m d hd)
      refine Spec.of_G 34 Tryd.func21 (c := bodyOf Tryd.f21) (by kernel_rfl) (by kernel_rfl) (by simp [lenN]) fun W F => ?_
      refine G_run (Cs := civ4) (kc := true) (ss := []) civ4_ok hm 600 ?_
      rw [moment_run]
      intro b
      have h0 : decide (t < 0) = false := by simp; omega
      have e1 : IntKind.i64.wrap (t.tdiv 86400) = t / 86400 := by rw [Int.tdiv_eq_ediv_of_nonneg hr0]; exact IntWalk.i64_in _ (by omega)
      have e2 : t.tmod 86400 = t % 86400 := Int.tmod_eq_emod_of_nonneg hr0
      have hq : 0 ≤ t % 86400 ∧ t % 86400 < 86400 := by omega
      have e3 : IntKind.i64.wrap ((t % 86400).tdiv 3600) = t % 86400 / 3600 := by rw [Int.tdiv_eq_ediv_of_nonneg hq.1]; exact IntWalk.i64_in _ (by omega)
      have e4 : IntKind.i64.wrap ((t % 86400).tdiv 60) = t % 86400 / 60 := by rw [Int.tdiv_eq_ediv_of_nonneg hq.1]; exact IntWalk.i64_in _ (by omega)
      have e5 : (t % 86400 / 60).tmod 60 = t % 86400 / 60 % 60 := Int.tmod_eq_emod_of_nonneg (by omega)
      have e6 : (t % 86400).tmod 60 = t % 86400 % 60 := Int.tmod_eq_emod_of_nonneg hq.1
      have h1 : decide (t / 86400 ≥ 84371) = false := by simp; omega
      have h2 : decide (0 ≤ t / 86400) = true := by simp; omega
      have h3 : decide (t / 86400 < 84371) = true := by simp; omega
      rw [e1, e2, e3, e4, e5, e6, h0, h1, h2, h3]
      refine ⟨by decide, rfl, by decide, by decide, rfl, fun y m d hd b1 => ?_⟩
      refine ⟨⟨rfl, rfl, rfl, by decide⟩, by decide, ⟨rfl, rfl⟩, by decide, by decide, by decide, by decide, ⟨rfl, rfl⟩, ⟨rfl, rfl, rfl, by decide⟩, ⟨rfl, rfl⟩, y, m, d, hd, rfl⟩
  · exact h.elim

theorem daysI_le {y m d : Int} (h : isB y m d = true) : 0 ≤ daysI y m d ∧ daysI y m d ≤ 90000 := by
  obtain ⟨d1, d2⟩ := isB_iff.1 h
  obtain ⟨y1, y2, m1, m2⟩ := lenI_pos d1 d2
  have h1 := beginsI_le y1 (by omega : y ≤ 2201)
  have h2 := lenI_le y m
  have h3 := cumI_le y (m - 1).toNat
  unfold daysI; omega

theorem inB_iff {n b : Int} : inB n b = true ↔ 0 ≤ n ∧ n < b := by simp [inB]

theorem unix_ok : CtrOk Tryd.prog 9 unixC := by
  intro args hs N h
  unfold unixC at h
  split at h
  · rename_i y m d hh mi s
    cases hr : isB y m d && (inB hh 24 && (inB mi 60 && inB s 60)) with
    | false =>
      rw [hr] at h
      refine Spec.pure (Cs := civ4) (kc := true) (ss := []) 600 45 civ4_ok hm Tryd.func9 (by kernel_rfl) (by kernel_rfl) rfl h fun K => ?_
      rw [unix_run]
      refine ⟨rfl, fun b => ⟨⟨rfl, rfl⟩, rfl, ?_⟩⟩
      cases h1 : isB y m d <;> cases h2 : inB hh 24 <;> cases h3 : inB mi 60 <;> cases h4 : inB s 60 <;> simp_all
    | true =>
      rw [hr] at h
      refine Spec.pure (Cs := civ4) (kc := true) (ss := []) 600 45 civ4_ok hm Tryd.func9 (by kernel_rfl) (by kernel_rfl) rfl h fun K => ?_
      rw [unix_run]
      simp only [Bool.and_eq_true] at hr
      obtain ⟨h1, h2, h3, h4⟩ := hr
      have hd := daysI_le h1
      have g2 := inB_iff.1 h2
      have g3 := inB_iff.1 h3
      have g4 := inB_iff.1 h4
      rw [h1, h2, h3, h4]
      refine ⟨rfl, fun b => ⟨⟨rfl, rfl⟩, rfl, rfl, rfl, rfl, rfl, rfl, rfl, rfl, rfl, rfl, ?_⟩⟩
      simp (disch := omega) only [IntWalk.i64_in]
  · exact h.elim

theorem civ5_ok : AllOk Tryd.prog civ5 := ⟨moment_ok, unix_ok, civ4_ok⟩
end Go.Proofs.YtjnkfgigpapeaaaDoor

