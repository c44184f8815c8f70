import Derived.Test.YtjnkfgigpapeaaaCivC
import Derived.Test.YtjnkfgigpapeaaaTab
namespace Go.Proofs.Ytjnkfgigpapeaaa
set_option linter.unusedVariables false
open Go Go.RowKit
set_option maxRecDepth 100000

theorem moment_run (K : List Frm → Sy → Prop) (N : List Ent → SV → Prop) (t : Int) : (run Try.prog civ4 true [] K (retP Try.prog Try.f31.results.toList N) 600 [.code (bodyOf Try.f31)] ⟨padTo 34 [.int .i64 t], []⟩) = (
∀ (b : Nat),
 match decide (t < (0 : Int)) with
 | true =>
  (true = true ∧ true = true) ∧
   (b = b ∧ true = true ∧ 6 = 6 ∧ 6 ≤ 6) ∧
    (b = b ∧ 6 = 6) ∧
     N
      [Ent.mk (Loc.blk b)
       (SObj.cells
        [SV.int IntKind.i64 (0 : Int), SV.int IntKind.i64 (0 : Int), SV.int IntKind.i64 (0 : Int), SV.int IntKind.i64 (0 : Int), SV.int IntKind.i64 (0 : Int), SV.int IntKind.i64 (0 : Int)]
        61)]
      (SV.tuple
       [SV.agg
        [SV.int IntKind.i64 (0 : Int), SV.int IntKind.i64 (0 : Int), SV.int IntKind.i64 (0 : Int), SV.int IntKind.i64 (0 : Int), SV.int IntKind.i64 (0 : Int), SV.int IntKind.i64 (0 : Int)],
        SV.int IntKind.i64 (20 : Int)])
 | false =>
  (86400 : Int) ≠ (0 : Int) ∧
   true = true ∧
    ((1 : Int) ≤ (2201 : Int) ∧ (2201 : Int) ≤ (1000000 : Int)) ∧
     match decide (IntKind.wrap IntKind.i64 (Int.tdiv t (86400 : Int)) ≥ (84371 : Int)) with
     | true =>
      (true = true ∧ true = true) ∧
       (b = b ∧ true = true ∧ 6 = 6 ∧ 6 ≤ 6) ∧
        (b = b ∧ 6 = 6) ∧
         N
          [Ent.mk (Loc.blk b)
           (SObj.cells
            [SV.int IntKind.i64 (0 : Int), SV.int IntKind.i64 (0 : Int), SV.int IntKind.i64 (0 : Int), SV.int IntKind.i64 (0 : Int), SV.int IntKind.i64 (0 : Int),
             SV.int IntKind.i64 (0 : Int)]
            61)]
          (SV.tuple
           [SV.agg
            [SV.int IntKind.i64 (0 : Int), SV.int IntKind.i64 (0 : Int), SV.int IntKind.i64 (0 : Int), SV.int IntKind.i64 (0 : Int), SV.int IntKind.i64 (0 : Int),
             SV.int IntKind.i64 (0 : Int)],
            SV.int IntKind.i64 (20 : Int)])
     | false =>
      (86400 : Int) ≠ (0 : Int) ∧
       true = true ∧
        match decide ((0 : Int) ≤ IntKind.wrap IntKind.i64 (Int.tdiv t (86400 : Int))) && decide (IntKind.wrap IntKind.i64 (Int.tdiv t (86400 : Int)) < (84371 : Int)) with
        | true =>
         ∀ (y m d : Int),
          dateP (IntKind.wrap IntKind.i64 (Int.tdiv t (86400 : Int))) y m d →
           ∀ (b_1 : Nat),
            (b_1 = b_1 ∧ true = true ∧ 3 = 3 ∧ 3 ≤ 3) ∧
             (86400 : Int) ≠ (0 : Int) ∧
              (b_1 = b_1 ∧ 3 = 3) ∧
               (3600 : Int) ≠ (0 : Int) ∧
                (60 : Int) ≠ (0 : Int) ∧
                 (60 : Int) ≠ (0 : Int) ∧
                  (60 : Int) ≠ (0 : Int) ∧
                   (true = true ∧ true = true) ∧
                    (b = b ∧ true = true ∧ 6 = 6 ∧ 6 ≤ 6) ∧
                     (b = b ∧ 6 = 6) ∧
                      N
                       [Ent.mk (Loc.blk b)
                        (SObj.cells
                         [SV.int IntKind.i64 y, SV.int IntKind.i64 m, SV.int IntKind.i64 d,
                          SV.int IntKind.i64 (IntKind.wrap IntKind.i64 (Int.tdiv (Int.tmod t (86400 : Int)) (3600 : Int))),
                          SV.int IntKind.i64 (Int.tmod (IntKind.wrap IntKind.i64 (Int.tdiv (Int.tmod t (86400 : Int)) (60 : Int))) (60 : Int)),
                          SV.int IntKind.i64 (Int.tmod (Int.tmod t (86400 : Int)) (60 : Int))]
                         61),
                        Ent.mk (Loc.blk b_1) (SObj.cells [SV.int IntKind.i64 y, SV.int IntKind.i64 m, SV.int IntKind.i64 d] 27)]
                       (SV.tuple
                        [SV.agg
                         [SV.int IntKind.i64 y, SV.int IntKind.i64 m, SV.int IntKind.i64 d,
                          SV.int IntKind.i64 (IntKind.wrap IntKind.i64 (Int.tdiv (Int.tmod t (86400 : Int)) (3600 : Int))),
                          SV.int IntKind.i64 (Int.tmod (IntKind.wrap IntKind.i64 (Int.tdiv (Int.tmod t (86400 : Int)) (60 : Int))) (60 : Int)),
                          SV.int IntKind.i64 (Int.tmod (Int.tmod t (86400 : Int)) (60 : Int))],
                         SV.int IntKind.i64 (0 : Int)])
        | false =>
         ∀ (b_1 : Nat),
          (b_1 = b_1 ∧ true = true ∧ 3 = 3 ∧ 3 ≤ 3) ∧
           (86400 : Int) ≠ (0 : Int) ∧
            (b_1 = b_1 ∧ 3 = 3) ∧
             (3600 : Int) ≠ (0 : Int) ∧
              (60 : Int) ≠ (0 : Int) ∧
               (60 : Int) ≠ (0 : Int) ∧
                (60 : Int) ≠ (0 : Int) ∧
                 (true = true ∧ true = true) ∧
                  (b = b ∧ true = true ∧ 6 = 6 ∧ 6 ≤ 6) ∧
                   (b = b ∧ 6 = 6) ∧
                    N
                     [Ent.mk (Loc.blk b)
                      (SObj.cells
                       [SV.int IntKind.i64 (0 : Int), SV.int IntKind.i64 (0 : Int), SV.int IntKind.i64 (0 : Int),
                        SV.int IntKind.i64 (IntKind.wrap IntKind.i64 (Int.tdiv (Int.tmod t (86400 : Int)) (3600 : Int))),
                        SV.int IntKind.i64 (Int.tmod (IntKind.wrap IntKind.i64 (Int.tdiv (Int.tmod t (86400 : Int)) (60 : Int))) (60 : Int)),
                        SV.int IntKind.i64 (Int.tmod (Int.tmod t (86400 : Int)) (60 : Int))]
                       61),
                      Ent.mk (Loc.blk b_1) (SObj.cells [SV.int IntKind.i64 (0 : Int), SV.int IntKind.i64 (0 : Int), SV.int IntKind.i64 (0 : Int)] 27)]
                     (SV.tuple
                      [SV.agg
                       [SV.int IntKind.i64 (0 : Int), SV.int IntKind.i64 (0 : Int), SV.int IntKind.i64 (0 : Int),
                        SV.int IntKind.i64 (IntKind.wrap IntKind.i64 (Int.tdiv (Int.tmod t (86400 : Int)) (3600 : Int))),
                        SV.int IntKind.i64 (Int.tmod (IntKind.wrap IntKind.i64 (Int.tdiv (Int.tmod t (86400 : Int)) (60 : Int))) (60 : Int)),
                        SV.int IntKind.i64 (Int.tmod (Int.tmod t (86400 : Int)) (60 : Int))],
                       SV.int IntKind.i64 (20 : Int)])) := by kernel_rfl


theorem unix_run (K : List Frm → Sy → Prop) (N : List Ent → SV → Prop) (y m d h mi s : Int) : (run Try.prog civ4 true [] K (retP Try.prog Try.f32.results.toList N) 600 [.code (bodyOf Try.f32)] ⟨padTo 45 [.agg [.int .i64 y, .int .i64 m, .int .i64 d, .int .i64 h, .int .i64 mi, .int .i64 s]], []⟩) = (
true = true ∧
 ∀ (b : Nat),
  (b = b ∧ 3 = 3) ∧
   true = true ∧
    match isB y m d with
    | true =>
     b = b ∧
      true = true ∧
       match !inB h (24 : Int) with
       | true =>
        N [Ent.mk (Loc.blk b) (SObj.cells [SV.int IntKind.i64 y, SV.int IntKind.i64 m, SV.int IntKind.i64 d, SV.int IntKind.i64 h, SV.int IntKind.i64 mi, SV.int IntKind.i64 s] 61)]
         (SV.tuple [SV.int IntKind.i64 (0 : Int), SV.int IntKind.i64 (20 : Int)])
       | false =>
        b = b ∧
         true = true ∧
          match !inB mi (60 : Int) with
          | true =>
           N
            [Ent.mk (Loc.blk b)
             (SObj.cells [SV.int IntKind.i64 y, SV.int IntKind.i64 m, SV.int IntKind.i64 d, SV.int IntKind.i64 h, SV.int IntKind.i64 mi, SV.int IntKind.i64 s] 61)]
            (SV.tuple [SV.int IntKind.i64 (0 : Int), SV.int IntKind.i64 (20 : Int)])
          | false =>
           b = b ∧
            true = true ∧
             match !inB s (60 : Int) with
             | true =>
              N
               [Ent.mk (Loc.blk b)
                (SObj.cells [SV.int IntKind.i64 y, SV.int IntKind.i64 m, SV.int IntKind.i64 d, SV.int IntKind.i64 h, SV.int IntKind.i64 mi, SV.int IntKind.i64 s] 61)]
               (SV.tuple [SV.int IntKind.i64 (0 : Int), SV.int IntKind.i64 (20 : Int)])
             | false =>
              b = b ∧
               b = b ∧
                b = b ∧
                 N
                  [Ent.mk (Loc.blk b)
                   (SObj.cells [SV.int IntKind.i64 y, SV.int IntKind.i64 m, SV.int IntKind.i64 d, SV.int IntKind.i64 h, SV.int IntKind.i64 mi, SV.int IntKind.i64 s] 61)]
                  (SV.tuple
                   [SV.int IntKind.i64
                    (IntKind.wrap IntKind.i64
                     (IntKind.wrap IntKind.i64 (daysI y m d * (86400 : Int)) +
                      IntKind.wrap IntKind.i64 (IntKind.wrap IntKind.i64 (IntKind.wrap IntKind.i64 (IntKind.wrap IntKind.i64 (h * (60 : Int)) + mi) * (60 : Int)) + s))),
                    SV.int IntKind.i64 (0 : Int)])
    | false =>
     N [Ent.mk (Loc.blk b) (SObj.cells [SV.int IntKind.i64 y, SV.int IntKind.i64 m, SV.int IntKind.i64 d, SV.int IntKind.i64 h, SV.int IntKind.i64 mi, SV.int IntKind.i64 s] 61)]
      (SV.tuple [SV.int IntKind.i64 (0 : Int), SV.int IntKind.i64 (20 : Int)])) := by kernel_rfl
end Go.Proofs.Ytjnkfgigpapeaaa
