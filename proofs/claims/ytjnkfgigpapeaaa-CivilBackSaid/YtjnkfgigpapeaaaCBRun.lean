import Derived.Test.YtjnkfgigpapeaaaCBC
import Derived.Test.YtjnkfgigpapeaaaTab
namespace Go.Proofs.Ytjnkfgigpapeaaa
set_option linter.unusedVariables false
open Go Go.RowKit
set_option maxHeartbeats 0
set_option maxRecDepth 100000

theorem known2_run (K : List Frm → Sy → Prop) (N : List Ent → SV → Prop) : (run Try.prog civ5 true [] K (retP Try.prog Try.f14.results.toList N) 600 [.code (bodyOf Try.f14)] ⟨padTo 30 [], []⟩) = (
(true = true ∧ true = true) ∧
  true = true ∧
    (true = true ∧ true = true) ∧
      true = true ∧
        true = true ∧ ((-1000000 : Int) ≤ (19782 : Int) ∧ (19782 : Int) ≤ (1000000 : Int)) ∧ true = true ∧ ((-1000000 : Int) ≤ (-1 : Int) ∧ (-1 : Int) ≤ (1000000 : Int)) ∧ N [] (SV.bool true)) := by kernel_rfl

theorem civilBack_run (K : List Frm → Sy → Prop) (N : List Ent → SV → Prop) (a b : Int) : (run Try.prog civ6 true [9, 12] K (retP Try.prog Try.f7.results.toList N) 600 [.code (bodyOf Try.f7)] ⟨padTo 143 [.int .i64 a, .int .i64 b], []⟩) = (
true = true ∧
  true = true ∧
    match decide ((0 : Int) ≤ a) && decide (a < (84371 : Int)) with
    | true =>
      ∀ (y m d : Int),
        dateP a y m d →
          ∀ (b_1 : Nat),
            (b_1 = b_1 ∧ true = true ∧ (3 : Nat) = (3 : Nat) ∧ (3 : Nat) ≤ (3 : Nat)) ∧
              (b_1 = b_1 ∧ (3 : Nat) = (3 : Nat)) ∧
                true = true ∧
                  match isB y m d with
                  | true =>
                    true = true ∧
                      match decide ((0 : Int) ≤ IntKind.wrap IntKind.i64 (a + (1 : Int))) && decide (IntKind.wrap IntKind.i64 (a + (1 : Int)) < (84371 : Int)) with
                      | true =>
                        ∀ (y_1 m_1 d_1 : Int),
                          dateP (IntKind.wrap IntKind.i64 (a + (1 : Int))) y_1 m_1 d_1 →
                            ∀ (b_2 : Nat),
                              (b_2 = b_2 ∧ true = true ∧ (3 : Nat) = (3 : Nat) ∧ (3 : Nat) ≤ (3 : Nat)) ∧
                                match daysI y m d != a with
                                | true =>
                                  N
                                    [Ent.mk (Loc.blk b_1) (SObj.cells [SV.int IntKind.i64 y, SV.int IntKind.i64 m, SV.int IntKind.i64 d] (27 : Nat)),
                                      Ent.mk (Loc.blk b_2) (SObj.cells [SV.int IntKind.i64 y_1, SV.int IntKind.i64 m_1, SV.int IntKind.i64 d_1] (27 : Nat))]
                                    (SV.bool false)
                                | false =>
                                  (b_1 = b_1 ∧ (3 : Nat) = (3 : Nat)) ∧
                                    true = true ∧
                                      match !isB y m d with
                                      | true =>
                                        N
                                          [Ent.mk (Loc.blk b_1) (SObj.cells [SV.int IntKind.i64 y, SV.int IntKind.i64 m, SV.int IntKind.i64 d] (27 : Nat)),
                                            Ent.mk (Loc.blk b_2) (SObj.cells [SV.int IntKind.i64 y_1, SV.int IntKind.i64 m_1, SV.int IntKind.i64 d_1] (27 : Nat))]
                                          (SV.bool false)
                                      | false =>
                                        true = true ∧
                                          ((-1000000 : Int) ≤ IntKind.wrap IntKind.i64 (a + (1 : Int)) ∧ IntKind.wrap IntKind.i64 (a + (1 : Int)) ≤ (1000000 : Int)) ∧
                                            true = true ∧
                                              ((-1000000 : Int) ≤ a ∧ a ≤ (1000000 : Int)) ∧
                                                (7 : Int) ≠ (0 : Int) ∧
                                                  match weekdayI (IntKind.wrap IntKind.i64 (a + (1 : Int))) != Int.tmod (IntKind.wrap IntKind.i64 (weekdayI a + (1 : Int))) (7 : Int) with
                                                  | true =>
                                                    N
                                                      [Ent.mk (Loc.blk b_1) (SObj.cells [SV.int IntKind.i64 y, SV.int IntKind.i64 m, SV.int IntKind.i64 d] (27 : Nat)),
                                                        Ent.mk (Loc.blk b_2) (SObj.cells [SV.int IntKind.i64 y_1, SV.int IntKind.i64 m_1, SV.int IntKind.i64 d_1] (27 : Nat))]
                                                      (SV.bool false)
                                                  | false =>
                                                    K
                                                      [Frm.code (codeAt (bodyOf Try.f7) [(1 : Nat), (1 : Nat), (1 : Nat), (0 : Nat), (1 : Nat), (0 : Nat), (1 : Nat), (1 : Nat), (1 : Nat), (0 : Nat)]),
                                                        Frm.code
                                                          (codeAt (bodyOf Try.f7) [(1 : Nat), (1 : Nat), (1 : Nat), (0 : Nat), (1 : Nat), (0 : Nat), (1 : Nat), (1 : Nat), (1 : Nat), (1 : Nat)]),
                                                        Frm.code (codeAt (bodyOf Try.f7) [(1 : Nat), (1 : Nat), (1 : Nat), (1 : Nat)])]
                                                      (Sy.mk
                                                        [SV.int IntKind.i64 a, SV.int IntKind.i64 b, SV.raw (Value.tuple #[]), SV.raw (Value.tuple #[]), SV.bool false, SV.ptr (0 : Nat) b_1 (0 : Nat),
                                                          SV.int IntKind.i64 (0 : Int), SV.int IntKind.i64 (daysI y m d), SV.int IntKind.i64 (0 : Int), SV.ptr (1 : Nat) b_2 (0 : Nat),
                                                          SV.int IntKind.i64 (0 : Int), SV.raw (Value.tuple #[]), SV.raw (Value.tuple #[]), SV.raw (Value.tuple #[]), SV.raw (Value.tuple #[]),
                                                          SV.bool true, SV.bool false,
                                                          SV.tuple [SV.agg [SV.int IntKind.i64 y, SV.int IntKind.i64 m, SV.int IntKind.i64 d], SV.int IntKind.i64 (0 : Int)], SV.int IntKind.i64 a,
                                                          SV.tuple [SV.agg [SV.int IntKind.i64 y, SV.int IntKind.i64 m, SV.int IntKind.i64 d], SV.int IntKind.i64 (0 : Int)],
                                                          SV.agg [SV.int IntKind.i64 y, SV.int IntKind.i64 m, SV.int IntKind.i64 d], SV.int IntKind.i64 (0 : Int), SV.int IntKind.i64 (0 : Int),
                                                          SV.bool true, SV.tuple [SV.int IntKind.i64 (daysI y m d), SV.int IntKind.i64 (0 : Int)],
                                                          SV.agg [SV.int IntKind.i64 y, SV.int IntKind.i64 m, SV.int IntKind.i64 d],
                                                          SV.tuple [SV.int IntKind.i64 (daysI y m d), SV.int IntKind.i64 (0 : Int)], SV.int IntKind.i64 (daysI y m d), SV.int IntKind.i64 (0 : Int),
                                                          SV.tuple [SV.agg [SV.int IntKind.i64 y_1, SV.int IntKind.i64 m_1, SV.int IntKind.i64 d_1], SV.int IntKind.i64 (0 : Int)],
                                                          SV.int IntKind.i64 a, SV.int IntKind.i64 (IntKind.wrap IntKind.i64 (a + (1 : Int))),
                                                          SV.tuple [SV.agg [SV.int IntKind.i64 y_1, SV.int IntKind.i64 m_1, SV.int IntKind.i64 d_1], SV.int IntKind.i64 (0 : Int)],
                                                          SV.agg [SV.int IntKind.i64 y_1, SV.int IntKind.i64 m_1, SV.int IntKind.i64 d_1], SV.int IntKind.i64 (0 : Int), SV.int IntKind.i64 (0 : Int),
                                                          SV.bool false, SV.bool false, SV.int IntKind.i64 (daysI y m d), SV.int IntKind.i64 a, SV.bool (daysI y m d != a), SV.bool (daysI y m d != a),
                                                          SV.bool false, SV.agg [SV.int IntKind.i64 y, SV.int IntKind.i64 m, SV.int IntKind.i64 d], SV.bool (isB y m d), SV.bool !isB y m d,
                                                          SV.bool !isB y m d, SV.bool false, SV.int IntKind.i64 a, SV.int IntKind.i64 (IntKind.wrap IntKind.i64 (a + (1 : Int))),
                                                          SV.int IntKind.i64 (weekdayI (IntKind.wrap IntKind.i64 (a + (1 : Int)))), SV.int IntKind.i64 a, SV.int IntKind.i64 (weekdayI a),
                                                          SV.int IntKind.i64 (IntKind.wrap IntKind.i64 (weekdayI a + (1 : Int))),
                                                          SV.int IntKind.i64 (Int.tmod (IntKind.wrap IntKind.i64 (weekdayI a + (1 : Int))) (7 : Int)),
                                                          SV.bool (weekdayI (IntKind.wrap IntKind.i64 (a + (1 : Int))) != Int.tmod (IntKind.wrap IntKind.i64 (weekdayI a + (1 : Int))) (7 : Int)),
                                                          SV.bool false, SV.raw (Value.tuple #[]), SV.raw (Value.tuple #[]), SV.raw (Value.tuple #[]), SV.raw (Value.tuple #[]),
                                                          SV.raw (Value.tuple #[]), SV.raw (Value.tuple #[]), SV.raw (Value.tuple #[]), SV.raw (Value.tuple #[]), SV.raw (Value.tuple #[]),
                                                          SV.raw (Value.tuple #[]), SV.raw (Value.tuple #[]), SV.raw (Value.tuple #[]), SV.raw (Value.tuple #[]), SV.raw (Value.tuple #[]),
                                                          SV.raw (Value.tuple #[]), SV.raw (Value.tuple #[]), SV.raw (Value.tuple #[]), SV.raw (Value.tuple #[]), SV.raw (Value.tuple #[]),
                                                          SV.raw (Value.tuple #[]), SV.raw (Value.tuple #[]), SV.raw (Value.tuple #[]), SV.raw (Value.tuple #[]), SV.raw (Value.tuple #[]),
                                                          SV.raw (Value.tuple #[]), SV.raw (Value.tuple #[]), SV.raw (Value.tuple #[]), SV.raw (Value.tuple #[]), SV.raw (Value.tuple #[]),
                                                          SV.raw (Value.tuple #[]), SV.raw (Value.tuple #[]), SV.raw (Value.tuple #[]), SV.raw (Value.tuple #[]), SV.raw (Value.tuple #[]),
                                                          SV.raw (Value.tuple #[]), SV.raw (Value.tuple #[]), SV.raw (Value.tuple #[]), SV.raw (Value.tuple #[]), SV.raw (Value.tuple #[]),
                                                          SV.raw (Value.tuple #[]), SV.raw (Value.tuple #[]), SV.raw (Value.tuple #[]), SV.raw (Value.tuple #[]), SV.raw (Value.tuple #[]),
                                                          SV.raw (Value.tuple #[]), SV.raw (Value.tuple #[]), SV.raw (Value.tuple #[]), SV.raw (Value.tuple #[]), SV.raw (Value.tuple #[]),
                                                          SV.raw (Value.tuple #[]), SV.raw (Value.tuple #[]), SV.raw (Value.tuple #[]), SV.raw (Value.tuple #[]), SV.raw (Value.tuple #[]),
                                                          SV.raw (Value.tuple #[]), SV.raw (Value.tuple #[]), SV.raw (Value.tuple #[]), SV.raw (Value.tuple #[]), SV.raw (Value.tuple #[]),
                                                          SV.raw (Value.tuple #[]), SV.raw (Value.tuple #[]), SV.raw (Value.tuple #[]), SV.raw (Value.tuple #[]), SV.raw (Value.tuple #[]),
                                                          SV.raw (Value.tuple #[]), SV.raw (Value.tuple #[]), SV.raw (Value.tuple #[]), SV.raw (Value.tuple #[]), SV.raw (Value.tuple #[]),
                                                          SV.raw (Value.tuple #[]), SV.raw (Value.tuple #[]), SV.raw (Value.tuple #[]), SV.raw (Value.tuple #[]), SV.raw (Value.tuple #[]),
                                                          SV.raw (Value.tuple #[]), SV.raw (Value.tuple #[]), SV.raw (Value.tuple #[]), SV.raw (Value.tuple #[]), SV.raw (Value.tuple #[]),
                                                          SV.raw (Value.tuple #[]), SV.raw (Value.tuple #[]), SV.raw (Value.tuple #[]), SV.raw (Value.tuple #[]), SV.raw (Value.tuple #[]),
                                                          SV.raw (Value.tuple #[]), SV.raw (Value.tuple #[])]
                                                        [Ent.mk (Loc.blk b_1) (SObj.cells [SV.int IntKind.i64 y, SV.int IntKind.i64 m, SV.int IntKind.i64 d] (27 : Nat)),
                                                          Ent.mk (Loc.blk b_2) (SObj.cells [SV.int IntKind.i64 y_1, SV.int IntKind.i64 m_1, SV.int IntKind.i64 d_1] (27 : Nat))])
                      | false =>
                        ∀ (b_2 : Nat),
                          (b_2 = b_2 ∧ true = true ∧ (3 : Nat) = (3 : Nat) ∧ (3 : Nat) ≤ (3 : Nat)) ∧
                            match daysI y m d != a with
                            | true =>
                              N
                                [Ent.mk (Loc.blk b_1) (SObj.cells [SV.int IntKind.i64 y, SV.int IntKind.i64 m, SV.int IntKind.i64 d] (27 : Nat)),
                                  Ent.mk (Loc.blk b_2) (SObj.cells [SV.int IntKind.i64 (0 : Int), SV.int IntKind.i64 (0 : Int), SV.int IntKind.i64 (0 : Int)] (27 : Nat))]
                                (SV.bool false)
                            | false =>
                              (b_1 = b_1 ∧ (3 : Nat) = (3 : Nat)) ∧
                                true = true ∧
                                  match !isB y m d with
                                  | true =>
                                    N
                                      [Ent.mk (Loc.blk b_1) (SObj.cells [SV.int IntKind.i64 y, SV.int IntKind.i64 m, SV.int IntKind.i64 d] (27 : Nat)),
                                        Ent.mk (Loc.blk b_2) (SObj.cells [SV.int IntKind.i64 (0 : Int), SV.int IntKind.i64 (0 : Int), SV.int IntKind.i64 (0 : Int)] (27 : Nat))]
                                      (SV.bool false)
                                  | false =>
                                    true = true ∧
                                      ((-1000000 : Int) ≤ IntKind.wrap IntKind.i64 (a + (1 : Int)) ∧ IntKind.wrap IntKind.i64 (a + (1 : Int)) ≤ (1000000 : Int)) ∧
                                        true = true ∧
                                          ((-1000000 : Int) ≤ a ∧ a ≤ (1000000 : Int)) ∧
                                            (7 : Int) ≠ (0 : Int) ∧
                                              match weekdayI (IntKind.wrap IntKind.i64 (a + (1 : Int))) != Int.tmod (IntKind.wrap IntKind.i64 (weekdayI a + (1 : Int))) (7 : Int) with
                                              | true =>
                                                N
                                                  [Ent.mk (Loc.blk b_1) (SObj.cells [SV.int IntKind.i64 y, SV.int IntKind.i64 m, SV.int IntKind.i64 d] (27 : Nat)),
                                                    Ent.mk (Loc.blk b_2) (SObj.cells [SV.int IntKind.i64 (0 : Int), SV.int IntKind.i64 (0 : Int), SV.int IntKind.i64 (0 : Int)] (27 : Nat))]
                                                  (SV.bool false)
                                              | false =>
                                                K
                                                  [Frm.code (codeAt (bodyOf Try.f7) [(1 : Nat), (1 : Nat), (1 : Nat), (0 : Nat), (1 : Nat), (0 : Nat), (1 : Nat), (1 : Nat), (1 : Nat), (0 : Nat)]),
                                                    Frm.code (codeAt (bodyOf Try.f7) [(1 : Nat), (1 : Nat), (1 : Nat), (0 : Nat), (1 : Nat), (0 : Nat), (1 : Nat), (1 : Nat), (1 : Nat), (1 : Nat)]),
                                                    Frm.code (codeAt (bodyOf Try.f7) [(1 : Nat), (1 : Nat), (1 : Nat), (1 : Nat)])]
                                                  (Sy.mk
                                                    [SV.int IntKind.i64 a, SV.int IntKind.i64 b, SV.raw (Value.tuple #[]), SV.raw (Value.tuple #[]), SV.bool false, SV.ptr (0 : Nat) b_1 (0 : Nat),
                                                      SV.int IntKind.i64 (0 : Int), SV.int IntKind.i64 (daysI y m d), SV.int IntKind.i64 (0 : Int), SV.ptr (1 : Nat) b_2 (0 : Nat),
                                                      SV.int IntKind.i64 (20 : Int), SV.raw (Value.tuple #[]), SV.raw (Value.tuple #[]), SV.raw (Value.tuple #[]), SV.raw (Value.tuple #[]),
                                                      SV.bool true, SV.bool false, SV.tuple [SV.agg [SV.int IntKind.i64 y, SV.int IntKind.i64 m, SV.int IntKind.i64 d], SV.int IntKind.i64 (0 : Int)],
                                                      SV.int IntKind.i64 a, SV.tuple [SV.agg [SV.int IntKind.i64 y, SV.int IntKind.i64 m, SV.int IntKind.i64 d], SV.int IntKind.i64 (0 : Int)],
                                                      SV.agg [SV.int IntKind.i64 y, SV.int IntKind.i64 m, SV.int IntKind.i64 d], SV.int IntKind.i64 (0 : Int), SV.int IntKind.i64 (0 : Int),
                                                      SV.bool true, SV.tuple [SV.int IntKind.i64 (daysI y m d), SV.int IntKind.i64 (0 : Int)],
                                                      SV.agg [SV.int IntKind.i64 y, SV.int IntKind.i64 m, SV.int IntKind.i64 d],
                                                      SV.tuple [SV.int IntKind.i64 (daysI y m d), SV.int IntKind.i64 (0 : Int)], SV.int IntKind.i64 (daysI y m d), SV.int IntKind.i64 (0 : Int),
                                                      SV.tuple [SV.agg [SV.int IntKind.i64 (0 : Int), SV.int IntKind.i64 (0 : Int), SV.int IntKind.i64 (0 : Int)], SV.int IntKind.i64 (20 : Int)],
                                                      SV.int IntKind.i64 a, SV.int IntKind.i64 (IntKind.wrap IntKind.i64 (a + (1 : Int))),
                                                      SV.tuple [SV.agg [SV.int IntKind.i64 (0 : Int), SV.int IntKind.i64 (0 : Int), SV.int IntKind.i64 (0 : Int)], SV.int IntKind.i64 (20 : Int)],
                                                      SV.agg [SV.int IntKind.i64 (0 : Int), SV.int IntKind.i64 (0 : Int), SV.int IntKind.i64 (0 : Int)], SV.int IntKind.i64 (20 : Int),
                                                      SV.int IntKind.i64 (0 : Int), SV.bool false, SV.bool false, SV.int IntKind.i64 (daysI y m d), SV.int IntKind.i64 a, SV.bool (daysI y m d != a),
                                                      SV.bool (daysI y m d != a), SV.bool false, SV.agg [SV.int IntKind.i64 y, SV.int IntKind.i64 m, SV.int IntKind.i64 d], SV.bool (isB y m d),
                                                      SV.bool !isB y m d, SV.bool !isB y m d, SV.bool false, SV.int IntKind.i64 a, SV.int IntKind.i64 (IntKind.wrap IntKind.i64 (a + (1 : Int))),
                                                      SV.int IntKind.i64 (weekdayI (IntKind.wrap IntKind.i64 (a + (1 : Int)))), SV.int IntKind.i64 a, SV.int IntKind.i64 (weekdayI a),
                                                      SV.int IntKind.i64 (IntKind.wrap IntKind.i64 (weekdayI a + (1 : Int))),
                                                      SV.int IntKind.i64 (Int.tmod (IntKind.wrap IntKind.i64 (weekdayI a + (1 : Int))) (7 : Int)),
                                                      SV.bool (weekdayI (IntKind.wrap IntKind.i64 (a + (1 : Int))) != Int.tmod (IntKind.wrap IntKind.i64 (weekdayI a + (1 : Int))) (7 : Int)),
                                                      SV.bool false, SV.raw (Value.tuple #[]), SV.raw (Value.tuple #[]), SV.raw (Value.tuple #[]), SV.raw (Value.tuple #[]), SV.raw (Value.tuple #[]),
                                                      SV.raw (Value.tuple #[]), SV.raw (Value.tuple #[]), SV.raw (Value.tuple #[]), SV.raw (Value.tuple #[]), SV.raw (Value.tuple #[]),
                                                      SV.raw (Value.tuple #[]), SV.raw (Value.tuple #[]), SV.raw (Value.tuple #[]), SV.raw (Value.tuple #[]), SV.raw (Value.tuple #[]),
                                                      SV.raw (Value.tuple #[]), SV.raw (Value.tuple #[]), SV.raw (Value.tuple #[]), SV.raw (Value.tuple #[]), SV.raw (Value.tuple #[]),
                                                      SV.raw (Value.tuple #[]), SV.raw (Value.tuple #[]), SV.raw (Value.tuple #[]), SV.raw (Value.tuple #[]), SV.raw (Value.tuple #[]),
                                                      SV.raw (Value.tuple #[]), SV.raw (Value.tuple #[]), SV.raw (Value.tuple #[]), SV.raw (Value.tuple #[]), SV.raw (Value.tuple #[]),
                                                      SV.raw (Value.tuple #[]), SV.raw (Value.tuple #[]), SV.raw (Value.tuple #[]), SV.raw (Value.tuple #[]), SV.raw (Value.tuple #[]),
                                                      SV.raw (Value.tuple #[]), SV.raw (Value.tuple #[]), SV.raw (Value.tuple #[]), SV.raw (Value.tuple #[]), SV.raw (Value.tuple #[]),
                                                      SV.raw (Value.tuple #[]), SV.raw (Value.tuple #[]), SV.raw (Value.tuple #[]), SV.raw (Value.tuple #[]), SV.raw (Value.tuple #[]),
                                                      SV.raw (Value.tuple #[]), SV.raw (Value.tuple #[]), SV.raw (Value.tuple #[]), SV.raw (Value.tuple #[]), SV.raw (Value.tuple #[]),
                                                      SV.raw (Value.tuple #[]), SV.raw (Value.tuple #[]), SV.raw (Value.tuple #[]), SV.raw (Value.tuple #[]), SV.raw (Value.tuple #[]),
                                                      SV.raw (Value.tuple #[]), SV.raw (Value.tuple #[]), SV.raw (Value.tuple #[]), SV.raw (Value.tuple #[]), SV.raw (Value.tuple #[]),
                                                      SV.raw (Value.tuple #[]), SV.raw (Value.tuple #[]), SV.raw (Value.tuple #[]), SV.raw (Value.tuple #[]), SV.raw (Value.tuple #[]),
                                                      SV.raw (Value.tuple #[]), SV.raw (Value.tuple #[]), SV.raw (Value.tuple #[]), SV.raw (Value.tuple #[]), SV.raw (Value.tuple #[]),
                                                      SV.raw (Value.tuple #[]), SV.raw (Value.tuple #[]), SV.raw (Value.tuple #[]), SV.raw (Value.tuple #[]), SV.raw (Value.tuple #[]),
                                                      SV.raw (Value.tuple #[]), SV.raw (Value.tuple #[]), SV.raw (Value.tuple #[]), SV.raw (Value.tuple #[]), SV.raw (Value.tuple #[]),
                                                      SV.raw (Value.tuple #[]), SV.raw (Value.tuple #[]), SV.raw (Value.tuple #[]), SV.raw (Value.tuple #[]), SV.raw (Value.tuple #[]),
                                                      SV.raw (Value.tuple #[])]
                                                    [Ent.mk (Loc.blk b_1) (SObj.cells [SV.int IntKind.i64 y, SV.int IntKind.i64 m, SV.int IntKind.i64 d] (27 : Nat)),
                                                      Ent.mk (Loc.blk b_2) (SObj.cells [SV.int IntKind.i64 (0 : Int), SV.int IntKind.i64 (0 : Int), SV.int IntKind.i64 (0 : Int)] (27 : Nat))])
                  | false =>
                    true = true ∧
                      match decide ((0 : Int) ≤ IntKind.wrap IntKind.i64 (a + (1 : Int))) && decide (IntKind.wrap IntKind.i64 (a + (1 : Int)) < (84371 : Int)) with
                      | true =>
                        ∀ (y_1 m_1 d_1 : Int),
                          dateP (IntKind.wrap IntKind.i64 (a + (1 : Int))) y_1 m_1 d_1 →
                            ∀ (b : Nat),
                              (b = b ∧ true = true ∧ (3 : Nat) = (3 : Nat) ∧ (3 : Nat) ≤ (3 : Nat)) ∧
                                N
                                  [Ent.mk (Loc.blk b_1) (SObj.cells [SV.int IntKind.i64 y, SV.int IntKind.i64 m, SV.int IntKind.i64 d] (27 : Nat)),
                                    Ent.mk (Loc.blk b) (SObj.cells [SV.int IntKind.i64 y_1, SV.int IntKind.i64 m_1, SV.int IntKind.i64 d_1] (27 : Nat))]
                                  (SV.bool false)
                      | false =>
                        ∀ (b : Nat),
                          (b = b ∧ true = true ∧ (3 : Nat) = (3 : Nat) ∧ (3 : Nat) ≤ (3 : Nat)) ∧
                            N
                              [Ent.mk (Loc.blk b_1) (SObj.cells [SV.int IntKind.i64 y, SV.int IntKind.i64 m, SV.int IntKind.i64 d] (27 : Nat)),
                                Ent.mk (Loc.blk b) (SObj.cells [SV.int IntKind.i64 (0 : Int), SV.int IntKind.i64 (0 : Int), SV.int IntKind.i64 (0 : Int)] (27 : Nat))]
                              (SV.bool false)
    | false =>
      ∀ (b_1 : Nat),
        (b_1 = b_1 ∧ true = true ∧ (3 : Nat) = (3 : Nat) ∧ (3 : Nat) ≤ (3 : Nat)) ∧
          K [Frm.code (codeAt (bodyOf Try.f7) [(1 : Nat), (1 : Nat), (1 : Nat), (1 : Nat), (0 : Nat)]), Frm.code (codeAt (bodyOf Try.f7) [(1 : Nat), (1 : Nat), (1 : Nat), (1 : Nat), (1 : Nat)])]
            (Sy.mk
              [SV.int IntKind.i64 a, SV.int IntKind.i64 b, SV.raw (Value.tuple #[]), SV.raw (Value.tuple #[]), SV.bool false, SV.ptr (0 : Nat) b_1 (0 : Nat), SV.int IntKind.i64 (20 : Int),
                SV.raw (Value.tuple #[]), SV.raw (Value.tuple #[]), SV.raw (Value.tuple #[]), SV.raw (Value.tuple #[]), SV.raw (Value.tuple #[]), SV.raw (Value.tuple #[]), SV.raw (Value.tuple #[]),
                SV.raw (Value.tuple #[]), SV.bool true, SV.bool false,
                SV.tuple [SV.agg [SV.int IntKind.i64 (0 : Int), SV.int IntKind.i64 (0 : Int), SV.int IntKind.i64 (0 : Int)], SV.int IntKind.i64 (20 : Int)], SV.int IntKind.i64 a,
                SV.tuple [SV.agg [SV.int IntKind.i64 (0 : Int), SV.int IntKind.i64 (0 : Int), SV.int IntKind.i64 (0 : Int)], SV.int IntKind.i64 (20 : Int)],
                SV.agg [SV.int IntKind.i64 (0 : Int), SV.int IntKind.i64 (0 : Int), SV.int IntKind.i64 (0 : Int)], SV.int IntKind.i64 (20 : Int), SV.int IntKind.i64 (20 : Int), SV.bool false,
                SV.raw (Value.tuple #[]), SV.raw (Value.tuple #[]), SV.raw (Value.tuple #[]), SV.raw (Value.tuple #[]), SV.raw (Value.tuple #[]), SV.raw (Value.tuple #[]), SV.raw (Value.tuple #[]),
                SV.raw (Value.tuple #[]), SV.raw (Value.tuple #[]), SV.raw (Value.tuple #[]), SV.raw (Value.tuple #[]), SV.raw (Value.tuple #[]), SV.raw (Value.tuple #[]), SV.raw (Value.tuple #[]),
                SV.raw (Value.tuple #[]), SV.raw (Value.tuple #[]), SV.raw (Value.tuple #[]), SV.raw (Value.tuple #[]), SV.raw (Value.tuple #[]), SV.raw (Value.tuple #[]), SV.raw (Value.tuple #[]),
                SV.raw (Value.tuple #[]), SV.raw (Value.tuple #[]), SV.raw (Value.tuple #[]), SV.raw (Value.tuple #[]), SV.raw (Value.tuple #[]), SV.raw (Value.tuple #[]), SV.raw (Value.tuple #[]),
                SV.raw (Value.tuple #[]), SV.raw (Value.tuple #[]), SV.raw (Value.tuple #[]), SV.raw (Value.tuple #[]), SV.raw (Value.tuple #[]), SV.raw (Value.tuple #[]), SV.raw (Value.tuple #[]),
                SV.raw (Value.tuple #[]), SV.raw (Value.tuple #[]), SV.raw (Value.tuple #[]), SV.raw (Value.tuple #[]), SV.raw (Value.tuple #[]), SV.raw (Value.tuple #[]), SV.raw (Value.tuple #[]),
                SV.raw (Value.tuple #[]), SV.raw (Value.tuple #[]), SV.raw (Value.tuple #[]), SV.raw (Value.tuple #[]), SV.raw (Value.tuple #[]), SV.raw (Value.tuple #[]), SV.raw (Value.tuple #[]),
                SV.raw (Value.tuple #[]), SV.raw (Value.tuple #[]), SV.raw (Value.tuple #[]), SV.raw (Value.tuple #[]), SV.raw (Value.tuple #[]), SV.raw (Value.tuple #[]), SV.raw (Value.tuple #[]),
                SV.raw (Value.tuple #[]), SV.raw (Value.tuple #[]), SV.raw (Value.tuple #[]), SV.raw (Value.tuple #[]), SV.raw (Value.tuple #[]), SV.raw (Value.tuple #[]), SV.raw (Value.tuple #[]),
                SV.raw (Value.tuple #[]), SV.raw (Value.tuple #[]), SV.raw (Value.tuple #[]), SV.raw (Value.tuple #[]), SV.raw (Value.tuple #[]), SV.raw (Value.tuple #[]), SV.raw (Value.tuple #[]),
                SV.raw (Value.tuple #[]), SV.raw (Value.tuple #[]), SV.raw (Value.tuple #[]), SV.raw (Value.tuple #[]), SV.raw (Value.tuple #[]), SV.raw (Value.tuple #[]), SV.raw (Value.tuple #[]),
                SV.raw (Value.tuple #[]), SV.raw (Value.tuple #[]), SV.raw (Value.tuple #[]), SV.raw (Value.tuple #[]), SV.raw (Value.tuple #[]), SV.raw (Value.tuple #[]), SV.raw (Value.tuple #[]),
                SV.raw (Value.tuple #[]), SV.raw (Value.tuple #[]), SV.raw (Value.tuple #[]), SV.raw (Value.tuple #[]), SV.raw (Value.tuple #[]), SV.raw (Value.tuple #[]), SV.raw (Value.tuple #[]),
                SV.raw (Value.tuple #[]), SV.raw (Value.tuple #[]), SV.raw (Value.tuple #[]), SV.raw (Value.tuple #[]), SV.raw (Value.tuple #[]), SV.raw (Value.tuple #[]), SV.raw (Value.tuple #[]),
                SV.raw (Value.tuple #[]), SV.raw (Value.tuple #[]), SV.raw (Value.tuple #[]), SV.raw (Value.tuple #[]), SV.raw (Value.tuple #[]), SV.raw (Value.tuple #[]), SV.raw (Value.tuple #[]),
                SV.raw (Value.tuple #[]), SV.raw (Value.tuple #[]), SV.raw (Value.tuple #[]), SV.raw (Value.tuple #[]), SV.raw (Value.tuple #[]), SV.raw (Value.tuple #[]), SV.raw (Value.tuple #[]),
                SV.raw (Value.tuple #[]), SV.raw (Value.tuple #[]), SV.raw (Value.tuple #[]), SV.raw (Value.tuple #[]), SV.raw (Value.tuple #[]), SV.raw (Value.tuple #[]), SV.raw (Value.tuple #[])]
              [Ent.mk (Loc.blk b_1) (SObj.cells [SV.int IntKind.i64 (0 : Int), SV.int IntKind.i64 (0 : Int), SV.int IntKind.i64 (0 : Int)] (27 : Nat))])) := by kernel_rfl

theorem civilBack_mid (K : List Frm → Sy → Prop) (N : List Ent → SV → Prop) (u : Nat → Value) (p q : Nat) (a b y m d y2 m2 d2 e : Int) : (run Try.prog civ6 true [12] K (retP Try.prog Try.f7.results.toList N) 600 [.code (codeAt (bodyOf Try.f7) [1, 1, 1, 0, 1, 0, 1, 1, 1, 0]), .code (codeAt (bodyOf Try.f7) [1, 1, 1, 0, 1, 0, 1, 1, 1, 1]), .code (codeAt (bodyOf Try.f7) [1, 1, 1, 1])] ⟨mkT u 143 0 [(0, .int .i64 a), (1, .int .i64 b), (4, .bool false), (5, .ptr 0 p 0), (9, .ptr 1 q 0), (10, .int .i64 e)], [⟨.blk p, .cells [.int .i64 y, .int .i64 m, .int .i64 d] 27⟩, ⟨.blk q, .cells [.int .i64 y2, .int .i64 m2, .int .i64 d2] 27⟩]⟩) = (
q = q ∧
  p = p ∧
    match d2 == IntKind.wrap IntKind.i64 (d + (1 : Int)) with
    | true =>
      q = q ∧
        p = p ∧
          match m2 == m with
          | true =>
            q = q ∧
              p = p ∧
                match y2 == y with
                | true =>
                  true = true ∧
                    true = true ∧
                      true = true ∧
                        true = true ∧
                          true = true ∧
                            true = true ∧
                              true = true ∧
                                true = true ∧
                                  true = true ∧
                                    true = true ∧
                                      true = true ∧
                                        true = true ∧
                                          true = true ∧
                                            true = true ∧
                                              true = true ∧
                                                true = true ∧
                                                  true = true ∧
                                                    true = true ∧
                                                      true = true ∧
                                                        true = true ∧
                                                          true = true ∧
                                                            true = true ∧
                                                              true = true ∧
                                                                true = true ∧
                                                                  true = true ∧
                                                                    true = true ∧
                                                                      true = true ∧
                                                                        true = true ∧
                                                                          true = true ∧
                                                                            true = true ∧
                                                                              true = true ∧
                                                                                match e == (0 : Int) with
                                                                                | true =>
                                                                                  K
                                                                                    [Frm.code (codeAt (bodyOf Try.f7) [(1 : Nat), (1 : Nat), (1 : Nat), (1 : Nat), (0 : Nat)]),
                                                                                      Frm.code (codeAt (bodyOf Try.f7) [(1 : Nat), (1 : Nat), (1 : Nat), (1 : Nat), (1 : Nat)])]
                                                                                    (Sy.mk
                                                                                      [SV.int IntKind.i64 a, SV.int IntKind.i64 b, SV.raw (u (2 : Nat)), SV.raw (u (3 : Nat)), SV.bool false,
                                                                                        SV.ptr (0 : Nat) p (0 : Nat), SV.raw (u (6 : Nat)), SV.raw (u (7 : Nat)), SV.raw (u (8 : Nat)),
                                                                                        SV.ptr (1 : Nat) q (0 : Nat), SV.int IntKind.i64 e, SV.bool true, SV.raw (u (12 : Nat)), SV.raw (u (13 : Nat)),
                                                                                        SV.raw (u (14 : Nat)), SV.raw (u (15 : Nat)), SV.raw (u (16 : Nat)), SV.raw (u (17 : Nat)),
                                                                                        SV.raw (u (18 : Nat)), SV.raw (u (19 : Nat)), SV.raw (u (20 : Nat)), SV.raw (u (21 : Nat)),
                                                                                        SV.raw (u (22 : Nat)), SV.raw (u (23 : Nat)), SV.raw (u (24 : Nat)), SV.raw (u (25 : Nat)),
                                                                                        SV.raw (u (26 : Nat)), SV.raw (u (27 : Nat)), SV.raw (u (28 : Nat)), SV.raw (u (29 : Nat)),
                                                                                        SV.raw (u (30 : Nat)), SV.raw (u (31 : Nat)), SV.raw (u (32 : Nat)), SV.raw (u (33 : Nat)),
                                                                                        SV.raw (u (34 : Nat)), SV.raw (u (35 : Nat)), SV.raw (u (36 : Nat)), SV.raw (u (37 : Nat)),
                                                                                        SV.raw (u (38 : Nat)), SV.raw (u (39 : Nat)), SV.raw (u (40 : Nat)), SV.raw (u (41 : Nat)),
                                                                                        SV.raw (u (42 : Nat)), SV.raw (u (43 : Nat)), SV.raw (u (44 : Nat)), SV.raw (u (45 : Nat)),
                                                                                        SV.raw (u (46 : Nat)), SV.raw (u (47 : Nat)), SV.raw (u (48 : Nat)), SV.raw (u (49 : Nat)),
                                                                                        SV.raw (u (50 : Nat)), SV.raw (u (51 : Nat)), SV.raw (u (52 : Nat)), SV.raw (u (53 : Nat)),
                                                                                        SV.raw (u (54 : Nat)), SV.raw (u (55 : Nat)), SV.raw (u (56 : Nat)), SV.ptr (1 : Nat) q (2 : Nat),
                                                                                        SV.int IntKind.i64 d2, SV.ptr (0 : Nat) p (2 : Nat), SV.int IntKind.i64 d,
                                                                                        SV.int IntKind.i64 (IntKind.wrap IntKind.i64 (d + (1 : Int))),
                                                                                        SV.bool (d2 == IntKind.wrap IntKind.i64 (d + (1 : Int))), SV.bool true, SV.ptr (1 : Nat) q (1 : Nat),
                                                                                        SV.int IntKind.i64 m2, SV.ptr (0 : Nat) p (1 : Nat), SV.int IntKind.i64 m, SV.bool (m2 == m), SV.bool (m2 == m),
                                                                                        SV.bool true, SV.ptr (1 : Nat) q (0 : Nat), SV.int IntKind.i64 y2, SV.ptr (0 : Nat) p (0 : Nat),
                                                                                        SV.int IntKind.i64 y, SV.bool (y2 == y), SV.bool (y2 == y), SV.bool true, SV.raw (Value.tuple #[]),
                                                                                        SV.raw (Value.tuple #[]), SV.raw (Value.tuple #[]), SV.raw (Value.tuple #[]), SV.raw (Value.tuple #[]),
                                                                                        SV.raw (Value.tuple #[]), SV.raw (Value.tuple #[]), SV.raw (Value.tuple #[]), SV.raw (Value.tuple #[]),
                                                                                        SV.raw (Value.tuple #[]), SV.raw (Value.tuple #[]), SV.raw (Value.tuple #[]), SV.raw (Value.tuple #[]),
                                                                                        SV.raw (Value.tuple #[]), SV.raw (Value.tuple #[]), SV.raw (Value.tuple #[]), SV.raw (Value.tuple #[]),
                                                                                        SV.raw (Value.tuple #[]), SV.raw (Value.tuple #[]), SV.raw (Value.tuple #[]), SV.raw (Value.tuple #[]),
                                                                                        SV.raw (Value.tuple #[]), SV.raw (Value.tuple #[]), SV.raw (Value.tuple #[]), SV.raw (Value.tuple #[]),
                                                                                        SV.raw (Value.tuple #[]), SV.raw (Value.tuple #[]), SV.raw (Value.tuple #[]), SV.raw (Value.tuple #[]),
                                                                                        SV.raw (Value.tuple #[]), SV.raw (Value.tuple #[]), SV.raw (Value.tuple #[]), SV.raw (Value.tuple #[]),
                                                                                        SV.raw (Value.tuple #[]), SV.raw (Value.tuple #[]), SV.raw (Value.tuple #[]), SV.bool true,
                                                                                        SV.int IntKind.i64 e, SV.bool (e == (0 : Int)), SV.bool true, SV.bool true, SV.bool false, SV.bool false,
                                                                                        SV.raw (u (121 : Nat)), SV.raw (u (122 : Nat)), SV.raw (u (123 : Nat)), SV.raw (u (124 : Nat)),
                                                                                        SV.raw (u (125 : Nat)), SV.raw (u (126 : Nat)), SV.raw (u (127 : Nat)), SV.raw (u (128 : Nat)),
                                                                                        SV.raw (u (129 : Nat)), SV.raw (u (130 : Nat)), SV.raw (u (131 : Nat)), SV.raw (u (132 : Nat)),
                                                                                        SV.raw (u (133 : Nat)), SV.raw (u (134 : Nat)), SV.raw (u (135 : Nat)), SV.raw (u (136 : Nat)),
                                                                                        SV.raw (u (137 : Nat)), SV.raw (u (138 : Nat)), SV.raw (u (139 : Nat)), SV.raw (u (140 : Nat)),
                                                                                        SV.raw (u (141 : Nat)), SV.raw (u (142 : Nat))]
                                                                                      [Ent.mk (Loc.blk p) (SObj.cells [SV.int IntKind.i64 y, SV.int IntKind.i64 m, SV.int IntKind.i64 d] (27 : TypeId)),
                                                                                        Ent.mk (Loc.blk q)
                                                                                          (SObj.cells [SV.int IntKind.i64 y2, SV.int IntKind.i64 m2, SV.int IntKind.i64 d2] (27 : TypeId))])
                                                                                | false =>
                                                                                  K
                                                                                    [Frm.code (codeAt (bodyOf Try.f7) [(1 : Nat), (1 : Nat), (1 : Nat), (1 : Nat), (0 : Nat)]),
                                                                                      Frm.code (codeAt (bodyOf Try.f7) [(1 : Nat), (1 : Nat), (1 : Nat), (1 : Nat), (1 : Nat)])]
                                                                                    (Sy.mk
                                                                                      [SV.int IntKind.i64 a, SV.int IntKind.i64 b, SV.raw (u (2 : Nat)), SV.raw (u (3 : Nat)), SV.bool false,
                                                                                        SV.ptr (0 : Nat) p (0 : Nat), SV.raw (u (6 : Nat)), SV.raw (u (7 : Nat)), SV.raw (u (8 : Nat)),
                                                                                        SV.ptr (1 : Nat) q (0 : Nat), SV.int IntKind.i64 e, SV.bool true, SV.raw (u (12 : Nat)), SV.raw (u (13 : Nat)),
                                                                                        SV.raw (u (14 : Nat)), SV.raw (u (15 : Nat)), SV.raw (u (16 : Nat)), SV.raw (u (17 : Nat)),
                                                                                        SV.raw (u (18 : Nat)), SV.raw (u (19 : Nat)), SV.raw (u (20 : Nat)), SV.raw (u (21 : Nat)),
                                                                                        SV.raw (u (22 : Nat)), SV.raw (u (23 : Nat)), SV.raw (u (24 : Nat)), SV.raw (u (25 : Nat)),
                                                                                        SV.raw (u (26 : Nat)), SV.raw (u (27 : Nat)), SV.raw (u (28 : Nat)), SV.raw (u (29 : Nat)),
                                                                                        SV.raw (u (30 : Nat)), SV.raw (u (31 : Nat)), SV.raw (u (32 : Nat)), SV.raw (u (33 : Nat)),
                                                                                        SV.raw (u (34 : Nat)), SV.raw (u (35 : Nat)), SV.raw (u (36 : Nat)), SV.raw (u (37 : Nat)),
                                                                                        SV.raw (u (38 : Nat)), SV.raw (u (39 : Nat)), SV.raw (u (40 : Nat)), SV.raw (u (41 : Nat)),
                                                                                        SV.raw (u (42 : Nat)), SV.raw (u (43 : Nat)), SV.raw (u (44 : Nat)), SV.raw (u (45 : Nat)),
                                                                                        SV.raw (u (46 : Nat)), SV.raw (u (47 : Nat)), SV.raw (u (48 : Nat)), SV.raw (u (49 : Nat)),
                                                                                        SV.raw (u (50 : Nat)), SV.raw (u (51 : Nat)), SV.raw (u (52 : Nat)), SV.raw (u (53 : Nat)),
                                                                                        SV.raw (u (54 : Nat)), SV.raw (u (55 : Nat)), SV.raw (u (56 : Nat)), SV.ptr (1 : Nat) q (2 : Nat),
                                                                                        SV.int IntKind.i64 d2, SV.ptr (0 : Nat) p (2 : Nat), SV.int IntKind.i64 d,
                                                                                        SV.int IntKind.i64 (IntKind.wrap IntKind.i64 (d + (1 : Int))),
                                                                                        SV.bool (d2 == IntKind.wrap IntKind.i64 (d + (1 : Int))), SV.bool true, SV.ptr (1 : Nat) q (1 : Nat),
                                                                                        SV.int IntKind.i64 m2, SV.ptr (0 : Nat) p (1 : Nat), SV.int IntKind.i64 m, SV.bool (m2 == m), SV.bool (m2 == m),
                                                                                        SV.bool true, SV.ptr (1 : Nat) q (0 : Nat), SV.int IntKind.i64 y2, SV.ptr (0 : Nat) p (0 : Nat),
                                                                                        SV.int IntKind.i64 y, SV.bool (y2 == y), SV.bool (y2 == y), SV.bool true, SV.raw (Value.tuple #[]),
                                                                                        SV.raw (Value.tuple #[]), SV.raw (Value.tuple #[]), SV.raw (Value.tuple #[]), SV.raw (Value.tuple #[]),
                                                                                        SV.raw (Value.tuple #[]), SV.raw (Value.tuple #[]), SV.raw (Value.tuple #[]), SV.raw (Value.tuple #[]),
                                                                                        SV.raw (Value.tuple #[]), SV.raw (Value.tuple #[]), SV.raw (Value.tuple #[]), SV.raw (Value.tuple #[]),
                                                                                        SV.raw (Value.tuple #[]), SV.raw (Value.tuple #[]), SV.raw (Value.tuple #[]), SV.raw (Value.tuple #[]),
                                                                                        SV.raw (Value.tuple #[]), SV.raw (Value.tuple #[]), SV.raw (Value.tuple #[]), SV.raw (Value.tuple #[]),
                                                                                        SV.raw (Value.tuple #[]), SV.raw (Value.tuple #[]), SV.raw (Value.tuple #[]), SV.raw (Value.tuple #[]),
                                                                                        SV.raw (Value.tuple #[]), SV.raw (Value.tuple #[]), SV.raw (Value.tuple #[]), SV.raw (Value.tuple #[]),
                                                                                        SV.raw (Value.tuple #[]), SV.raw (Value.tuple #[]), SV.raw (Value.tuple #[]), SV.raw (Value.tuple #[]),
                                                                                        SV.raw (Value.tuple #[]), SV.raw (Value.tuple #[]), SV.raw (Value.tuple #[]), SV.bool true,
                                                                                        SV.int IntKind.i64 e, SV.bool (e == (0 : Int)), SV.bool false, SV.raw (Value.tuple #[]),
                                                                                        SV.raw (Value.tuple #[]), SV.bool false, SV.raw (u (121 : Nat)), SV.raw (u (122 : Nat)), SV.raw (u (123 : Nat)),
                                                                                        SV.raw (u (124 : Nat)), SV.raw (u (125 : Nat)), SV.raw (u (126 : Nat)), SV.raw (u (127 : Nat)),
                                                                                        SV.raw (u (128 : Nat)), SV.raw (u (129 : Nat)), SV.raw (u (130 : Nat)), SV.raw (u (131 : Nat)),
                                                                                        SV.raw (u (132 : Nat)), SV.raw (u (133 : Nat)), SV.raw (u (134 : Nat)), SV.raw (u (135 : Nat)),
                                                                                        SV.raw (u (136 : Nat)), SV.raw (u (137 : Nat)), SV.raw (u (138 : Nat)), SV.raw (u (139 : Nat)),
                                                                                        SV.raw (u (140 : Nat)), SV.raw (u (141 : Nat)), SV.raw (u (142 : Nat))]
                                                                                      [Ent.mk (Loc.blk p) (SObj.cells [SV.int IntKind.i64 y, SV.int IntKind.i64 m, SV.int IntKind.i64 d] (27 : TypeId)),
                                                                                        Ent.mk (Loc.blk q)
                                                                                          (SObj.cells [SV.int IntKind.i64 y2, SV.int IntKind.i64 m2, SV.int IntKind.i64 d2] (27 : TypeId))])
                | false =>
                  q = q ∧
                    match d2 == (1 : Int) with
                    | true =>
                      q = q ∧
                        p = p ∧
                          match m2 == IntKind.wrap IntKind.i64 (m + (1 : Int)) with
                          | true =>
                            q = q ∧
                              p = p ∧
                                match y2 == y with
                                | true =>
                                  true = true ∧
                                    true = true ∧
                                      true = true ∧
                                        true = true ∧
                                          true = true ∧
                                            true = true ∧
                                              true = true ∧
                                                true = true ∧
                                                  true = true ∧
                                                    match e == (0 : Int) with
                                                    | true =>
                                                      K
                                                        [Frm.code (codeAt (bodyOf Try.f7) [(1 : Nat), (1 : Nat), (1 : Nat), (1 : Nat), (0 : Nat)]),
                                                          Frm.code (codeAt (bodyOf Try.f7) [(1 : Nat), (1 : Nat), (1 : Nat), (1 : Nat), (1 : Nat)])]
                                                        (Sy.mk
                                                          [SV.int IntKind.i64 a, SV.int IntKind.i64 b, SV.raw (u (2 : Nat)), SV.raw (u (3 : Nat)), SV.bool false, SV.ptr (0 : Nat) p (0 : Nat),
                                                            SV.raw (u (6 : Nat)), SV.raw (u (7 : Nat)), SV.raw (u (8 : Nat)), SV.ptr (1 : Nat) q (0 : Nat), SV.int IntKind.i64 e, SV.bool true,
                                                            SV.raw (u (12 : Nat)), SV.raw (u (13 : Nat)), SV.raw (u (14 : Nat)), SV.raw (u (15 : Nat)), SV.raw (u (16 : Nat)), SV.raw (u (17 : Nat)),
                                                            SV.raw (u (18 : Nat)), SV.raw (u (19 : Nat)), SV.raw (u (20 : Nat)), SV.raw (u (21 : Nat)), SV.raw (u (22 : Nat)), SV.raw (u (23 : Nat)),
                                                            SV.raw (u (24 : Nat)), SV.raw (u (25 : Nat)), SV.raw (u (26 : Nat)), SV.raw (u (27 : Nat)), SV.raw (u (28 : Nat)), SV.raw (u (29 : Nat)),
                                                            SV.raw (u (30 : Nat)), SV.raw (u (31 : Nat)), SV.raw (u (32 : Nat)), SV.raw (u (33 : Nat)), SV.raw (u (34 : Nat)), SV.raw (u (35 : Nat)),
                                                            SV.raw (u (36 : Nat)), SV.raw (u (37 : Nat)), SV.raw (u (38 : Nat)), SV.raw (u (39 : Nat)), SV.raw (u (40 : Nat)), SV.raw (u (41 : Nat)),
                                                            SV.raw (u (42 : Nat)), SV.raw (u (43 : Nat)), SV.raw (u (44 : Nat)), SV.raw (u (45 : Nat)), SV.raw (u (46 : Nat)), SV.raw (u (47 : Nat)),
                                                            SV.raw (u (48 : Nat)), SV.raw (u (49 : Nat)), SV.raw (u (50 : Nat)), SV.raw (u (51 : Nat)), SV.raw (u (52 : Nat)), SV.raw (u (53 : Nat)),
                                                            SV.raw (u (54 : Nat)), SV.raw (u (55 : Nat)), SV.raw (u (56 : Nat)), SV.ptr (1 : Nat) q (2 : Nat), SV.int IntKind.i64 d2,
                                                            SV.ptr (0 : Nat) p (2 : Nat), SV.int IntKind.i64 d, SV.int IntKind.i64 (IntKind.wrap IntKind.i64 (d + (1 : Int))),
                                                            SV.bool (d2 == IntKind.wrap IntKind.i64 (d + (1 : Int))), SV.bool true, SV.ptr (1 : Nat) q (1 : Nat), SV.int IntKind.i64 m2,
                                                            SV.ptr (0 : Nat) p (1 : Nat), SV.int IntKind.i64 m, SV.bool (m2 == m), SV.bool (m2 == m), SV.bool true, SV.ptr (1 : Nat) q (0 : Nat),
                                                            SV.int IntKind.i64 y2, SV.ptr (0 : Nat) p (0 : Nat), SV.int IntKind.i64 y, SV.bool (y2 == y), SV.bool (y2 == y), SV.bool false,
                                                            SV.ptr (1 : Nat) q (2 : Nat), SV.int IntKind.i64 d2, SV.bool (d2 == (1 : Int)), SV.bool true, SV.ptr (1 : Nat) q (1 : Nat),
                                                            SV.int IntKind.i64 m2, SV.ptr (0 : Nat) p (1 : Nat), SV.int IntKind.i64 m, SV.int IntKind.i64 (IntKind.wrap IntKind.i64 (m + (1 : Int))),
                                                            SV.bool (m2 == IntKind.wrap IntKind.i64 (m + (1 : Int))), SV.bool true, SV.ptr (1 : Nat) q (0 : Nat), SV.int IntKind.i64 y2,
                                                            SV.ptr (0 : Nat) p (0 : Nat), SV.int IntKind.i64 y, SV.bool (y2 == y), SV.bool (y2 == y), SV.bool true, SV.raw (Value.tuple #[]),
                                                            SV.raw (Value.tuple #[]), SV.raw (Value.tuple #[]), SV.raw (Value.tuple #[]), SV.raw (Value.tuple #[]), SV.raw (Value.tuple #[]),
                                                            SV.raw (Value.tuple #[]), SV.raw (Value.tuple #[]), SV.raw (Value.tuple #[]), SV.raw (Value.tuple #[]), SV.raw (Value.tuple #[]),
                                                            SV.raw (Value.tuple #[]), SV.raw (Value.tuple #[]), SV.raw (Value.tuple #[]), SV.raw (Value.tuple #[]), SV.raw (Value.tuple #[]),
                                                            SV.bool true, SV.bool true, SV.bool true, SV.int IntKind.i64 e, SV.bool (e == (0 : Int)), SV.bool true, SV.bool true, SV.bool false,
                                                            SV.bool false, SV.raw (u (121 : Nat)), SV.raw (u (122 : Nat)), SV.raw (u (123 : Nat)), SV.raw (u (124 : Nat)), SV.raw (u (125 : Nat)),
                                                            SV.raw (u (126 : Nat)), SV.raw (u (127 : Nat)), SV.raw (u (128 : Nat)), SV.raw (u (129 : Nat)), SV.raw (u (130 : Nat)),
                                                            SV.raw (u (131 : Nat)), SV.raw (u (132 : Nat)), SV.raw (u (133 : Nat)), SV.raw (u (134 : Nat)), SV.raw (u (135 : Nat)),
                                                            SV.raw (u (136 : Nat)), SV.raw (u (137 : Nat)), SV.raw (u (138 : Nat)), SV.raw (u (139 : Nat)), SV.raw (u (140 : Nat)),
                                                            SV.raw (u (141 : Nat)), SV.raw (u (142 : Nat))]
                                                          [Ent.mk (Loc.blk p) (SObj.cells [SV.int IntKind.i64 y, SV.int IntKind.i64 m, SV.int IntKind.i64 d] (27 : TypeId)),
                                                            Ent.mk (Loc.blk q) (SObj.cells [SV.int IntKind.i64 y2, SV.int IntKind.i64 m2, SV.int IntKind.i64 d2] (27 : TypeId))])
                                                    | false =>
                                                      K
                                                        [Frm.code (codeAt (bodyOf Try.f7) [(1 : Nat), (1 : Nat), (1 : Nat), (1 : Nat), (0 : Nat)]),
                                                          Frm.code (codeAt (bodyOf Try.f7) [(1 : Nat), (1 : Nat), (1 : Nat), (1 : Nat), (1 : Nat)])]
                                                        (Sy.mk
                                                          [SV.int IntKind.i64 a, SV.int IntKind.i64 b, SV.raw (u (2 : Nat)), SV.raw (u (3 : Nat)), SV.bool false, SV.ptr (0 : Nat) p (0 : Nat),
                                                            SV.raw (u (6 : Nat)), SV.raw (u (7 : Nat)), SV.raw (u (8 : Nat)), SV.ptr (1 : Nat) q (0 : Nat), SV.int IntKind.i64 e, SV.bool true,
                                                            SV.raw (u (12 : Nat)), SV.raw (u (13 : Nat)), SV.raw (u (14 : Nat)), SV.raw (u (15 : Nat)), SV.raw (u (16 : Nat)), SV.raw (u (17 : Nat)),
                                                            SV.raw (u (18 : Nat)), SV.raw (u (19 : Nat)), SV.raw (u (20 : Nat)), SV.raw (u (21 : Nat)), SV.raw (u (22 : Nat)), SV.raw (u (23 : Nat)),
                                                            SV.raw (u (24 : Nat)), SV.raw (u (25 : Nat)), SV.raw (u (26 : Nat)), SV.raw (u (27 : Nat)), SV.raw (u (28 : Nat)), SV.raw (u (29 : Nat)),
                                                            SV.raw (u (30 : Nat)), SV.raw (u (31 : Nat)), SV.raw (u (32 : Nat)), SV.raw (u (33 : Nat)), SV.raw (u (34 : Nat)), SV.raw (u (35 : Nat)),
                                                            SV.raw (u (36 : Nat)), SV.raw (u (37 : Nat)), SV.raw (u (38 : Nat)), SV.raw (u (39 : Nat)), SV.raw (u (40 : Nat)), SV.raw (u (41 : Nat)),
                                                            SV.raw (u (42 : Nat)), SV.raw (u (43 : Nat)), SV.raw (u (44 : Nat)), SV.raw (u (45 : Nat)), SV.raw (u (46 : Nat)), SV.raw (u (47 : Nat)),
                                                            SV.raw (u (48 : Nat)), SV.raw (u (49 : Nat)), SV.raw (u (50 : Nat)), SV.raw (u (51 : Nat)), SV.raw (u (52 : Nat)), SV.raw (u (53 : Nat)),
                                                            SV.raw (u (54 : Nat)), SV.raw (u (55 : Nat)), SV.raw (u (56 : Nat)), SV.ptr (1 : Nat) q (2 : Nat), SV.int IntKind.i64 d2,
                                                            SV.ptr (0 : Nat) p (2 : Nat), SV.int IntKind.i64 d, SV.int IntKind.i64 (IntKind.wrap IntKind.i64 (d + (1 : Int))),
                                                            SV.bool (d2 == IntKind.wrap IntKind.i64 (d + (1 : Int))), SV.bool true, SV.ptr (1 : Nat) q (1 : Nat), SV.int IntKind.i64 m2,
                                                            SV.ptr (0 : Nat) p (1 : Nat), SV.int IntKind.i64 m, SV.bool (m2 == m), SV.bool (m2 == m), SV.bool true, SV.ptr (1 : Nat) q (0 : Nat),
                                                            SV.int IntKind.i64 y2, SV.ptr (0 : Nat) p (0 : Nat), SV.int IntKind.i64 y, SV.bool (y2 == y), SV.bool (y2 == y), SV.bool false,
                                                            SV.ptr (1 : Nat) q (2 : Nat), SV.int IntKind.i64 d2, SV.bool (d2 == (1 : Int)), SV.bool true, SV.ptr (1 : Nat) q (1 : Nat),
                                                            SV.int IntKind.i64 m2, SV.ptr (0 : Nat) p (1 : Nat), SV.int IntKind.i64 m, SV.int IntKind.i64 (IntKind.wrap IntKind.i64 (m + (1 : Int))),
                                                            SV.bool (m2 == IntKind.wrap IntKind.i64 (m + (1 : Int))), SV.bool true, SV.ptr (1 : Nat) q (0 : Nat), SV.int IntKind.i64 y2,
                                                            SV.ptr (0 : Nat) p (0 : Nat), SV.int IntKind.i64 y, SV.bool (y2 == y), SV.bool (y2 == y), SV.bool true, SV.raw (Value.tuple #[]),
                                                            SV.raw (Value.tuple #[]), SV.raw (Value.tuple #[]), SV.raw (Value.tuple #[]), SV.raw (Value.tuple #[]), SV.raw (Value.tuple #[]),
                                                            SV.raw (Value.tuple #[]), SV.raw (Value.tuple #[]), SV.raw (Value.tuple #[]), SV.raw (Value.tuple #[]), SV.raw (Value.tuple #[]),
                                                            SV.raw (Value.tuple #[]), SV.raw (Value.tuple #[]), SV.raw (Value.tuple #[]), SV.raw (Value.tuple #[]), SV.raw (Value.tuple #[]),
                                                            SV.bool true, SV.bool true, SV.bool true, SV.int IntKind.i64 e, SV.bool (e == (0 : Int)), SV.bool false, SV.raw (Value.tuple #[]),
                                                            SV.raw (Value.tuple #[]), SV.bool false, SV.raw (u (121 : Nat)), SV.raw (u (122 : Nat)), SV.raw (u (123 : Nat)), SV.raw (u (124 : Nat)),
                                                            SV.raw (u (125 : Nat)), SV.raw (u (126 : Nat)), SV.raw (u (127 : Nat)), SV.raw (u (128 : Nat)), SV.raw (u (129 : Nat)),
                                                            SV.raw (u (130 : Nat)), SV.raw (u (131 : Nat)), SV.raw (u (132 : Nat)), SV.raw (u (133 : Nat)), SV.raw (u (134 : Nat)),
                                                            SV.raw (u (135 : Nat)), SV.raw (u (136 : Nat)), SV.raw (u (137 : Nat)), SV.raw (u (138 : Nat)), SV.raw (u (139 : Nat)),
                                                            SV.raw (u (140 : Nat)), SV.raw (u (141 : Nat)), SV.raw (u (142 : Nat))]
                                                          [Ent.mk (Loc.blk p) (SObj.cells [SV.int IntKind.i64 y, SV.int IntKind.i64 m, SV.int IntKind.i64 d] (27 : TypeId)),
                                                            Ent.mk (Loc.blk q) (SObj.cells [SV.int IntKind.i64 y2, SV.int IntKind.i64 m2, SV.int IntKind.i64 d2] (27 : TypeId))])
                                | false =>
                                  q = q ∧
                                    match m2 == (1 : Int) with
                                    | true =>
                                      p = p ∧
                                        match m == (12 : Int) with
                                        | true =>
                                          q = q ∧
                                            p = p ∧
                                              match e == (0 : Int) with
                                              | true =>
                                                match !y2 == IntKind.wrap IntKind.i64 (y + (1 : Int)) with
                                                | true =>
                                                  N
                                                    [Ent.mk (Loc.blk p) (SObj.cells [SV.int IntKind.i64 y, SV.int IntKind.i64 m, SV.int IntKind.i64 d] (27 : TypeId)),
                                                      Ent.mk (Loc.blk q) (SObj.cells [SV.int IntKind.i64 y2, SV.int IntKind.i64 m2, SV.int IntKind.i64 d2] (27 : TypeId))]
                                                    (SV.bool false)
                                                | false =>
                                                  K
                                                    [Frm.code (codeAt (bodyOf Try.f7) [(1 : Nat), (1 : Nat), (1 : Nat), (1 : Nat), (0 : Nat)]),
                                                      Frm.code (codeAt (bodyOf Try.f7) [(1 : Nat), (1 : Nat), (1 : Nat), (1 : Nat), (1 : Nat)])]
                                                    (Sy.mk
                                                      [SV.int IntKind.i64 a, SV.int IntKind.i64 b, SV.raw (u (2 : Nat)), SV.raw (u (3 : Nat)), SV.bool false, SV.ptr (0 : Nat) p (0 : Nat),
                                                        SV.raw (u (6 : Nat)), SV.raw (u (7 : Nat)), SV.raw (u (8 : Nat)), SV.ptr (1 : Nat) q (0 : Nat), SV.int IntKind.i64 e,
                                                        SV.bool (y2 == IntKind.wrap IntKind.i64 (y + (1 : Int))), SV.raw (u (12 : Nat)), SV.raw (u (13 : Nat)), SV.raw (u (14 : Nat)),
                                                        SV.raw (u (15 : Nat)), SV.raw (u (16 : Nat)), SV.raw (u (17 : Nat)), SV.raw (u (18 : Nat)), SV.raw (u (19 : Nat)), SV.raw (u (20 : Nat)),
                                                        SV.raw (u (21 : Nat)), SV.raw (u (22 : Nat)), SV.raw (u (23 : Nat)), SV.raw (u (24 : Nat)), SV.raw (u (25 : Nat)), SV.raw (u (26 : Nat)),
                                                        SV.raw (u (27 : Nat)), SV.raw (u (28 : Nat)), SV.raw (u (29 : Nat)), SV.raw (u (30 : Nat)), SV.raw (u (31 : Nat)), SV.raw (u (32 : Nat)),
                                                        SV.raw (u (33 : Nat)), SV.raw (u (34 : Nat)), SV.raw (u (35 : Nat)), SV.raw (u (36 : Nat)), SV.raw (u (37 : Nat)), SV.raw (u (38 : Nat)),
                                                        SV.raw (u (39 : Nat)), SV.raw (u (40 : Nat)), SV.raw (u (41 : Nat)), SV.raw (u (42 : Nat)), SV.raw (u (43 : Nat)), SV.raw (u (44 : Nat)),
                                                        SV.raw (u (45 : Nat)), SV.raw (u (46 : Nat)), SV.raw (u (47 : Nat)), SV.raw (u (48 : Nat)), SV.raw (u (49 : Nat)), SV.raw (u (50 : Nat)),
                                                        SV.raw (u (51 : Nat)), SV.raw (u (52 : Nat)), SV.raw (u (53 : Nat)), SV.raw (u (54 : Nat)), SV.raw (u (55 : Nat)), SV.raw (u (56 : Nat)),
                                                        SV.ptr (1 : Nat) q (2 : Nat), SV.int IntKind.i64 d2, SV.ptr (0 : Nat) p (2 : Nat), SV.int IntKind.i64 d,
                                                        SV.int IntKind.i64 (IntKind.wrap IntKind.i64 (d + (1 : Int))), SV.bool (d2 == IntKind.wrap IntKind.i64 (d + (1 : Int))), SV.bool true,
                                                        SV.ptr (1 : Nat) q (1 : Nat), SV.int IntKind.i64 m2, SV.ptr (0 : Nat) p (1 : Nat), SV.int IntKind.i64 m, SV.bool (m2 == m), SV.bool (m2 == m),
                                                        SV.bool true, SV.ptr (1 : Nat) q (0 : Nat), SV.int IntKind.i64 y2, SV.ptr (0 : Nat) p (0 : Nat), SV.int IntKind.i64 y, SV.bool (y2 == y),
                                                        SV.bool (y2 == y), SV.bool false, SV.ptr (1 : Nat) q (2 : Nat), SV.int IntKind.i64 d2, SV.bool (d2 == (1 : Int)), SV.bool true,
                                                        SV.ptr (1 : Nat) q (1 : Nat), SV.int IntKind.i64 m2, SV.ptr (0 : Nat) p (1 : Nat), SV.int IntKind.i64 m,
                                                        SV.int IntKind.i64 (IntKind.wrap IntKind.i64 (m + (1 : Int))), SV.bool (m2 == IntKind.wrap IntKind.i64 (m + (1 : Int))), SV.bool true,
                                                        SV.ptr (1 : Nat) q (0 : Nat), SV.int IntKind.i64 y2, SV.ptr (0 : Nat) p (0 : Nat), SV.int IntKind.i64 y, SV.bool (y2 == y), SV.bool (y2 == y),
                                                        SV.bool false, SV.ptr (1 : Nat) q (1 : Nat), SV.int IntKind.i64 m2, SV.bool (m2 == (1 : Int)), SV.bool true, SV.ptr (0 : Nat) p (1 : Nat),
                                                        SV.int IntKind.i64 m, SV.bool (m == (12 : Int)), SV.bool (m == (12 : Int)), SV.bool true, SV.ptr (1 : Nat) q (0 : Nat), SV.int IntKind.i64 y2,
                                                        SV.ptr (0 : Nat) p (0 : Nat), SV.int IntKind.i64 y, SV.int IntKind.i64 (IntKind.wrap IntKind.i64 (y + (1 : Int))),
                                                        SV.bool (y2 == IntKind.wrap IntKind.i64 (y + (1 : Int))), SV.bool (y2 == IntKind.wrap IntKind.i64 (y + (1 : Int))),
                                                        SV.bool (y2 == IntKind.wrap IntKind.i64 (y + (1 : Int))), SV.bool (y2 == IntKind.wrap IntKind.i64 (y + (1 : Int))),
                                                        SV.bool (y2 == IntKind.wrap IntKind.i64 (y + (1 : Int))), SV.int IntKind.i64 e, SV.bool (e == (0 : Int)), SV.bool true,
                                                        SV.bool (y2 == IntKind.wrap IntKind.i64 (y + (1 : Int))), SV.bool !y2 == IntKind.wrap IntKind.i64 (y + (1 : Int)), SV.bool false,
                                                        SV.raw (u (121 : Nat)), SV.raw (u (122 : Nat)), SV.raw (u (123 : Nat)), SV.raw (u (124 : Nat)), SV.raw (u (125 : Nat)), SV.raw (u (126 : Nat)),
                                                        SV.raw (u (127 : Nat)), SV.raw (u (128 : Nat)), SV.raw (u (129 : Nat)), SV.raw (u (130 : Nat)), SV.raw (u (131 : Nat)), SV.raw (u (132 : Nat)),
                                                        SV.raw (u (133 : Nat)), SV.raw (u (134 : Nat)), SV.raw (u (135 : Nat)), SV.raw (u (136 : Nat)), SV.raw (u (137 : Nat)), SV.raw (u (138 : Nat)),
                                                        SV.raw (u (139 : Nat)), SV.raw (u (140 : Nat)), SV.raw (u (141 : Nat)), SV.raw (u (142 : Nat))]
                                                      [Ent.mk (Loc.blk p) (SObj.cells [SV.int IntKind.i64 y, SV.int IntKind.i64 m, SV.int IntKind.i64 d] (27 : TypeId)),
                                                        Ent.mk (Loc.blk q) (SObj.cells [SV.int IntKind.i64 y2, SV.int IntKind.i64 m2, SV.int IntKind.i64 d2] (27 : TypeId))])
                                              | false =>
                                                K
                                                  [Frm.code (codeAt (bodyOf Try.f7) [(1 : Nat), (1 : Nat), (1 : Nat), (1 : Nat), (0 : Nat)]),
                                                    Frm.code (codeAt (bodyOf Try.f7) [(1 : Nat), (1 : Nat), (1 : Nat), (1 : Nat), (1 : Nat)])]
                                                  (Sy.mk
                                                    [SV.int IntKind.i64 a, SV.int IntKind.i64 b, SV.raw (u (2 : Nat)), SV.raw (u (3 : Nat)), SV.bool false, SV.ptr (0 : Nat) p (0 : Nat),
                                                      SV.raw (u (6 : Nat)), SV.raw (u (7 : Nat)), SV.raw (u (8 : Nat)), SV.ptr (1 : Nat) q (0 : Nat), SV.int IntKind.i64 e,
                                                      SV.bool (y2 == IntKind.wrap IntKind.i64 (y + (1 : Int))), SV.raw (u (12 : Nat)), SV.raw (u (13 : Nat)), SV.raw (u (14 : Nat)),
                                                      SV.raw (u (15 : Nat)), SV.raw (u (16 : Nat)), SV.raw (u (17 : Nat)), SV.raw (u (18 : Nat)), SV.raw (u (19 : Nat)), SV.raw (u (20 : Nat)),
                                                      SV.raw (u (21 : Nat)), SV.raw (u (22 : Nat)), SV.raw (u (23 : Nat)), SV.raw (u (24 : Nat)), SV.raw (u (25 : Nat)), SV.raw (u (26 : Nat)),
                                                      SV.raw (u (27 : Nat)), SV.raw (u (28 : Nat)), SV.raw (u (29 : Nat)), SV.raw (u (30 : Nat)), SV.raw (u (31 : Nat)), SV.raw (u (32 : Nat)),
                                                      SV.raw (u (33 : Nat)), SV.raw (u (34 : Nat)), SV.raw (u (35 : Nat)), SV.raw (u (36 : Nat)), SV.raw (u (37 : Nat)), SV.raw (u (38 : Nat)),
                                                      SV.raw (u (39 : Nat)), SV.raw (u (40 : Nat)), SV.raw (u (41 : Nat)), SV.raw (u (42 : Nat)), SV.raw (u (43 : Nat)), SV.raw (u (44 : Nat)),
                                                      SV.raw (u (45 : Nat)), SV.raw (u (46 : Nat)), SV.raw (u (47 : Nat)), SV.raw (u (48 : Nat)), SV.raw (u (49 : Nat)), SV.raw (u (50 : Nat)),
                                                      SV.raw (u (51 : Nat)), SV.raw (u (52 : Nat)), SV.raw (u (53 : Nat)), SV.raw (u (54 : Nat)), SV.raw (u (55 : Nat)), SV.raw (u (56 : Nat)),
                                                      SV.ptr (1 : Nat) q (2 : Nat), SV.int IntKind.i64 d2, SV.ptr (0 : Nat) p (2 : Nat), SV.int IntKind.i64 d,
                                                      SV.int IntKind.i64 (IntKind.wrap IntKind.i64 (d + (1 : Int))), SV.bool (d2 == IntKind.wrap IntKind.i64 (d + (1 : Int))), SV.bool true,
                                                      SV.ptr (1 : Nat) q (1 : Nat), SV.int IntKind.i64 m2, SV.ptr (0 : Nat) p (1 : Nat), SV.int IntKind.i64 m, SV.bool (m2 == m), SV.bool (m2 == m),
                                                      SV.bool true, SV.ptr (1 : Nat) q (0 : Nat), SV.int IntKind.i64 y2, SV.ptr (0 : Nat) p (0 : Nat), SV.int IntKind.i64 y, SV.bool (y2 == y),
                                                      SV.bool (y2 == y), SV.bool false, SV.ptr (1 : Nat) q (2 : Nat), SV.int IntKind.i64 d2, SV.bool (d2 == (1 : Int)), SV.bool true,
                                                      SV.ptr (1 : Nat) q (1 : Nat), SV.int IntKind.i64 m2, SV.ptr (0 : Nat) p (1 : Nat), SV.int IntKind.i64 m,
                                                      SV.int IntKind.i64 (IntKind.wrap IntKind.i64 (m + (1 : Int))), SV.bool (m2 == IntKind.wrap IntKind.i64 (m + (1 : Int))), SV.bool true,
                                                      SV.ptr (1 : Nat) q (0 : Nat), SV.int IntKind.i64 y2, SV.ptr (0 : Nat) p (0 : Nat), SV.int IntKind.i64 y, SV.bool (y2 == y), SV.bool (y2 == y),
                                                      SV.bool false, SV.ptr (1 : Nat) q (1 : Nat), SV.int IntKind.i64 m2, SV.bool (m2 == (1 : Int)), SV.bool true, SV.ptr (0 : Nat) p (1 : Nat),
                                                      SV.int IntKind.i64 m, SV.bool (m == (12 : Int)), SV.bool (m == (12 : Int)), SV.bool true, SV.ptr (1 : Nat) q (0 : Nat), SV.int IntKind.i64 y2,
                                                      SV.ptr (0 : Nat) p (0 : Nat), SV.int IntKind.i64 y, SV.int IntKind.i64 (IntKind.wrap IntKind.i64 (y + (1 : Int))),
                                                      SV.bool (y2 == IntKind.wrap IntKind.i64 (y + (1 : Int))), SV.bool (y2 == IntKind.wrap IntKind.i64 (y + (1 : Int))),
                                                      SV.bool (y2 == IntKind.wrap IntKind.i64 (y + (1 : Int))), SV.bool (y2 == IntKind.wrap IntKind.i64 (y + (1 : Int))),
                                                      SV.bool (y2 == IntKind.wrap IntKind.i64 (y + (1 : Int))), SV.int IntKind.i64 e, SV.bool (e == (0 : Int)), SV.bool false, SV.raw (Value.tuple #[]),
                                                      SV.raw (Value.tuple #[]), SV.bool false, SV.raw (u (121 : Nat)), SV.raw (u (122 : Nat)), SV.raw (u (123 : Nat)), SV.raw (u (124 : Nat)),
                                                      SV.raw (u (125 : Nat)), SV.raw (u (126 : Nat)), SV.raw (u (127 : Nat)), SV.raw (u (128 : Nat)), SV.raw (u (129 : Nat)), SV.raw (u (130 : Nat)),
                                                      SV.raw (u (131 : Nat)), SV.raw (u (132 : Nat)), SV.raw (u (133 : Nat)), SV.raw (u (134 : Nat)), SV.raw (u (135 : Nat)), SV.raw (u (136 : Nat)),
                                                      SV.raw (u (137 : Nat)), SV.raw (u (138 : Nat)), SV.raw (u (139 : Nat)), SV.raw (u (140 : Nat)), SV.raw (u (141 : Nat)), SV.raw (u (142 : Nat))]
                                                    [Ent.mk (Loc.blk p) (SObj.cells [SV.int IntKind.i64 y, SV.int IntKind.i64 m, SV.int IntKind.i64 d] (27 : TypeId)),
                                                      Ent.mk (Loc.blk q) (SObj.cells [SV.int IntKind.i64 y2, SV.int IntKind.i64 m2, SV.int IntKind.i64 d2] (27 : TypeId))])
                                        | false =>
                                          match e == (0 : Int) with
                                          | true =>
                                            N
                                              [Ent.mk (Loc.blk p) (SObj.cells [SV.int IntKind.i64 y, SV.int IntKind.i64 m, SV.int IntKind.i64 d] (27 : TypeId)),
                                                Ent.mk (Loc.blk q) (SObj.cells [SV.int IntKind.i64 y2, SV.int IntKind.i64 m2, SV.int IntKind.i64 d2] (27 : TypeId))]
                                              (SV.bool false)
                                          | false =>
                                            K
                                              [Frm.code (codeAt (bodyOf Try.f7) [(1 : Nat), (1 : Nat), (1 : Nat), (1 : Nat), (0 : Nat)]),
                                                Frm.code (codeAt (bodyOf Try.f7) [(1 : Nat), (1 : Nat), (1 : Nat), (1 : Nat), (1 : Nat)])]
                                              (Sy.mk
                                                [SV.int IntKind.i64 a, SV.int IntKind.i64 b, SV.raw (u (2 : Nat)), SV.raw (u (3 : Nat)), SV.bool false, SV.ptr (0 : Nat) p (0 : Nat),
                                                  SV.raw (u (6 : Nat)), SV.raw (u (7 : Nat)), SV.raw (u (8 : Nat)), SV.ptr (1 : Nat) q (0 : Nat), SV.int IntKind.i64 e, SV.bool false,
                                                  SV.raw (u (12 : Nat)), SV.raw (u (13 : Nat)), SV.raw (u (14 : Nat)), SV.raw (u (15 : Nat)), SV.raw (u (16 : Nat)), SV.raw (u (17 : Nat)),
                                                  SV.raw (u (18 : Nat)), SV.raw (u (19 : Nat)), SV.raw (u (20 : Nat)), SV.raw (u (21 : Nat)), SV.raw (u (22 : Nat)), SV.raw (u (23 : Nat)),
                                                  SV.raw (u (24 : Nat)), SV.raw (u (25 : Nat)), SV.raw (u (26 : Nat)), SV.raw (u (27 : Nat)), SV.raw (u (28 : Nat)), SV.raw (u (29 : Nat)),
                                                  SV.raw (u (30 : Nat)), SV.raw (u (31 : Nat)), SV.raw (u (32 : Nat)), SV.raw (u (33 : Nat)), SV.raw (u (34 : Nat)), SV.raw (u (35 : Nat)),
                                                  SV.raw (u (36 : Nat)), SV.raw (u (37 : Nat)), SV.raw (u (38 : Nat)), SV.raw (u (39 : Nat)), SV.raw (u (40 : Nat)), SV.raw (u (41 : Nat)),
                                                  SV.raw (u (42 : Nat)), SV.raw (u (43 : Nat)), SV.raw (u (44 : Nat)), SV.raw (u (45 : Nat)), SV.raw (u (46 : Nat)), SV.raw (u (47 : Nat)),
                                                  SV.raw (u (48 : Nat)), SV.raw (u (49 : Nat)), SV.raw (u (50 : Nat)), SV.raw (u (51 : Nat)), SV.raw (u (52 : Nat)), SV.raw (u (53 : Nat)),
                                                  SV.raw (u (54 : Nat)), SV.raw (u (55 : Nat)), SV.raw (u (56 : Nat)), SV.ptr (1 : Nat) q (2 : Nat), SV.int IntKind.i64 d2,
                                                  SV.ptr (0 : Nat) p (2 : Nat), SV.int IntKind.i64 d, SV.int IntKind.i64 (IntKind.wrap IntKind.i64 (d + (1 : Int))),
                                                  SV.bool (d2 == IntKind.wrap IntKind.i64 (d + (1 : Int))), SV.bool true, SV.ptr (1 : Nat) q (1 : Nat), SV.int IntKind.i64 m2,
                                                  SV.ptr (0 : Nat) p (1 : Nat), SV.int IntKind.i64 m, SV.bool (m2 == m), SV.bool (m2 == m), SV.bool true, SV.ptr (1 : Nat) q (0 : Nat),
                                                  SV.int IntKind.i64 y2, SV.ptr (0 : Nat) p (0 : Nat), SV.int IntKind.i64 y, SV.bool (y2 == y), SV.bool (y2 == y), SV.bool false,
                                                  SV.ptr (1 : Nat) q (2 : Nat), SV.int IntKind.i64 d2, SV.bool (d2 == (1 : Int)), SV.bool true, SV.ptr (1 : Nat) q (1 : Nat), SV.int IntKind.i64 m2,
                                                  SV.ptr (0 : Nat) p (1 : Nat), SV.int IntKind.i64 m, SV.int IntKind.i64 (IntKind.wrap IntKind.i64 (m + (1 : Int))),
                                                  SV.bool (m2 == IntKind.wrap IntKind.i64 (m + (1 : Int))), SV.bool true, SV.ptr (1 : Nat) q (0 : Nat), SV.int IntKind.i64 y2,
                                                  SV.ptr (0 : Nat) p (0 : Nat), SV.int IntKind.i64 y, SV.bool (y2 == y), SV.bool (y2 == y), SV.bool false, SV.ptr (1 : Nat) q (1 : Nat),
                                                  SV.int IntKind.i64 m2, SV.bool (m2 == (1 : Int)), SV.bool true, SV.ptr (0 : Nat) p (1 : Nat), SV.int IntKind.i64 m, SV.bool (m == (12 : Int)),
                                                  SV.bool (m == (12 : Int)), SV.bool false, SV.raw (Value.tuple #[]), SV.raw (Value.tuple #[]), SV.raw (Value.tuple #[]), SV.raw (Value.tuple #[]),
                                                  SV.raw (Value.tuple #[]), SV.raw (Value.tuple #[]), SV.bool false, SV.bool false, SV.bool false, SV.bool false, SV.int IntKind.i64 e,
                                                  SV.bool (e == (0 : Int)), SV.bool false, SV.raw (Value.tuple #[]), SV.raw (Value.tuple #[]), SV.bool false, SV.raw (u (121 : Nat)),
                                                  SV.raw (u (122 : Nat)), SV.raw (u (123 : Nat)), SV.raw (u (124 : Nat)), SV.raw (u (125 : Nat)), SV.raw (u (126 : Nat)), SV.raw (u (127 : Nat)),
                                                  SV.raw (u (128 : Nat)), SV.raw (u (129 : Nat)), SV.raw (u (130 : Nat)), SV.raw (u (131 : Nat)), SV.raw (u (132 : Nat)), SV.raw (u (133 : Nat)),
                                                  SV.raw (u (134 : Nat)), SV.raw (u (135 : Nat)), SV.raw (u (136 : Nat)), SV.raw (u (137 : Nat)), SV.raw (u (138 : Nat)), SV.raw (u (139 : Nat)),
                                                  SV.raw (u (140 : Nat)), SV.raw (u (141 : Nat)), SV.raw (u (142 : Nat))]
                                                [Ent.mk (Loc.blk p) (SObj.cells [SV.int IntKind.i64 y, SV.int IntKind.i64 m, SV.int IntKind.i64 d] (27 : TypeId)),
                                                  Ent.mk (Loc.blk q) (SObj.cells [SV.int IntKind.i64 y2, SV.int IntKind.i64 m2, SV.int IntKind.i64 d2] (27 : TypeId))])
                                    | false =>
                                      match e == (0 : Int) with
                                      | true =>
                                        N
                                          [Ent.mk (Loc.blk p) (SObj.cells [SV.int IntKind.i64 y, SV.int IntKind.i64 m, SV.int IntKind.i64 d] (27 : TypeId)),
                                            Ent.mk (Loc.blk q) (SObj.cells [SV.int IntKind.i64 y2, SV.int IntKind.i64 m2, SV.int IntKind.i64 d2] (27 : TypeId))]
                                          (SV.bool false)
                                      | false =>
                                        K
                                          [Frm.code (codeAt (bodyOf Try.f7) [(1 : Nat), (1 : Nat), (1 : Nat), (1 : Nat), (0 : Nat)]),
                                            Frm.code (codeAt (bodyOf Try.f7) [(1 : Nat), (1 : Nat), (1 : Nat), (1 : Nat), (1 : Nat)])]
                                          (Sy.mk
                                            [SV.int IntKind.i64 a, SV.int IntKind.i64 b, SV.raw (u (2 : Nat)), SV.raw (u (3 : Nat)), SV.bool false, SV.ptr (0 : Nat) p (0 : Nat), SV.raw (u (6 : Nat)),
                                              SV.raw (u (7 : Nat)), SV.raw (u (8 : Nat)), SV.ptr (1 : Nat) q (0 : Nat), SV.int IntKind.i64 e, SV.bool false, SV.raw (u (12 : Nat)),
                                              SV.raw (u (13 : Nat)), SV.raw (u (14 : Nat)), SV.raw (u (15 : Nat)), SV.raw (u (16 : Nat)), SV.raw (u (17 : Nat)), SV.raw (u (18 : Nat)),
                                              SV.raw (u (19 : Nat)), SV.raw (u (20 : Nat)), SV.raw (u (21 : Nat)), SV.raw (u (22 : Nat)), SV.raw (u (23 : Nat)), SV.raw (u (24 : Nat)),
                                              SV.raw (u (25 : Nat)), SV.raw (u (26 : Nat)), SV.raw (u (27 : Nat)), SV.raw (u (28 : Nat)), SV.raw (u (29 : Nat)), SV.raw (u (30 : Nat)),
                                              SV.raw (u (31 : Nat)), SV.raw (u (32 : Nat)), SV.raw (u (33 : Nat)), SV.raw (u (34 : Nat)), SV.raw (u (35 : Nat)), SV.raw (u (36 : Nat)),
                                              SV.raw (u (37 : Nat)), SV.raw (u (38 : Nat)), SV.raw (u (39 : Nat)), SV.raw (u (40 : Nat)), SV.raw (u (41 : Nat)), SV.raw (u (42 : Nat)),
                                              SV.raw (u (43 : Nat)), SV.raw (u (44 : Nat)), SV.raw (u (45 : Nat)), SV.raw (u (46 : Nat)), SV.raw (u (47 : Nat)), SV.raw (u (48 : Nat)),
                                              SV.raw (u (49 : Nat)), SV.raw (u (50 : Nat)), SV.raw (u (51 : Nat)), SV.raw (u (52 : Nat)), SV.raw (u (53 : Nat)), SV.raw (u (54 : Nat)),
                                              SV.raw (u (55 : Nat)), SV.raw (u (56 : Nat)), SV.ptr (1 : Nat) q (2 : Nat), SV.int IntKind.i64 d2, SV.ptr (0 : Nat) p (2 : Nat), SV.int IntKind.i64 d,
                                              SV.int IntKind.i64 (IntKind.wrap IntKind.i64 (d + (1 : Int))), SV.bool (d2 == IntKind.wrap IntKind.i64 (d + (1 : Int))), SV.bool true,
                                              SV.ptr (1 : Nat) q (1 : Nat), SV.int IntKind.i64 m2, SV.ptr (0 : Nat) p (1 : Nat), SV.int IntKind.i64 m, SV.bool (m2 == m), SV.bool (m2 == m),
                                              SV.bool true, SV.ptr (1 : Nat) q (0 : Nat), SV.int IntKind.i64 y2, SV.ptr (0 : Nat) p (0 : Nat), SV.int IntKind.i64 y, SV.bool (y2 == y),
                                              SV.bool (y2 == y), SV.bool false, SV.ptr (1 : Nat) q (2 : Nat), SV.int IntKind.i64 d2, SV.bool (d2 == (1 : Int)), SV.bool true,
                                              SV.ptr (1 : Nat) q (1 : Nat), SV.int IntKind.i64 m2, SV.ptr (0 : Nat) p (1 : Nat), SV.int IntKind.i64 m,
                                              SV.int IntKind.i64 (IntKind.wrap IntKind.i64 (m + (1 : Int))), SV.bool (m2 == IntKind.wrap IntKind.i64 (m + (1 : Int))), SV.bool true,
                                              SV.ptr (1 : Nat) q (0 : Nat), SV.int IntKind.i64 y2, SV.ptr (0 : Nat) p (0 : Nat), SV.int IntKind.i64 y, SV.bool (y2 == y), SV.bool (y2 == y),
                                              SV.bool false, SV.ptr (1 : Nat) q (1 : Nat), SV.int IntKind.i64 m2, SV.bool (m2 == (1 : Int)), SV.bool false, SV.raw (Value.tuple #[]),
                                              SV.raw (Value.tuple #[]), SV.raw (Value.tuple #[]), SV.bool false, SV.bool false, SV.raw (Value.tuple #[]), SV.raw (Value.tuple #[]),
                                              SV.raw (Value.tuple #[]), SV.raw (Value.tuple #[]), SV.raw (Value.tuple #[]), SV.raw (Value.tuple #[]), SV.bool false, SV.bool false, SV.bool false,
                                              SV.bool false, SV.int IntKind.i64 e, SV.bool (e == (0 : Int)), SV.bool false, SV.raw (Value.tuple #[]), SV.raw (Value.tuple #[]), SV.bool false,
                                              SV.raw (u (121 : Nat)), SV.raw (u (122 : Nat)), SV.raw (u (123 : Nat)), SV.raw (u (124 : Nat)), SV.raw (u (125 : Nat)), SV.raw (u (126 : Nat)),
                                              SV.raw (u (127 : Nat)), SV.raw (u (128 : Nat)), SV.raw (u (129 : Nat)), SV.raw (u (130 : Nat)), SV.raw (u (131 : Nat)), SV.raw (u (132 : Nat)),
                                              SV.raw (u (133 : Nat)), SV.raw (u (134 : Nat)), SV.raw (u (135 : Nat)), SV.raw (u (136 : Nat)), SV.raw (u (137 : Nat)), SV.raw (u (138 : Nat)),
                                              SV.raw (u (139 : Nat)), SV.raw (u (140 : Nat)), SV.raw (u (141 : Nat)), SV.raw (u (142 : Nat))]
                                            [Ent.mk (Loc.blk p) (SObj.cells [SV.int IntKind.i64 y, SV.int IntKind.i64 m, SV.int IntKind.i64 d] (27 : TypeId)),
                                              Ent.mk (Loc.blk q) (SObj.cells [SV.int IntKind.i64 y2, SV.int IntKind.i64 m2, SV.int IntKind.i64 d2] (27 : TypeId))])
                          | false =>
                            q = q ∧
                              match m2 == (1 : Int) with
                              | true =>
                                p = p ∧
                                  match m == (12 : Int) with
                                  | true =>
                                    q = q ∧
                                      p = p ∧
                                        match e == (0 : Int) with
                                        | true =>
                                          match !y2 == IntKind.wrap IntKind.i64 (y + (1 : Int)) with
                                          | true =>
                                            N
                                              [Ent.mk (Loc.blk p) (SObj.cells [SV.int IntKind.i64 y, SV.int IntKind.i64 m, SV.int IntKind.i64 d] (27 : TypeId)),
                                                Ent.mk (Loc.blk q) (SObj.cells [SV.int IntKind.i64 y2, SV.int IntKind.i64 m2, SV.int IntKind.i64 d2] (27 : TypeId))]
                                              (SV.bool false)
                                          | false =>
                                            K
                                              [Frm.code (codeAt (bodyOf Try.f7) [(1 : Nat), (1 : Nat), (1 : Nat), (1 : Nat), (0 : Nat)]),
                                                Frm.code (codeAt (bodyOf Try.f7) [(1 : Nat), (1 : Nat), (1 : Nat), (1 : Nat), (1 : Nat)])]
                                              (Sy.mk
                                                [SV.int IntKind.i64 a, SV.int IntKind.i64 b, SV.raw (u (2 : Nat)), SV.raw (u (3 : Nat)), SV.bool false, SV.ptr (0 : Nat) p (0 : Nat),
                                                  SV.raw (u (6 : Nat)), SV.raw (u (7 : Nat)), SV.raw (u (8 : Nat)), SV.ptr (1 : Nat) q (0 : Nat), SV.int IntKind.i64 e,
                                                  SV.bool (y2 == IntKind.wrap IntKind.i64 (y + (1 : Int))), SV.raw (u (12 : Nat)), SV.raw (u (13 : Nat)), SV.raw (u (14 : Nat)), SV.raw (u (15 : Nat)),
                                                  SV.raw (u (16 : Nat)), SV.raw (u (17 : Nat)), SV.raw (u (18 : Nat)), SV.raw (u (19 : Nat)), SV.raw (u (20 : Nat)), SV.raw (u (21 : Nat)),
                                                  SV.raw (u (22 : Nat)), SV.raw (u (23 : Nat)), SV.raw (u (24 : Nat)), SV.raw (u (25 : Nat)), SV.raw (u (26 : Nat)), SV.raw (u (27 : Nat)),
                                                  SV.raw (u (28 : Nat)), SV.raw (u (29 : Nat)), SV.raw (u (30 : Nat)), SV.raw (u (31 : Nat)), SV.raw (u (32 : Nat)), SV.raw (u (33 : Nat)),
                                                  SV.raw (u (34 : Nat)), SV.raw (u (35 : Nat)), SV.raw (u (36 : Nat)), SV.raw (u (37 : Nat)), SV.raw (u (38 : Nat)), SV.raw (u (39 : Nat)),
                                                  SV.raw (u (40 : Nat)), SV.raw (u (41 : Nat)), SV.raw (u (42 : Nat)), SV.raw (u (43 : Nat)), SV.raw (u (44 : Nat)), SV.raw (u (45 : Nat)),
                                                  SV.raw (u (46 : Nat)), SV.raw (u (47 : Nat)), SV.raw (u (48 : Nat)), SV.raw (u (49 : Nat)), SV.raw (u (50 : Nat)), SV.raw (u (51 : Nat)),
                                                  SV.raw (u (52 : Nat)), SV.raw (u (53 : Nat)), SV.raw (u (54 : Nat)), SV.raw (u (55 : Nat)), SV.raw (u (56 : Nat)), SV.ptr (1 : Nat) q (2 : Nat),
                                                  SV.int IntKind.i64 d2, SV.ptr (0 : Nat) p (2 : Nat), SV.int IntKind.i64 d, SV.int IntKind.i64 (IntKind.wrap IntKind.i64 (d + (1 : Int))),
                                                  SV.bool (d2 == IntKind.wrap IntKind.i64 (d + (1 : Int))), SV.bool true, SV.ptr (1 : Nat) q (1 : Nat), SV.int IntKind.i64 m2,
                                                  SV.ptr (0 : Nat) p (1 : Nat), SV.int IntKind.i64 m, SV.bool (m2 == m), SV.bool (m2 == m), SV.bool true, SV.ptr (1 : Nat) q (0 : Nat),
                                                  SV.int IntKind.i64 y2, SV.ptr (0 : Nat) p (0 : Nat), SV.int IntKind.i64 y, SV.bool (y2 == y), SV.bool (y2 == y), SV.bool false,
                                                  SV.ptr (1 : Nat) q (2 : Nat), SV.int IntKind.i64 d2, SV.bool (d2 == (1 : Int)), SV.bool true, SV.ptr (1 : Nat) q (1 : Nat), SV.int IntKind.i64 m2,
                                                  SV.ptr (0 : Nat) p (1 : Nat), SV.int IntKind.i64 m, SV.int IntKind.i64 (IntKind.wrap IntKind.i64 (m + (1 : Int))),
                                                  SV.bool (m2 == IntKind.wrap IntKind.i64 (m + (1 : Int))), SV.bool false, SV.raw (Value.tuple #[]), SV.raw (Value.tuple #[]), SV.raw (Value.tuple #[]),
                                                  SV.raw (Value.tuple #[]), SV.raw (Value.tuple #[]), SV.bool false, SV.bool false, SV.ptr (1 : Nat) q (1 : Nat), SV.int IntKind.i64 m2,
                                                  SV.bool (m2 == (1 : Int)), SV.bool true, SV.ptr (0 : Nat) p (1 : Nat), SV.int IntKind.i64 m, SV.bool (m == (12 : Int)), SV.bool (m == (12 : Int)),
                                                  SV.bool true, SV.ptr (1 : Nat) q (0 : Nat), SV.int IntKind.i64 y2, SV.ptr (0 : Nat) p (0 : Nat), SV.int IntKind.i64 y,
                                                  SV.int IntKind.i64 (IntKind.wrap IntKind.i64 (y + (1 : Int))), SV.bool (y2 == IntKind.wrap IntKind.i64 (y + (1 : Int))),
                                                  SV.bool (y2 == IntKind.wrap IntKind.i64 (y + (1 : Int))), SV.bool (y2 == IntKind.wrap IntKind.i64 (y + (1 : Int))),
                                                  SV.bool (y2 == IntKind.wrap IntKind.i64 (y + (1 : Int))), SV.bool (y2 == IntKind.wrap IntKind.i64 (y + (1 : Int))), SV.int IntKind.i64 e,
                                                  SV.bool (e == (0 : Int)), SV.bool true, SV.bool (y2 == IntKind.wrap IntKind.i64 (y + (1 : Int))),
                                                  SV.bool !y2 == IntKind.wrap IntKind.i64 (y + (1 : Int)), SV.bool false, SV.raw (u (121 : Nat)), SV.raw (u (122 : Nat)), SV.raw (u (123 : Nat)),
                                                  SV.raw (u (124 : Nat)), SV.raw (u (125 : Nat)), SV.raw (u (126 : Nat)), SV.raw (u (127 : Nat)), SV.raw (u (128 : Nat)), SV.raw (u (129 : Nat)),
                                                  SV.raw (u (130 : Nat)), SV.raw (u (131 : Nat)), SV.raw (u (132 : Nat)), SV.raw (u (133 : Nat)), SV.raw (u (134 : Nat)), SV.raw (u (135 : Nat)),
                                                  SV.raw (u (136 : Nat)), SV.raw (u (137 : Nat)), SV.raw (u (138 : Nat)), SV.raw (u (139 : Nat)), SV.raw (u (140 : Nat)), SV.raw (u (141 : Nat)),
                                                  SV.raw (u (142 : Nat))]
                                                [Ent.mk (Loc.blk p) (SObj.cells [SV.int IntKind.i64 y, SV.int IntKind.i64 m, SV.int IntKind.i64 d] (27 : TypeId)),
                                                  Ent.mk (Loc.blk q) (SObj.cells [SV.int IntKind.i64 y2, SV.int IntKind.i64 m2, SV.int IntKind.i64 d2] (27 : TypeId))])
                                        | false =>
                                          K
                                            [Frm.code (codeAt (bodyOf Try.f7) [(1 : Nat), (1 : Nat), (1 : Nat), (1 : Nat), (0 : Nat)]),
                                              Frm.code (codeAt (bodyOf Try.f7) [(1 : Nat), (1 : Nat), (1 : Nat), (1 : Nat), (1 : Nat)])]
                                            (Sy.mk
                                              [SV.int IntKind.i64 a, SV.int IntKind.i64 b, SV.raw (u (2 : Nat)), SV.raw (u (3 : Nat)), SV.bool false, SV.ptr (0 : Nat) p (0 : Nat),
                                                SV.raw (u (6 : Nat)), SV.raw (u (7 : Nat)), SV.raw (u (8 : Nat)), SV.ptr (1 : Nat) q (0 : Nat), SV.int IntKind.i64 e,
                                                SV.bool (y2 == IntKind.wrap IntKind.i64 (y + (1 : Int))), SV.raw (u (12 : Nat)), SV.raw (u (13 : Nat)), SV.raw (u (14 : Nat)), SV.raw (u (15 : Nat)),
                                                SV.raw (u (16 : Nat)), SV.raw (u (17 : Nat)), SV.raw (u (18 : Nat)), SV.raw (u (19 : Nat)), SV.raw (u (20 : Nat)), SV.raw (u (21 : Nat)),
                                                SV.raw (u (22 : Nat)), SV.raw (u (23 : Nat)), SV.raw (u (24 : Nat)), SV.raw (u (25 : Nat)), SV.raw (u (26 : Nat)), SV.raw (u (27 : Nat)),
                                                SV.raw (u (28 : Nat)), SV.raw (u (29 : Nat)), SV.raw (u (30 : Nat)), SV.raw (u (31 : Nat)), SV.raw (u (32 : Nat)), SV.raw (u (33 : Nat)),
                                                SV.raw (u (34 : Nat)), SV.raw (u (35 : Nat)), SV.raw (u (36 : Nat)), SV.raw (u (37 : Nat)), SV.raw (u (38 : Nat)), SV.raw (u (39 : Nat)),
                                                SV.raw (u (40 : Nat)), SV.raw (u (41 : Nat)), SV.raw (u (42 : Nat)), SV.raw (u (43 : Nat)), SV.raw (u (44 : Nat)), SV.raw (u (45 : Nat)),
                                                SV.raw (u (46 : Nat)), SV.raw (u (47 : Nat)), SV.raw (u (48 : Nat)), SV.raw (u (49 : Nat)), SV.raw (u (50 : Nat)), SV.raw (u (51 : Nat)),
                                                SV.raw (u (52 : Nat)), SV.raw (u (53 : Nat)), SV.raw (u (54 : Nat)), SV.raw (u (55 : Nat)), SV.raw (u (56 : Nat)), SV.ptr (1 : Nat) q (2 : Nat),
                                                SV.int IntKind.i64 d2, SV.ptr (0 : Nat) p (2 : Nat), SV.int IntKind.i64 d, SV.int IntKind.i64 (IntKind.wrap IntKind.i64 (d + (1 : Int))),
                                                SV.bool (d2 == IntKind.wrap IntKind.i64 (d + (1 : Int))), SV.bool true, SV.ptr (1 : Nat) q (1 : Nat), SV.int IntKind.i64 m2,
                                                SV.ptr (0 : Nat) p (1 : Nat), SV.int IntKind.i64 m, SV.bool (m2 == m), SV.bool (m2 == m), SV.bool true, SV.ptr (1 : Nat) q (0 : Nat),
                                                SV.int IntKind.i64 y2, SV.ptr (0 : Nat) p (0 : Nat), SV.int IntKind.i64 y, SV.bool (y2 == y), SV.bool (y2 == y), SV.bool false,
                                                SV.ptr (1 : Nat) q (2 : Nat), SV.int IntKind.i64 d2, SV.bool (d2 == (1 : Int)), SV.bool true, SV.ptr (1 : Nat) q (1 : Nat), SV.int IntKind.i64 m2,
                                                SV.ptr (0 : Nat) p (1 : Nat), SV.int IntKind.i64 m, SV.int IntKind.i64 (IntKind.wrap IntKind.i64 (m + (1 : Int))),
                                                SV.bool (m2 == IntKind.wrap IntKind.i64 (m + (1 : Int))), SV.bool false, SV.raw (Value.tuple #[]), SV.raw (Value.tuple #[]), SV.raw (Value.tuple #[]),
                                                SV.raw (Value.tuple #[]), SV.raw (Value.tuple #[]), SV.bool false, SV.bool false, SV.ptr (1 : Nat) q (1 : Nat), SV.int IntKind.i64 m2,
                                                SV.bool (m2 == (1 : Int)), SV.bool true, SV.ptr (0 : Nat) p (1 : Nat), SV.int IntKind.i64 m, SV.bool (m == (12 : Int)), SV.bool (m == (12 : Int)),
                                                SV.bool true, SV.ptr (1 : Nat) q (0 : Nat), SV.int IntKind.i64 y2, SV.ptr (0 : Nat) p (0 : Nat), SV.int IntKind.i64 y,
                                                SV.int IntKind.i64 (IntKind.wrap IntKind.i64 (y + (1 : Int))), SV.bool (y2 == IntKind.wrap IntKind.i64 (y + (1 : Int))),
                                                SV.bool (y2 == IntKind.wrap IntKind.i64 (y + (1 : Int))), SV.bool (y2 == IntKind.wrap IntKind.i64 (y + (1 : Int))),
                                                SV.bool (y2 == IntKind.wrap IntKind.i64 (y + (1 : Int))), SV.bool (y2 == IntKind.wrap IntKind.i64 (y + (1 : Int))), SV.int IntKind.i64 e,
                                                SV.bool (e == (0 : Int)), SV.bool false, SV.raw (Value.tuple #[]), SV.raw (Value.tuple #[]), SV.bool false, SV.raw (u (121 : Nat)),
                                                SV.raw (u (122 : Nat)), SV.raw (u (123 : Nat)), SV.raw (u (124 : Nat)), SV.raw (u (125 : Nat)), SV.raw (u (126 : Nat)), SV.raw (u (127 : Nat)),
                                                SV.raw (u (128 : Nat)), SV.raw (u (129 : Nat)), SV.raw (u (130 : Nat)), SV.raw (u (131 : Nat)), SV.raw (u (132 : Nat)), SV.raw (u (133 : Nat)),
                                                SV.raw (u (134 : Nat)), SV.raw (u (135 : Nat)), SV.raw (u (136 : Nat)), SV.raw (u (137 : Nat)), SV.raw (u (138 : Nat)), SV.raw (u (139 : Nat)),
                                                SV.raw (u (140 : Nat)), SV.raw (u (141 : Nat)), SV.raw (u (142 : Nat))]
                                              [Ent.mk (Loc.blk p) (SObj.cells [SV.int IntKind.i64 y, SV.int IntKind.i64 m, SV.int IntKind.i64 d] (27 : TypeId)),
                                                Ent.mk (Loc.blk q) (SObj.cells [SV.int IntKind.i64 y2, SV.int IntKind.i64 m2, SV.int IntKind.i64 d2] (27 : TypeId))])
                                  | false =>
                                    match e == (0 : Int) with
                                    | true =>
                                      N
                                        [Ent.mk (Loc.blk p) (SObj.cells [SV.int IntKind.i64 y, SV.int IntKind.i64 m, SV.int IntKind.i64 d] (27 : TypeId)),
                                          Ent.mk (Loc.blk q) (SObj.cells [SV.int IntKind.i64 y2, SV.int IntKind.i64 m2, SV.int IntKind.i64 d2] (27 : TypeId))]
                                        (SV.bool false)
                                    | false =>
                                      K
                                        [Frm.code (codeAt (bodyOf Try.f7) [(1 : Nat), (1 : Nat), (1 : Nat), (1 : Nat), (0 : Nat)]),
                                          Frm.code (codeAt (bodyOf Try.f7) [(1 : Nat), (1 : Nat), (1 : Nat), (1 : Nat), (1 : Nat)])]
                                        (Sy.mk
                                          [SV.int IntKind.i64 a, SV.int IntKind.i64 b, SV.raw (u (2 : Nat)), SV.raw (u (3 : Nat)), SV.bool false, SV.ptr (0 : Nat) p (0 : Nat), SV.raw (u (6 : Nat)),
                                            SV.raw (u (7 : Nat)), SV.raw (u (8 : Nat)), SV.ptr (1 : Nat) q (0 : Nat), SV.int IntKind.i64 e, SV.bool false, SV.raw (u (12 : Nat)), SV.raw (u (13 : Nat)),
                                            SV.raw (u (14 : Nat)), SV.raw (u (15 : Nat)), SV.raw (u (16 : Nat)), SV.raw (u (17 : Nat)), SV.raw (u (18 : Nat)), SV.raw (u (19 : Nat)),
                                            SV.raw (u (20 : Nat)), SV.raw (u (21 : Nat)), SV.raw (u (22 : Nat)), SV.raw (u (23 : Nat)), SV.raw (u (24 : Nat)), SV.raw (u (25 : Nat)),
                                            SV.raw (u (26 : Nat)), SV.raw (u (27 : Nat)), SV.raw (u (28 : Nat)), SV.raw (u (29 : Nat)), SV.raw (u (30 : Nat)), SV.raw (u (31 : Nat)),
                                            SV.raw (u (32 : Nat)), SV.raw (u (33 : Nat)), SV.raw (u (34 : Nat)), SV.raw (u (35 : Nat)), SV.raw (u (36 : Nat)), SV.raw (u (37 : Nat)),
                                            SV.raw (u (38 : Nat)), SV.raw (u (39 : Nat)), SV.raw (u (40 : Nat)), SV.raw (u (41 : Nat)), SV.raw (u (42 : Nat)), SV.raw (u (43 : Nat)),
                                            SV.raw (u (44 : Nat)), SV.raw (u (45 : Nat)), SV.raw (u (46 : Nat)), SV.raw (u (47 : Nat)), SV.raw (u (48 : Nat)), SV.raw (u (49 : Nat)),
                                            SV.raw (u (50 : Nat)), SV.raw (u (51 : Nat)), SV.raw (u (52 : Nat)), SV.raw (u (53 : Nat)), SV.raw (u (54 : Nat)), SV.raw (u (55 : Nat)),
                                            SV.raw (u (56 : Nat)), SV.ptr (1 : Nat) q (2 : Nat), SV.int IntKind.i64 d2, SV.ptr (0 : Nat) p (2 : Nat), SV.int IntKind.i64 d,
                                            SV.int IntKind.i64 (IntKind.wrap IntKind.i64 (d + (1 : Int))), SV.bool (d2 == IntKind.wrap IntKind.i64 (d + (1 : Int))), SV.bool true,
                                            SV.ptr (1 : Nat) q (1 : Nat), SV.int IntKind.i64 m2, SV.ptr (0 : Nat) p (1 : Nat), SV.int IntKind.i64 m, SV.bool (m2 == m), SV.bool (m2 == m), SV.bool true,
                                            SV.ptr (1 : Nat) q (0 : Nat), SV.int IntKind.i64 y2, SV.ptr (0 : Nat) p (0 : Nat), SV.int IntKind.i64 y, SV.bool (y2 == y), SV.bool (y2 == y),
                                            SV.bool false, SV.ptr (1 : Nat) q (2 : Nat), SV.int IntKind.i64 d2, SV.bool (d2 == (1 : Int)), SV.bool true, SV.ptr (1 : Nat) q (1 : Nat),
                                            SV.int IntKind.i64 m2, SV.ptr (0 : Nat) p (1 : Nat), SV.int IntKind.i64 m, SV.int IntKind.i64 (IntKind.wrap IntKind.i64 (m + (1 : Int))),
                                            SV.bool (m2 == IntKind.wrap IntKind.i64 (m + (1 : Int))), SV.bool false, SV.raw (Value.tuple #[]), SV.raw (Value.tuple #[]), SV.raw (Value.tuple #[]),
                                            SV.raw (Value.tuple #[]), SV.raw (Value.tuple #[]), SV.bool false, SV.bool false, SV.ptr (1 : Nat) q (1 : Nat), SV.int IntKind.i64 m2,
                                            SV.bool (m2 == (1 : Int)), SV.bool true, SV.ptr (0 : Nat) p (1 : Nat), SV.int IntKind.i64 m, SV.bool (m == (12 : Int)), SV.bool (m == (12 : Int)),
                                            SV.bool false, SV.raw (Value.tuple #[]), SV.raw (Value.tuple #[]), SV.raw (Value.tuple #[]), SV.raw (Value.tuple #[]), SV.raw (Value.tuple #[]),
                                            SV.raw (Value.tuple #[]), SV.bool false, SV.bool false, SV.bool false, SV.bool false, SV.int IntKind.i64 e, SV.bool (e == (0 : Int)), SV.bool false,
                                            SV.raw (Value.tuple #[]), SV.raw (Value.tuple #[]), SV.bool false, SV.raw (u (121 : Nat)), SV.raw (u (122 : Nat)), SV.raw (u (123 : Nat)),
                                            SV.raw (u (124 : Nat)), SV.raw (u (125 : Nat)), SV.raw (u (126 : Nat)), SV.raw (u (127 : Nat)), SV.raw (u (128 : Nat)), SV.raw (u (129 : Nat)),
                                            SV.raw (u (130 : Nat)), SV.raw (u (131 : Nat)), SV.raw (u (132 : Nat)), SV.raw (u (133 : Nat)), SV.raw (u (134 : Nat)), SV.raw (u (135 : Nat)),
                                            SV.raw (u (136 : Nat)), SV.raw (u (137 : Nat)), SV.raw (u (138 : Nat)), SV.raw (u (139 : Nat)), SV.raw (u (140 : Nat)), SV.raw (u (141 : Nat)),
                                            SV.raw (u (142 : Nat))]
                                          [Ent.mk (Loc.blk p) (SObj.cells [SV.int IntKind.i64 y, SV.int IntKind.i64 m, SV.int IntKind.i64 d] (27 : TypeId)),
                                            Ent.mk (Loc.blk q) (SObj.cells [SV.int IntKind.i64 y2, SV.int IntKind.i64 m2, SV.int IntKind.i64 d2] (27 : TypeId))])
                              | false =>
                                match e == (0 : Int) with
                                | true =>
                                  N
                                    [Ent.mk (Loc.blk p) (SObj.cells [SV.int IntKind.i64 y, SV.int IntKind.i64 m, SV.int IntKind.i64 d] (27 : TypeId)),
                                      Ent.mk (Loc.blk q) (SObj.cells [SV.int IntKind.i64 y2, SV.int IntKind.i64 m2, SV.int IntKind.i64 d2] (27 : TypeId))]
                                    (SV.bool false)
                                | false =>
                                  K
                                    [Frm.code (codeAt (bodyOf Try.f7) [(1 : Nat), (1 : Nat), (1 : Nat), (1 : Nat), (0 : Nat)]),
                                      Frm.code (codeAt (bodyOf Try.f7) [(1 : Nat), (1 : Nat), (1 : Nat), (1 : Nat), (1 : Nat)])]
                                    (Sy.mk
                                      [SV.int IntKind.i64 a, SV.int IntKind.i64 b, SV.raw (u (2 : Nat)), SV.raw (u (3 : Nat)), SV.bool false, SV.ptr (0 : Nat) p (0 : Nat), SV.raw (u (6 : Nat)),
                                        SV.raw (u (7 : Nat)), SV.raw (u (8 : Nat)), SV.ptr (1 : Nat) q (0 : Nat), SV.int IntKind.i64 e, SV.bool false, SV.raw (u (12 : Nat)), SV.raw (u (13 : Nat)),
                                        SV.raw (u (14 : Nat)), SV.raw (u (15 : Nat)), SV.raw (u (16 : Nat)), SV.raw (u (17 : Nat)), SV.raw (u (18 : Nat)), SV.raw (u (19 : Nat)), SV.raw (u (20 : Nat)),
                                        SV.raw (u (21 : Nat)), SV.raw (u (22 : Nat)), SV.raw (u (23 : Nat)), SV.raw (u (24 : Nat)), SV.raw (u (25 : Nat)), SV.raw (u (26 : Nat)), SV.raw (u (27 : Nat)),
                                        SV.raw (u (28 : Nat)), SV.raw (u (29 : Nat)), SV.raw (u (30 : Nat)), SV.raw (u (31 : Nat)), SV.raw (u (32 : Nat)), SV.raw (u (33 : Nat)), SV.raw (u (34 : Nat)),
                                        SV.raw (u (35 : Nat)), SV.raw (u (36 : Nat)), SV.raw (u (37 : Nat)), SV.raw (u (38 : Nat)), SV.raw (u (39 : Nat)), SV.raw (u (40 : Nat)), SV.raw (u (41 : Nat)),
                                        SV.raw (u (42 : Nat)), SV.raw (u (43 : Nat)), SV.raw (u (44 : Nat)), SV.raw (u (45 : Nat)), SV.raw (u (46 : Nat)), SV.raw (u (47 : Nat)), SV.raw (u (48 : Nat)),
                                        SV.raw (u (49 : Nat)), SV.raw (u (50 : Nat)), SV.raw (u (51 : Nat)), SV.raw (u (52 : Nat)), SV.raw (u (53 : Nat)), SV.raw (u (54 : Nat)), SV.raw (u (55 : Nat)),
                                        SV.raw (u (56 : Nat)), SV.ptr (1 : Nat) q (2 : Nat), SV.int IntKind.i64 d2, SV.ptr (0 : Nat) p (2 : Nat), SV.int IntKind.i64 d,
                                        SV.int IntKind.i64 (IntKind.wrap IntKind.i64 (d + (1 : Int))), SV.bool (d2 == IntKind.wrap IntKind.i64 (d + (1 : Int))), SV.bool true,
                                        SV.ptr (1 : Nat) q (1 : Nat), SV.int IntKind.i64 m2, SV.ptr (0 : Nat) p (1 : Nat), SV.int IntKind.i64 m, SV.bool (m2 == m), SV.bool (m2 == m), SV.bool true,
                                        SV.ptr (1 : Nat) q (0 : Nat), SV.int IntKind.i64 y2, SV.ptr (0 : Nat) p (0 : Nat), SV.int IntKind.i64 y, SV.bool (y2 == y), SV.bool (y2 == y), SV.bool false,
                                        SV.ptr (1 : Nat) q (2 : Nat), SV.int IntKind.i64 d2, SV.bool (d2 == (1 : Int)), SV.bool true, SV.ptr (1 : Nat) q (1 : Nat), SV.int IntKind.i64 m2,
                                        SV.ptr (0 : Nat) p (1 : Nat), SV.int IntKind.i64 m, SV.int IntKind.i64 (IntKind.wrap IntKind.i64 (m + (1 : Int))),
                                        SV.bool (m2 == IntKind.wrap IntKind.i64 (m + (1 : Int))), SV.bool false, SV.raw (Value.tuple #[]), SV.raw (Value.tuple #[]), SV.raw (Value.tuple #[]),
                                        SV.raw (Value.tuple #[]), SV.raw (Value.tuple #[]), SV.bool false, SV.bool false, SV.ptr (1 : Nat) q (1 : Nat), SV.int IntKind.i64 m2,
                                        SV.bool (m2 == (1 : Int)), SV.bool false, SV.raw (Value.tuple #[]), SV.raw (Value.tuple #[]), SV.raw (Value.tuple #[]), SV.bool false, SV.bool false,
                                        SV.raw (Value.tuple #[]), SV.raw (Value.tuple #[]), SV.raw (Value.tuple #[]), SV.raw (Value.tuple #[]), SV.raw (Value.tuple #[]), SV.raw (Value.tuple #[]),
                                        SV.bool false, SV.bool false, SV.bool false, SV.bool false, SV.int IntKind.i64 e, SV.bool (e == (0 : Int)), SV.bool false, SV.raw (Value.tuple #[]),
                                        SV.raw (Value.tuple #[]), SV.bool false, SV.raw (u (121 : Nat)), SV.raw (u (122 : Nat)), SV.raw (u (123 : Nat)), SV.raw (u (124 : Nat)), SV.raw (u (125 : Nat)),
                                        SV.raw (u (126 : Nat)), SV.raw (u (127 : Nat)), SV.raw (u (128 : Nat)), SV.raw (u (129 : Nat)), SV.raw (u (130 : Nat)), SV.raw (u (131 : Nat)),
                                        SV.raw (u (132 : Nat)), SV.raw (u (133 : Nat)), SV.raw (u (134 : Nat)), SV.raw (u (135 : Nat)), SV.raw (u (136 : Nat)), SV.raw (u (137 : Nat)),
                                        SV.raw (u (138 : Nat)), SV.raw (u (139 : Nat)), SV.raw (u (140 : Nat)), SV.raw (u (141 : Nat)), SV.raw (u (142 : Nat))]
                                      [Ent.mk (Loc.blk p) (SObj.cells [SV.int IntKind.i64 y, SV.int IntKind.i64 m, SV.int IntKind.i64 d] (27 : TypeId)),
                                        Ent.mk (Loc.blk q) (SObj.cells [SV.int IntKind.i64 y2, SV.int IntKind.i64 m2, SV.int IntKind.i64 d2] (27 : TypeId))])
                    | false =>
                      true = true ∧
                        true = true ∧
                          true = true ∧
                            true = true ∧
                              true = true ∧
                                true = true ∧
                                  true = true ∧
                                    true = true ∧
                                      true = true ∧
                                        true = true ∧
                                          true = true ∧
                                            true = true ∧
                                              true = true ∧
                                                true = true ∧
                                                  true = true ∧
                                                    true = true ∧
                                                      true = true ∧
                                                        true = true ∧
                                                          true = true ∧
                                                            true = true ∧
                                                              true = true ∧
                                                                match e == (0 : Int) with
                                                                | true =>
                                                                  N
                                                                    [Ent.mk (Loc.blk p) (SObj.cells [SV.int IntKind.i64 y, SV.int IntKind.i64 m, SV.int IntKind.i64 d] (27 : TypeId)),
                                                                      Ent.mk (Loc.blk q) (SObj.cells [SV.int IntKind.i64 y2, SV.int IntKind.i64 m2, SV.int IntKind.i64 d2] (27 : TypeId))]
                                                                    (SV.bool false)
                                                                | false =>
                                                                  K
                                                                    [Frm.code (codeAt (bodyOf Try.f7) [(1 : Nat), (1 : Nat), (1 : Nat), (1 : Nat), (0 : Nat)]),
                                                                      Frm.code (codeAt (bodyOf Try.f7) [(1 : Nat), (1 : Nat), (1 : Nat), (1 : Nat), (1 : Nat)])]
                                                                    (Sy.mk
                                                                      [SV.int IntKind.i64 a, SV.int IntKind.i64 b, SV.raw (u (2 : Nat)), SV.raw (u (3 : Nat)), SV.bool false,
                                                                        SV.ptr (0 : Nat) p (0 : Nat), SV.raw (u (6 : Nat)), SV.raw (u (7 : Nat)), SV.raw (u (8 : Nat)), SV.ptr (1 : Nat) q (0 : Nat),
                                                                        SV.int IntKind.i64 e, SV.bool false, SV.raw (u (12 : Nat)), SV.raw (u (13 : Nat)), SV.raw (u (14 : Nat)), SV.raw (u (15 : Nat)),
                                                                        SV.raw (u (16 : Nat)), SV.raw (u (17 : Nat)), SV.raw (u (18 : Nat)), SV.raw (u (19 : Nat)), SV.raw (u (20 : Nat)),
                                                                        SV.raw (u (21 : Nat)), SV.raw (u (22 : Nat)), SV.raw (u (23 : Nat)), SV.raw (u (24 : Nat)), SV.raw (u (25 : Nat)),
                                                                        SV.raw (u (26 : Nat)), SV.raw (u (27 : Nat)), SV.raw (u (28 : Nat)), SV.raw (u (29 : Nat)), SV.raw (u (30 : Nat)),
                                                                        SV.raw (u (31 : Nat)), SV.raw (u (32 : Nat)), SV.raw (u (33 : Nat)), SV.raw (u (34 : Nat)), SV.raw (u (35 : Nat)),
                                                                        SV.raw (u (36 : Nat)), SV.raw (u (37 : Nat)), SV.raw (u (38 : Nat)), SV.raw (u (39 : Nat)), SV.raw (u (40 : Nat)),
                                                                        SV.raw (u (41 : Nat)), SV.raw (u (42 : Nat)), SV.raw (u (43 : Nat)), SV.raw (u (44 : Nat)), SV.raw (u (45 : Nat)),
                                                                        SV.raw (u (46 : Nat)), SV.raw (u (47 : Nat)), SV.raw (u (48 : Nat)), SV.raw (u (49 : Nat)), SV.raw (u (50 : Nat)),
                                                                        SV.raw (u (51 : Nat)), SV.raw (u (52 : Nat)), SV.raw (u (53 : Nat)), SV.raw (u (54 : Nat)), SV.raw (u (55 : Nat)),
                                                                        SV.raw (u (56 : Nat)), SV.ptr (1 : Nat) q (2 : Nat), SV.int IntKind.i64 d2, SV.ptr (0 : Nat) p (2 : Nat), SV.int IntKind.i64 d,
                                                                        SV.int IntKind.i64 (IntKind.wrap IntKind.i64 (d + (1 : Int))), SV.bool (d2 == IntKind.wrap IntKind.i64 (d + (1 : Int))),
                                                                        SV.bool true, SV.ptr (1 : Nat) q (1 : Nat), SV.int IntKind.i64 m2, SV.ptr (0 : Nat) p (1 : Nat), SV.int IntKind.i64 m,
                                                                        SV.bool (m2 == m), SV.bool (m2 == m), SV.bool true, SV.ptr (1 : Nat) q (0 : Nat), SV.int IntKind.i64 y2,
                                                                        SV.ptr (0 : Nat) p (0 : Nat), SV.int IntKind.i64 y, SV.bool (y2 == y), SV.bool (y2 == y), SV.bool false,
                                                                        SV.ptr (1 : Nat) q (2 : Nat), SV.int IntKind.i64 d2, SV.bool (d2 == (1 : Int)), SV.bool false, SV.raw (Value.tuple #[]),
                                                                        SV.raw (Value.tuple #[]), SV.raw (Value.tuple #[]), SV.raw (Value.tuple #[]), SV.raw (Value.tuple #[]),
                                                                        SV.raw (Value.tuple #[]), SV.raw (Value.tuple #[]), SV.raw (Value.tuple #[]), SV.raw (Value.tuple #[]),
                                                                        SV.raw (Value.tuple #[]), SV.raw (Value.tuple #[]), SV.raw (Value.tuple #[]), SV.raw (Value.tuple #[]),
                                                                        SV.raw (Value.tuple #[]), SV.raw (Value.tuple #[]), SV.raw (Value.tuple #[]), SV.raw (Value.tuple #[]),
                                                                        SV.raw (Value.tuple #[]), SV.raw (Value.tuple #[]), SV.raw (Value.tuple #[]), SV.raw (Value.tuple #[]),
                                                                        SV.raw (Value.tuple #[]), SV.raw (Value.tuple #[]), SV.raw (Value.tuple #[]), SV.raw (Value.tuple #[]),
                                                                        SV.raw (Value.tuple #[]), SV.raw (Value.tuple #[]), SV.raw (Value.tuple #[]), SV.raw (Value.tuple #[]),
                                                                        SV.raw (Value.tuple #[]), SV.raw (Value.tuple #[]), SV.bool false, SV.bool false, SV.int IntKind.i64 e,
                                                                        SV.bool (e == (0 : Int)), SV.bool false, SV.raw (Value.tuple #[]), SV.raw (Value.tuple #[]), SV.bool false,
                                                                        SV.raw (u (121 : Nat)), SV.raw (u (122 : Nat)), SV.raw (u (123 : Nat)), SV.raw (u (124 : Nat)), SV.raw (u (125 : Nat)),
                                                                        SV.raw (u (126 : Nat)), SV.raw (u (127 : Nat)), SV.raw (u (128 : Nat)), SV.raw (u (129 : Nat)), SV.raw (u (130 : Nat)),
                                                                        SV.raw (u (131 : Nat)), SV.raw (u (132 : Nat)), SV.raw (u (133 : Nat)), SV.raw (u (134 : Nat)), SV.raw (u (135 : Nat)),
                                                                        SV.raw (u (136 : Nat)), SV.raw (u (137 : Nat)), SV.raw (u (138 : Nat)), SV.raw (u (139 : Nat)), SV.raw (u (140 : Nat)),
                                                                        SV.raw (u (141 : Nat)), SV.raw (u (142 : Nat))]
                                                                      [Ent.mk (Loc.blk p) (SObj.cells [SV.int IntKind.i64 y, SV.int IntKind.i64 m, SV.int IntKind.i64 d] (27 : TypeId)),
                                                                        Ent.mk (Loc.blk q) (SObj.cells [SV.int IntKind.i64 y2, SV.int IntKind.i64 m2, SV.int IntKind.i64 d2] (27 : TypeId))])
          | false =>
            q = q ∧
              match d2 == (1 : Int) with
              | true =>
                q = q ∧
                  p = p ∧
                    match m2 == IntKind.wrap IntKind.i64 (m + (1 : Int)) with
                    | true =>
                      q = q ∧
                        p = p ∧
                          match y2 == y with
                          | true =>
                            true = true ∧
                              true = true ∧
                                true = true ∧
                                  true = true ∧
                                    true = true ∧
                                      true = true ∧
                                        true = true ∧
                                          true = true ∧
                                            true = true ∧
                                              match e == (0 : Int) with
                                              | true =>
                                                K
                                                  [Frm.code (codeAt (bodyOf Try.f7) [(1 : Nat), (1 : Nat), (1 : Nat), (1 : Nat), (0 : Nat)]),
                                                    Frm.code (codeAt (bodyOf Try.f7) [(1 : Nat), (1 : Nat), (1 : Nat), (1 : Nat), (1 : Nat)])]
                                                  (Sy.mk
                                                    [SV.int IntKind.i64 a, SV.int IntKind.i64 b, SV.raw (u (2 : Nat)), SV.raw (u (3 : Nat)), SV.bool false, SV.ptr (0 : Nat) p (0 : Nat),
                                                      SV.raw (u (6 : Nat)), SV.raw (u (7 : Nat)), SV.raw (u (8 : Nat)), SV.ptr (1 : Nat) q (0 : Nat), SV.int IntKind.i64 e, SV.bool true,
                                                      SV.raw (u (12 : Nat)), SV.raw (u (13 : Nat)), SV.raw (u (14 : Nat)), SV.raw (u (15 : Nat)), SV.raw (u (16 : Nat)), SV.raw (u (17 : Nat)),
                                                      SV.raw (u (18 : Nat)), SV.raw (u (19 : Nat)), SV.raw (u (20 : Nat)), SV.raw (u (21 : Nat)), SV.raw (u (22 : Nat)), SV.raw (u (23 : Nat)),
                                                      SV.raw (u (24 : Nat)), SV.raw (u (25 : Nat)), SV.raw (u (26 : Nat)), SV.raw (u (27 : Nat)), SV.raw (u (28 : Nat)), SV.raw (u (29 : Nat)),
                                                      SV.raw (u (30 : Nat)), SV.raw (u (31 : Nat)), SV.raw (u (32 : Nat)), SV.raw (u (33 : Nat)), SV.raw (u (34 : Nat)), SV.raw (u (35 : Nat)),
                                                      SV.raw (u (36 : Nat)), SV.raw (u (37 : Nat)), SV.raw (u (38 : Nat)), SV.raw (u (39 : Nat)), SV.raw (u (40 : Nat)), SV.raw (u (41 : Nat)),
                                                      SV.raw (u (42 : Nat)), SV.raw (u (43 : Nat)), SV.raw (u (44 : Nat)), SV.raw (u (45 : Nat)), SV.raw (u (46 : Nat)), SV.raw (u (47 : Nat)),
                                                      SV.raw (u (48 : Nat)), SV.raw (u (49 : Nat)), SV.raw (u (50 : Nat)), SV.raw (u (51 : Nat)), SV.raw (u (52 : Nat)), SV.raw (u (53 : Nat)),
                                                      SV.raw (u (54 : Nat)), SV.raw (u (55 : Nat)), SV.raw (u (56 : Nat)), SV.ptr (1 : Nat) q (2 : Nat), SV.int IntKind.i64 d2,
                                                      SV.ptr (0 : Nat) p (2 : Nat), SV.int IntKind.i64 d, SV.int IntKind.i64 (IntKind.wrap IntKind.i64 (d + (1 : Int))),
                                                      SV.bool (d2 == IntKind.wrap IntKind.i64 (d + (1 : Int))), SV.bool true, SV.ptr (1 : Nat) q (1 : Nat), SV.int IntKind.i64 m2,
                                                      SV.ptr (0 : Nat) p (1 : Nat), SV.int IntKind.i64 m, SV.bool (m2 == m), SV.bool (m2 == m), SV.bool false, SV.raw (Value.tuple #[]),
                                                      SV.raw (Value.tuple #[]), SV.raw (Value.tuple #[]), SV.raw (Value.tuple #[]), SV.raw (Value.tuple #[]), SV.bool false, SV.bool false,
                                                      SV.ptr (1 : Nat) q (2 : Nat), SV.int IntKind.i64 d2, SV.bool (d2 == (1 : Int)), SV.bool true, SV.ptr (1 : Nat) q (1 : Nat), SV.int IntKind.i64 m2,
                                                      SV.ptr (0 : Nat) p (1 : Nat), SV.int IntKind.i64 m, SV.int IntKind.i64 (IntKind.wrap IntKind.i64 (m + (1 : Int))),
                                                      SV.bool (m2 == IntKind.wrap IntKind.i64 (m + (1 : Int))), SV.bool true, SV.ptr (1 : Nat) q (0 : Nat), SV.int IntKind.i64 y2,
                                                      SV.ptr (0 : Nat) p (0 : Nat), SV.int IntKind.i64 y, SV.bool (y2 == y), SV.bool (y2 == y), SV.bool true, SV.raw (Value.tuple #[]),
                                                      SV.raw (Value.tuple #[]), SV.raw (Value.tuple #[]), SV.raw (Value.tuple #[]), SV.raw (Value.tuple #[]), SV.raw (Value.tuple #[]),
                                                      SV.raw (Value.tuple #[]), SV.raw (Value.tuple #[]), SV.raw (Value.tuple #[]), SV.raw (Value.tuple #[]), SV.raw (Value.tuple #[]),
                                                      SV.raw (Value.tuple #[]), SV.raw (Value.tuple #[]), SV.raw (Value.tuple #[]), SV.raw (Value.tuple #[]), SV.raw (Value.tuple #[]), SV.bool true,
                                                      SV.bool true, SV.bool true, SV.int IntKind.i64 e, SV.bool (e == (0 : Int)), SV.bool true, SV.bool true, SV.bool false, SV.bool false,
                                                      SV.raw (u (121 : Nat)), SV.raw (u (122 : Nat)), SV.raw (u (123 : Nat)), SV.raw (u (124 : Nat)), SV.raw (u (125 : Nat)), SV.raw (u (126 : Nat)),
                                                      SV.raw (u (127 : Nat)), SV.raw (u (128 : Nat)), SV.raw (u (129 : Nat)), SV.raw (u (130 : Nat)), SV.raw (u (131 : Nat)), SV.raw (u (132 : Nat)),
                                                      SV.raw (u (133 : Nat)), SV.raw (u (134 : Nat)), SV.raw (u (135 : Nat)), SV.raw (u (136 : Nat)), SV.raw (u (137 : Nat)), SV.raw (u (138 : Nat)),
                                                      SV.raw (u (139 : Nat)), SV.raw (u (140 : Nat)), SV.raw (u (141 : Nat)), SV.raw (u (142 : Nat))]
                                                    [Ent.mk (Loc.blk p) (SObj.cells [SV.int IntKind.i64 y, SV.int IntKind.i64 m, SV.int IntKind.i64 d] (27 : TypeId)),
                                                      Ent.mk (Loc.blk q) (SObj.cells [SV.int IntKind.i64 y2, SV.int IntKind.i64 m2, SV.int IntKind.i64 d2] (27 : TypeId))])
                                              | false =>
                                                K
                                                  [Frm.code (codeAt (bodyOf Try.f7) [(1 : Nat), (1 : Nat), (1 : Nat), (1 : Nat), (0 : Nat)]),
                                                    Frm.code (codeAt (bodyOf Try.f7) [(1 : Nat), (1 : Nat), (1 : Nat), (1 : Nat), (1 : Nat)])]
                                                  (Sy.mk
                                                    [SV.int IntKind.i64 a, SV.int IntKind.i64 b, SV.raw (u (2 : Nat)), SV.raw (u (3 : Nat)), SV.bool false, SV.ptr (0 : Nat) p (0 : Nat),
                                                      SV.raw (u (6 : Nat)), SV.raw (u (7 : Nat)), SV.raw (u (8 : Nat)), SV.ptr (1 : Nat) q (0 : Nat), SV.int IntKind.i64 e, SV.bool true,
                                                      SV.raw (u (12 : Nat)), SV.raw (u (13 : Nat)), SV.raw (u (14 : Nat)), SV.raw (u (15 : Nat)), SV.raw (u (16 : Nat)), SV.raw (u (17 : Nat)),
                                                      SV.raw (u (18 : Nat)), SV.raw (u (19 : Nat)), SV.raw (u (20 : Nat)), SV.raw (u (21 : Nat)), SV.raw (u (22 : Nat)), SV.raw (u (23 : Nat)),
                                                      SV.raw (u (24 : Nat)), SV.raw (u (25 : Nat)), SV.raw (u (26 : Nat)), SV.raw (u (27 : Nat)), SV.raw (u (28 : Nat)), SV.raw (u (29 : Nat)),
                                                      SV.raw (u (30 : Nat)), SV.raw (u (31 : Nat)), SV.raw (u (32 : Nat)), SV.raw (u (33 : Nat)), SV.raw (u (34 : Nat)), SV.raw (u (35 : Nat)),
                                                      SV.raw (u (36 : Nat)), SV.raw (u (37 : Nat)), SV.raw (u (38 : Nat)), SV.raw (u (39 : Nat)), SV.raw (u (40 : Nat)), SV.raw (u (41 : Nat)),
                                                      SV.raw (u (42 : Nat)), SV.raw (u (43 : Nat)), SV.raw (u (44 : Nat)), SV.raw (u (45 : Nat)), SV.raw (u (46 : Nat)), SV.raw (u (47 : Nat)),
                                                      SV.raw (u (48 : Nat)), SV.raw (u (49 : Nat)), SV.raw (u (50 : Nat)), SV.raw (u (51 : Nat)), SV.raw (u (52 : Nat)), SV.raw (u (53 : Nat)),
                                                      SV.raw (u (54 : Nat)), SV.raw (u (55 : Nat)), SV.raw (u (56 : Nat)), SV.ptr (1 : Nat) q (2 : Nat), SV.int IntKind.i64 d2,
                                                      SV.ptr (0 : Nat) p (2 : Nat), SV.int IntKind.i64 d, SV.int IntKind.i64 (IntKind.wrap IntKind.i64 (d + (1 : Int))),
                                                      SV.bool (d2 == IntKind.wrap IntKind.i64 (d + (1 : Int))), SV.bool true, SV.ptr (1 : Nat) q (1 : Nat), SV.int IntKind.i64 m2,
                                                      SV.ptr (0 : Nat) p (1 : Nat), SV.int IntKind.i64 m, SV.bool (m2 == m), SV.bool (m2 == m), SV.bool false, SV.raw (Value.tuple #[]),
                                                      SV.raw (Value.tuple #[]), SV.raw (Value.tuple #[]), SV.raw (Value.tuple #[]), SV.raw (Value.tuple #[]), SV.bool false, SV.bool false,
                                                      SV.ptr (1 : Nat) q (2 : Nat), SV.int IntKind.i64 d2, SV.bool (d2 == (1 : Int)), SV.bool true, SV.ptr (1 : Nat) q (1 : Nat), SV.int IntKind.i64 m2,
                                                      SV.ptr (0 : Nat) p (1 : Nat), SV.int IntKind.i64 m, SV.int IntKind.i64 (IntKind.wrap IntKind.i64 (m + (1 : Int))),
                                                      SV.bool (m2 == IntKind.wrap IntKind.i64 (m + (1 : Int))), SV.bool true, SV.ptr (1 : Nat) q (0 : Nat), SV.int IntKind.i64 y2,
                                                      SV.ptr (0 : Nat) p (0 : Nat), SV.int IntKind.i64 y, SV.bool (y2 == y), SV.bool (y2 == y), SV.bool true, SV.raw (Value.tuple #[]),
                                                      SV.raw (Value.tuple #[]), SV.raw (Value.tuple #[]), SV.raw (Value.tuple #[]), SV.raw (Value.tuple #[]), SV.raw (Value.tuple #[]),
                                                      SV.raw (Value.tuple #[]), SV.raw (Value.tuple #[]), SV.raw (Value.tuple #[]), SV.raw (Value.tuple #[]), SV.raw (Value.tuple #[]),
                                                      SV.raw (Value.tuple #[]), SV.raw (Value.tuple #[]), SV.raw (Value.tuple #[]), SV.raw (Value.tuple #[]), SV.raw (Value.tuple #[]), SV.bool true,
                                                      SV.bool true, SV.bool true, SV.int IntKind.i64 e, SV.bool (e == (0 : Int)), SV.bool false, SV.raw (Value.tuple #[]), SV.raw (Value.tuple #[]),
                                                      SV.bool false, SV.raw (u (121 : Nat)), SV.raw (u (122 : Nat)), SV.raw (u (123 : Nat)), SV.raw (u (124 : Nat)), SV.raw (u (125 : Nat)),
                                                      SV.raw (u (126 : Nat)), SV.raw (u (127 : Nat)), SV.raw (u (128 : Nat)), SV.raw (u (129 : Nat)), SV.raw (u (130 : Nat)), SV.raw (u (131 : Nat)),
                                                      SV.raw (u (132 : Nat)), SV.raw (u (133 : Nat)), SV.raw (u (134 : Nat)), SV.raw (u (135 : Nat)), SV.raw (u (136 : Nat)), SV.raw (u (137 : Nat)),
                                                      SV.raw (u (138 : Nat)), SV.raw (u (139 : Nat)), SV.raw (u (140 : Nat)), SV.raw (u (141 : Nat)), SV.raw (u (142 : Nat))]
                                                    [Ent.mk (Loc.blk p) (SObj.cells [SV.int IntKind.i64 y, SV.int IntKind.i64 m, SV.int IntKind.i64 d] (27 : TypeId)),
                                                      Ent.mk (Loc.blk q) (SObj.cells [SV.int IntKind.i64 y2, SV.int IntKind.i64 m2, SV.int IntKind.i64 d2] (27 : TypeId))])
                          | false =>
                            q = q ∧
                              match m2 == (1 : Int) with
                              | true =>
                                p = p ∧
                                  match m == (12 : Int) with
                                  | true =>
                                    q = q ∧
                                      p = p ∧
                                        match e == (0 : Int) with
                                        | true =>
                                          match !y2 == IntKind.wrap IntKind.i64 (y + (1 : Int)) with
                                          | true =>
                                            N
                                              [Ent.mk (Loc.blk p) (SObj.cells [SV.int IntKind.i64 y, SV.int IntKind.i64 m, SV.int IntKind.i64 d] (27 : TypeId)),
                                                Ent.mk (Loc.blk q) (SObj.cells [SV.int IntKind.i64 y2, SV.int IntKind.i64 m2, SV.int IntKind.i64 d2] (27 : TypeId))]
                                              (SV.bool false)
                                          | false =>
                                            K
                                              [Frm.code (codeAt (bodyOf Try.f7) [(1 : Nat), (1 : Nat), (1 : Nat), (1 : Nat), (0 : Nat)]),
                                                Frm.code (codeAt (bodyOf Try.f7) [(1 : Nat), (1 : Nat), (1 : Nat), (1 : Nat), (1 : Nat)])]
                                              (Sy.mk
                                                [SV.int IntKind.i64 a, SV.int IntKind.i64 b, SV.raw (u (2 : Nat)), SV.raw (u (3 : Nat)), SV.bool false, SV.ptr (0 : Nat) p (0 : Nat),
                                                  SV.raw (u (6 : Nat)), SV.raw (u (7 : Nat)), SV.raw (u (8 : Nat)), SV.ptr (1 : Nat) q (0 : Nat), SV.int IntKind.i64 e,
                                                  SV.bool (y2 == IntKind.wrap IntKind.i64 (y + (1 : Int))), SV.raw (u (12 : Nat)), SV.raw (u (13 : Nat)), SV.raw (u (14 : Nat)), SV.raw (u (15 : Nat)),
                                                  SV.raw (u (16 : Nat)), SV.raw (u (17 : Nat)), SV.raw (u (18 : Nat)), SV.raw (u (19 : Nat)), SV.raw (u (20 : Nat)), SV.raw (u (21 : Nat)),
                                                  SV.raw (u (22 : Nat)), SV.raw (u (23 : Nat)), SV.raw (u (24 : Nat)), SV.raw (u (25 : Nat)), SV.raw (u (26 : Nat)), SV.raw (u (27 : Nat)),
                                                  SV.raw (u (28 : Nat)), SV.raw (u (29 : Nat)), SV.raw (u (30 : Nat)), SV.raw (u (31 : Nat)), SV.raw (u (32 : Nat)), SV.raw (u (33 : Nat)),
                                                  SV.raw (u (34 : Nat)), SV.raw (u (35 : Nat)), SV.raw (u (36 : Nat)), SV.raw (u (37 : Nat)), SV.raw (u (38 : Nat)), SV.raw (u (39 : Nat)),
                                                  SV.raw (u (40 : Nat)), SV.raw (u (41 : Nat)), SV.raw (u (42 : Nat)), SV.raw (u (43 : Nat)), SV.raw (u (44 : Nat)), SV.raw (u (45 : Nat)),
                                                  SV.raw (u (46 : Nat)), SV.raw (u (47 : Nat)), SV.raw (u (48 : Nat)), SV.raw (u (49 : Nat)), SV.raw (u (50 : Nat)), SV.raw (u (51 : Nat)),
                                                  SV.raw (u (52 : Nat)), SV.raw (u (53 : Nat)), SV.raw (u (54 : Nat)), SV.raw (u (55 : Nat)), SV.raw (u (56 : Nat)), SV.ptr (1 : Nat) q (2 : Nat),
                                                  SV.int IntKind.i64 d2, SV.ptr (0 : Nat) p (2 : Nat), SV.int IntKind.i64 d, SV.int IntKind.i64 (IntKind.wrap IntKind.i64 (d + (1 : Int))),
                                                  SV.bool (d2 == IntKind.wrap IntKind.i64 (d + (1 : Int))), SV.bool true, SV.ptr (1 : Nat) q (1 : Nat), SV.int IntKind.i64 m2,
                                                  SV.ptr (0 : Nat) p (1 : Nat), SV.int IntKind.i64 m, SV.bool (m2 == m), SV.bool (m2 == m), SV.bool false, SV.raw (Value.tuple #[]),
                                                  SV.raw (Value.tuple #[]), SV.raw (Value.tuple #[]), SV.raw (Value.tuple #[]), SV.raw (Value.tuple #[]), SV.bool false, SV.bool false,
                                                  SV.ptr (1 : Nat) q (2 : Nat), SV.int IntKind.i64 d2, SV.bool (d2 == (1 : Int)), SV.bool true, SV.ptr (1 : Nat) q (1 : Nat), SV.int IntKind.i64 m2,
                                                  SV.ptr (0 : Nat) p (1 : Nat), SV.int IntKind.i64 m, SV.int IntKind.i64 (IntKind.wrap IntKind.i64 (m + (1 : Int))),
                                                  SV.bool (m2 == IntKind.wrap IntKind.i64 (m + (1 : Int))), SV.bool true, SV.ptr (1 : Nat) q (0 : Nat), SV.int IntKind.i64 y2,
                                                  SV.ptr (0 : Nat) p (0 : Nat), SV.int IntKind.i64 y, SV.bool (y2 == y), SV.bool (y2 == y), SV.bool false, SV.ptr (1 : Nat) q (1 : Nat),
                                                  SV.int IntKind.i64 m2, SV.bool (m2 == (1 : Int)), SV.bool true, SV.ptr (0 : Nat) p (1 : Nat), SV.int IntKind.i64 m, SV.bool (m == (12 : Int)),
                                                  SV.bool (m == (12 : Int)), SV.bool true, SV.ptr (1 : Nat) q (0 : Nat), SV.int IntKind.i64 y2, SV.ptr (0 : Nat) p (0 : Nat), SV.int IntKind.i64 y,
                                                  SV.int IntKind.i64 (IntKind.wrap IntKind.i64 (y + (1 : Int))), SV.bool (y2 == IntKind.wrap IntKind.i64 (y + (1 : Int))),
                                                  SV.bool (y2 == IntKind.wrap IntKind.i64 (y + (1 : Int))), SV.bool (y2 == IntKind.wrap IntKind.i64 (y + (1 : Int))),
                                                  SV.bool (y2 == IntKind.wrap IntKind.i64 (y + (1 : Int))), SV.bool (y2 == IntKind.wrap IntKind.i64 (y + (1 : Int))), SV.int IntKind.i64 e,
                                                  SV.bool (e == (0 : Int)), SV.bool true, SV.bool (y2 == IntKind.wrap IntKind.i64 (y + (1 : Int))),
                                                  SV.bool !y2 == IntKind.wrap IntKind.i64 (y + (1 : Int)), SV.bool false, SV.raw (u (121 : Nat)), SV.raw (u (122 : Nat)), SV.raw (u (123 : Nat)),
                                                  SV.raw (u (124 : Nat)), SV.raw (u (125 : Nat)), SV.raw (u (126 : Nat)), SV.raw (u (127 : Nat)), SV.raw (u (128 : Nat)), SV.raw (u (129 : Nat)),
                                                  SV.raw (u (130 : Nat)), SV.raw (u (131 : Nat)), SV.raw (u (132 : Nat)), SV.raw (u (133 : Nat)), SV.raw (u (134 : Nat)), SV.raw (u (135 : Nat)),
                                                  SV.raw (u (136 : Nat)), SV.raw (u (137 : Nat)), SV.raw (u (138 : Nat)), SV.raw (u (139 : Nat)), SV.raw (u (140 : Nat)), SV.raw (u (141 : Nat)),
                                                  SV.raw (u (142 : Nat))]
                                                [Ent.mk (Loc.blk p) (SObj.cells [SV.int IntKind.i64 y, SV.int IntKind.i64 m, SV.int IntKind.i64 d] (27 : TypeId)),
                                                  Ent.mk (Loc.blk q) (SObj.cells [SV.int IntKind.i64 y2, SV.int IntKind.i64 m2, SV.int IntKind.i64 d2] (27 : TypeId))])
                                        | false =>
                                          K
                                            [Frm.code (codeAt (bodyOf Try.f7) [(1 : Nat), (1 : Nat), (1 : Nat), (1 : Nat), (0 : Nat)]),
                                              Frm.code (codeAt (bodyOf Try.f7) [(1 : Nat), (1 : Nat), (1 : Nat), (1 : Nat), (1 : Nat)])]
                                            (Sy.mk
                                              [SV.int IntKind.i64 a, SV.int IntKind.i64 b, SV.raw (u (2 : Nat)), SV.raw (u (3 : Nat)), SV.bool false, SV.ptr (0 : Nat) p (0 : Nat),
                                                SV.raw (u (6 : Nat)), SV.raw (u (7 : Nat)), SV.raw (u (8 : Nat)), SV.ptr (1 : Nat) q (0 : Nat), SV.int IntKind.i64 e,
                                                SV.bool (y2 == IntKind.wrap IntKind.i64 (y + (1 : Int))), SV.raw (u (12 : Nat)), SV.raw (u (13 : Nat)), SV.raw (u (14 : Nat)), SV.raw (u (15 : Nat)),
                                                SV.raw (u (16 : Nat)), SV.raw (u (17 : Nat)), SV.raw (u (18 : Nat)), SV.raw (u (19 : Nat)), SV.raw (u (20 : Nat)), SV.raw (u (21 : Nat)),
                                                SV.raw (u (22 : Nat)), SV.raw (u (23 : Nat)), SV.raw (u (24 : Nat)), SV.raw (u (25 : Nat)), SV.raw (u (26 : Nat)), SV.raw (u (27 : Nat)),
                                                SV.raw (u (28 : Nat)), SV.raw (u (29 : Nat)), SV.raw (u (30 : Nat)), SV.raw (u (31 : Nat)), SV.raw (u (32 : Nat)), SV.raw (u (33 : Nat)),
                                                SV.raw (u (34 : Nat)), SV.raw (u (35 : Nat)), SV.raw (u (36 : Nat)), SV.raw (u (37 : Nat)), SV.raw (u (38 : Nat)), SV.raw (u (39 : Nat)),
                                                SV.raw (u (40 : Nat)), SV.raw (u (41 : Nat)), SV.raw (u (42 : Nat)), SV.raw (u (43 : Nat)), SV.raw (u (44 : Nat)), SV.raw (u (45 : Nat)),
                                                SV.raw (u (46 : Nat)), SV.raw (u (47 : Nat)), SV.raw (u (48 : Nat)), SV.raw (u (49 : Nat)), SV.raw (u (50 : Nat)), SV.raw (u (51 : Nat)),
                                                SV.raw (u (52 : Nat)), SV.raw (u (53 : Nat)), SV.raw (u (54 : Nat)), SV.raw (u (55 : Nat)), SV.raw (u (56 : Nat)), SV.ptr (1 : Nat) q (2 : Nat),
                                                SV.int IntKind.i64 d2, SV.ptr (0 : Nat) p (2 : Nat), SV.int IntKind.i64 d, SV.int IntKind.i64 (IntKind.wrap IntKind.i64 (d + (1 : Int))),
                                                SV.bool (d2 == IntKind.wrap IntKind.i64 (d + (1 : Int))), SV.bool true, SV.ptr (1 : Nat) q (1 : Nat), SV.int IntKind.i64 m2,
                                                SV.ptr (0 : Nat) p (1 : Nat), SV.int IntKind.i64 m, SV.bool (m2 == m), SV.bool (m2 == m), SV.bool false, SV.raw (Value.tuple #[]),
                                                SV.raw (Value.tuple #[]), SV.raw (Value.tuple #[]), SV.raw (Value.tuple #[]), SV.raw (Value.tuple #[]), SV.bool false, SV.bool false,
                                                SV.ptr (1 : Nat) q (2 : Nat), SV.int IntKind.i64 d2, SV.bool (d2 == (1 : Int)), SV.bool true, SV.ptr (1 : Nat) q (1 : Nat), SV.int IntKind.i64 m2,
                                                SV.ptr (0 : Nat) p (1 : Nat), SV.int IntKind.i64 m, SV.int IntKind.i64 (IntKind.wrap IntKind.i64 (m + (1 : Int))),
                                                SV.bool (m2 == IntKind.wrap IntKind.i64 (m + (1 : Int))), SV.bool true, SV.ptr (1 : Nat) q (0 : Nat), SV.int IntKind.i64 y2,
                                                SV.ptr (0 : Nat) p (0 : Nat), SV.int IntKind.i64 y, SV.bool (y2 == y), SV.bool (y2 == y), SV.bool false, SV.ptr (1 : Nat) q (1 : Nat),
                                                SV.int IntKind.i64 m2, SV.bool (m2 == (1 : Int)), SV.bool true, SV.ptr (0 : Nat) p (1 : Nat), SV.int IntKind.i64 m, SV.bool (m == (12 : Int)),
                                                SV.bool (m == (12 : Int)), SV.bool true, SV.ptr (1 : Nat) q (0 : Nat), SV.int IntKind.i64 y2, SV.ptr (0 : Nat) p (0 : Nat), SV.int IntKind.i64 y,
                                                SV.int IntKind.i64 (IntKind.wrap IntKind.i64 (y + (1 : Int))), SV.bool (y2 == IntKind.wrap IntKind.i64 (y + (1 : Int))),
                                                SV.bool (y2 == IntKind.wrap IntKind.i64 (y + (1 : Int))), SV.bool (y2 == IntKind.wrap IntKind.i64 (y + (1 : Int))),
                                                SV.bool (y2 == IntKind.wrap IntKind.i64 (y + (1 : Int))), SV.bool (y2 == IntKind.wrap IntKind.i64 (y + (1 : Int))), SV.int IntKind.i64 e,
                                                SV.bool (e == (0 : Int)), SV.bool false, SV.raw (Value.tuple #[]), SV.raw (Value.tuple #[]), SV.bool false, SV.raw (u (121 : Nat)),
                                                SV.raw (u (122 : Nat)), SV.raw (u (123 : Nat)), SV.raw (u (124 : Nat)), SV.raw (u (125 : Nat)), SV.raw (u (126 : Nat)), SV.raw (u (127 : Nat)),
                                                SV.raw (u (128 : Nat)), SV.raw (u (129 : Nat)), SV.raw (u (130 : Nat)), SV.raw (u (131 : Nat)), SV.raw (u (132 : Nat)), SV.raw (u (133 : Nat)),
                                                SV.raw (u (134 : Nat)), SV.raw (u (135 : Nat)), SV.raw (u (136 : Nat)), SV.raw (u (137 : Nat)), SV.raw (u (138 : Nat)), SV.raw (u (139 : Nat)),
                                                SV.raw (u (140 : Nat)), SV.raw (u (141 : Nat)), SV.raw (u (142 : Nat))]
                                              [Ent.mk (Loc.blk p) (SObj.cells [SV.int IntKind.i64 y, SV.int IntKind.i64 m, SV.int IntKind.i64 d] (27 : TypeId)),
                                                Ent.mk (Loc.blk q) (SObj.cells [SV.int IntKind.i64 y2, SV.int IntKind.i64 m2, SV.int IntKind.i64 d2] (27 : TypeId))])
                                  | false =>
                                    match e == (0 : Int) with
                                    | true =>
                                      N
                                        [Ent.mk (Loc.blk p) (SObj.cells [SV.int IntKind.i64 y, SV.int IntKind.i64 m, SV.int IntKind.i64 d] (27 : TypeId)),
                                          Ent.mk (Loc.blk q) (SObj.cells [SV.int IntKind.i64 y2, SV.int IntKind.i64 m2, SV.int IntKind.i64 d2] (27 : TypeId))]
                                        (SV.bool false)
                                    | false =>
                                      K
                                        [Frm.code (codeAt (bodyOf Try.f7) [(1 : Nat), (1 : Nat), (1 : Nat), (1 : Nat), (0 : Nat)]),
                                          Frm.code (codeAt (bodyOf Try.f7) [(1 : Nat), (1 : Nat), (1 : Nat), (1 : Nat), (1 : Nat)])]
                                        (Sy.mk
                                          [SV.int IntKind.i64 a, SV.int IntKind.i64 b, SV.raw (u (2 : Nat)), SV.raw (u (3 : Nat)), SV.bool false, SV.ptr (0 : Nat) p (0 : Nat), SV.raw (u (6 : Nat)),
                                            SV.raw (u (7 : Nat)), SV.raw (u (8 : Nat)), SV.ptr (1 : Nat) q (0 : Nat), SV.int IntKind.i64 e, SV.bool false, SV.raw (u (12 : Nat)), SV.raw (u (13 : Nat)),
                                            SV.raw (u (14 : Nat)), SV.raw (u (15 : Nat)), SV.raw (u (16 : Nat)), SV.raw (u (17 : Nat)), SV.raw (u (18 : Nat)), SV.raw (u (19 : Nat)),
                                            SV.raw (u (20 : Nat)), SV.raw (u (21 : Nat)), SV.raw (u (22 : Nat)), SV.raw (u (23 : Nat)), SV.raw (u (24 : Nat)), SV.raw (u (25 : Nat)),
                                            SV.raw (u (26 : Nat)), SV.raw (u (27 : Nat)), SV.raw (u (28 : Nat)), SV.raw (u (29 : Nat)), SV.raw (u (30 : Nat)), SV.raw (u (31 : Nat)),
                                            SV.raw (u (32 : Nat)), SV.raw (u (33 : Nat)), SV.raw (u (34 : Nat)), SV.raw (u (35 : Nat)), SV.raw (u (36 : Nat)), SV.raw (u (37 : Nat)),
                                            SV.raw (u (38 : Nat)), SV.raw (u (39 : Nat)), SV.raw (u (40 : Nat)), SV.raw (u (41 : Nat)), SV.raw (u (42 : Nat)), SV.raw (u (43 : Nat)),
                                            SV.raw (u (44 : Nat)), SV.raw (u (45 : Nat)), SV.raw (u (46 : Nat)), SV.raw (u (47 : Nat)), SV.raw (u (48 : Nat)), SV.raw (u (49 : Nat)),
                                            SV.raw (u (50 : Nat)), SV.raw (u (51 : Nat)), SV.raw (u (52 : Nat)), SV.raw (u (53 : Nat)), SV.raw (u (54 : Nat)), SV.raw (u (55 : Nat)),
                                            SV.raw (u (56 : Nat)), SV.ptr (1 : Nat) q (2 : Nat), SV.int IntKind.i64 d2, SV.ptr (0 : Nat) p (2 : Nat), SV.int IntKind.i64 d,
                                            SV.int IntKind.i64 (IntKind.wrap IntKind.i64 (d + (1 : Int))), SV.bool (d2 == IntKind.wrap IntKind.i64 (d + (1 : Int))), SV.bool true,
                                            SV.ptr (1 : Nat) q (1 : Nat), SV.int IntKind.i64 m2, SV.ptr (0 : Nat) p (1 : Nat), SV.int IntKind.i64 m, SV.bool (m2 == m), SV.bool (m2 == m),
                                            SV.bool false, SV.raw (Value.tuple #[]), SV.raw (Value.tuple #[]), SV.raw (Value.tuple #[]), SV.raw (Value.tuple #[]), SV.raw (Value.tuple #[]),
                                            SV.bool false, SV.bool false, SV.ptr (1 : Nat) q (2 : Nat), SV.int IntKind.i64 d2, SV.bool (d2 == (1 : Int)), SV.bool true, SV.ptr (1 : Nat) q (1 : Nat),
                                            SV.int IntKind.i64 m2, SV.ptr (0 : Nat) p (1 : Nat), SV.int IntKind.i64 m, SV.int IntKind.i64 (IntKind.wrap IntKind.i64 (m + (1 : Int))),
                                            SV.bool (m2 == IntKind.wrap IntKind.i64 (m + (1 : Int))), SV.bool true, SV.ptr (1 : Nat) q (0 : Nat), SV.int IntKind.i64 y2, SV.ptr (0 : Nat) p (0 : Nat),
                                            SV.int IntKind.i64 y, SV.bool (y2 == y), SV.bool (y2 == y), SV.bool false, SV.ptr (1 : Nat) q (1 : Nat), SV.int IntKind.i64 m2, SV.bool (m2 == (1 : Int)),
                                            SV.bool true, SV.ptr (0 : Nat) p (1 : Nat), SV.int IntKind.i64 m, SV.bool (m == (12 : Int)), SV.bool (m == (12 : Int)), SV.bool false,
                                            SV.raw (Value.tuple #[]), SV.raw (Value.tuple #[]), SV.raw (Value.tuple #[]), SV.raw (Value.tuple #[]), SV.raw (Value.tuple #[]), SV.raw (Value.tuple #[]),
                                            SV.bool false, SV.bool false, SV.bool false, SV.bool false, SV.int IntKind.i64 e, SV.bool (e == (0 : Int)), SV.bool false, SV.raw (Value.tuple #[]),
                                            SV.raw (Value.tuple #[]), SV.bool false, SV.raw (u (121 : Nat)), SV.raw (u (122 : Nat)), SV.raw (u (123 : Nat)), SV.raw (u (124 : Nat)),
                                            SV.raw (u (125 : Nat)), SV.raw (u (126 : Nat)), SV.raw (u (127 : Nat)), SV.raw (u (128 : Nat)), SV.raw (u (129 : Nat)), SV.raw (u (130 : Nat)),
                                            SV.raw (u (131 : Nat)), SV.raw (u (132 : Nat)), SV.raw (u (133 : Nat)), SV.raw (u (134 : Nat)), SV.raw (u (135 : Nat)), SV.raw (u (136 : Nat)),
                                            SV.raw (u (137 : Nat)), SV.raw (u (138 : Nat)), SV.raw (u (139 : Nat)), SV.raw (u (140 : Nat)), SV.raw (u (141 : Nat)), SV.raw (u (142 : Nat))]
                                          [Ent.mk (Loc.blk p) (SObj.cells [SV.int IntKind.i64 y, SV.int IntKind.i64 m, SV.int IntKind.i64 d] (27 : TypeId)),
                                            Ent.mk (Loc.blk q) (SObj.cells [SV.int IntKind.i64 y2, SV.int IntKind.i64 m2, SV.int IntKind.i64 d2] (27 : TypeId))])
                              | false =>
                                match e == (0 : Int) with
                                | true =>
                                  N
                                    [Ent.mk (Loc.blk p) (SObj.cells [SV.int IntKind.i64 y, SV.int IntKind.i64 m, SV.int IntKind.i64 d] (27 : TypeId)),
                                      Ent.mk (Loc.blk q) (SObj.cells [SV.int IntKind.i64 y2, SV.int IntKind.i64 m2, SV.int IntKind.i64 d2] (27 : TypeId))]
                                    (SV.bool false)
                                | false =>
                                  K
                                    [Frm.code (codeAt (bodyOf Try.f7) [(1 : Nat), (1 : Nat), (1 : Nat), (1 : Nat), (0 : Nat)]),
                                      Frm.code (codeAt (bodyOf Try.f7) [(1 : Nat), (1 : Nat), (1 : Nat), (1 : Nat), (1 : Nat)])]
                                    (Sy.mk
                                      [SV.int IntKind.i64 a, SV.int IntKind.i64 b, SV.raw (u (2 : Nat)), SV.raw (u (3 : Nat)), SV.bool false, SV.ptr (0 : Nat) p (0 : Nat), SV.raw (u (6 : Nat)),
                                        SV.raw (u (7 : Nat)), SV.raw (u (8 : Nat)), SV.ptr (1 : Nat) q (0 : Nat), SV.int IntKind.i64 e, SV.bool false, SV.raw (u (12 : Nat)), SV.raw (u (13 : Nat)),
                                        SV.raw (u (14 : Nat)), SV.raw (u (15 : Nat)), SV.raw (u (16 : Nat)), SV.raw (u (17 : Nat)), SV.raw (u (18 : Nat)), SV.raw (u (19 : Nat)), SV.raw (u (20 : Nat)),
                                        SV.raw (u (21 : Nat)), SV.raw (u (22 : Nat)), SV.raw (u (23 : Nat)), SV.raw (u (24 : Nat)), SV.raw (u (25 : Nat)), SV.raw (u (26 : Nat)), SV.raw (u (27 : Nat)),
                                        SV.raw (u (28 : Nat)), SV.raw (u (29 : Nat)), SV.raw (u (30 : Nat)), SV.raw (u (31 : Nat)), SV.raw (u (32 : Nat)), SV.raw (u (33 : Nat)), SV.raw (u (34 : Nat)),
                                        SV.raw (u (35 : Nat)), SV.raw (u (36 : Nat)), SV.raw (u (37 : Nat)), SV.raw (u (38 : Nat)), SV.raw (u (39 : Nat)), SV.raw (u (40 : Nat)), SV.raw (u (41 : Nat)),
                                        SV.raw (u (42 : Nat)), SV.raw (u (43 : Nat)), SV.raw (u (44 : Nat)), SV.raw (u (45 : Nat)), SV.raw (u (46 : Nat)), SV.raw (u (47 : Nat)), SV.raw (u (48 : Nat)),
                                        SV.raw (u (49 : Nat)), SV.raw (u (50 : Nat)), SV.raw (u (51 : Nat)), SV.raw (u (52 : Nat)), SV.raw (u (53 : Nat)), SV.raw (u (54 : Nat)), SV.raw (u (55 : Nat)),
                                        SV.raw (u (56 : Nat)), SV.ptr (1 : Nat) q (2 : Nat), SV.int IntKind.i64 d2, SV.ptr (0 : Nat) p (2 : Nat), SV.int IntKind.i64 d,
                                        SV.int IntKind.i64 (IntKind.wrap IntKind.i64 (d + (1 : Int))), SV.bool (d2 == IntKind.wrap IntKind.i64 (d + (1 : Int))), SV.bool true,
                                        SV.ptr (1 : Nat) q (1 : Nat), SV.int IntKind.i64 m2, SV.ptr (0 : Nat) p (1 : Nat), SV.int IntKind.i64 m, SV.bool (m2 == m), SV.bool (m2 == m), SV.bool false,
                                        SV.raw (Value.tuple #[]), SV.raw (Value.tuple #[]), SV.raw (Value.tuple #[]), SV.raw (Value.tuple #[]), SV.raw (Value.tuple #[]), SV.bool false, SV.bool false,
                                        SV.ptr (1 : Nat) q (2 : Nat), SV.int IntKind.i64 d2, SV.bool (d2 == (1 : Int)), SV.bool true, SV.ptr (1 : Nat) q (1 : Nat), SV.int IntKind.i64 m2,
                                        SV.ptr (0 : Nat) p (1 : Nat), SV.int IntKind.i64 m, SV.int IntKind.i64 (IntKind.wrap IntKind.i64 (m + (1 : Int))),
                                        SV.bool (m2 == IntKind.wrap IntKind.i64 (m + (1 : Int))), SV.bool true, SV.ptr (1 : Nat) q (0 : Nat), SV.int IntKind.i64 y2, SV.ptr (0 : Nat) p (0 : Nat),
                                        SV.int IntKind.i64 y, SV.bool (y2 == y), SV.bool (y2 == y), SV.bool false, SV.ptr (1 : Nat) q (1 : Nat), SV.int IntKind.i64 m2, SV.bool (m2 == (1 : Int)),
                                        SV.bool false, SV.raw (Value.tuple #[]), SV.raw (Value.tuple #[]), SV.raw (Value.tuple #[]), SV.bool false, SV.bool false, SV.raw (Value.tuple #[]),
                                        SV.raw (Value.tuple #[]), SV.raw (Value.tuple #[]), SV.raw (Value.tuple #[]), SV.raw (Value.tuple #[]), SV.raw (Value.tuple #[]), SV.bool false, SV.bool false,
                                        SV.bool false, SV.bool false, SV.int IntKind.i64 e, SV.bool (e == (0 : Int)), SV.bool false, SV.raw (Value.tuple #[]), SV.raw (Value.tuple #[]), SV.bool false,
                                        SV.raw (u (121 : Nat)), SV.raw (u (122 : Nat)), SV.raw (u (123 : Nat)), SV.raw (u (124 : Nat)), SV.raw (u (125 : Nat)), SV.raw (u (126 : Nat)),
                                        SV.raw (u (127 : Nat)), SV.raw (u (128 : Nat)), SV.raw (u (129 : Nat)), SV.raw (u (130 : Nat)), SV.raw (u (131 : Nat)), SV.raw (u (132 : Nat)),
                                        SV.raw (u (133 : Nat)), SV.raw (u (134 : Nat)), SV.raw (u (135 : Nat)), SV.raw (u (136 : Nat)), SV.raw (u (137 : Nat)), SV.raw (u (138 : Nat)),
                                        SV.raw (u (139 : Nat)), SV.raw (u (140 : Nat)), SV.raw (u (141 : Nat)), SV.raw (u (142 : Nat))]
                                      [Ent.mk (Loc.blk p) (SObj.cells [SV.int IntKind.i64 y, SV.int IntKind.i64 m, SV.int IntKind.i64 d] (27 : TypeId)),
                                        Ent.mk (Loc.blk q) (SObj.cells [SV.int IntKind.i64 y2, SV.int IntKind.i64 m2, SV.int IntKind.i64 d2] (27 : TypeId))])
                    | false =>
                      q = q ∧
                        match m2 == (1 : Int) with
                        | true =>
                          p = p ∧
                            match m == (12 : Int) with
                            | true =>
                              q = q ∧
                                p = p ∧
                                  match e == (0 : Int) with
                                  | true =>
                                    match !y2 == IntKind.wrap IntKind.i64 (y + (1 : Int)) with
                                    | true =>
                                      N
                                        [Ent.mk (Loc.blk p) (SObj.cells [SV.int IntKind.i64 y, SV.int IntKind.i64 m, SV.int IntKind.i64 d] (27 : TypeId)),
                                          Ent.mk (Loc.blk q) (SObj.cells [SV.int IntKind.i64 y2, SV.int IntKind.i64 m2, SV.int IntKind.i64 d2] (27 : TypeId))]
                                        (SV.bool false)
                                    | false =>
                                      K
                                        [Frm.code (codeAt (bodyOf Try.f7) [(1 : Nat), (1 : Nat), (1 : Nat), (1 : Nat), (0 : Nat)]),
                                          Frm.code (codeAt (bodyOf Try.f7) [(1 : Nat), (1 : Nat), (1 : Nat), (1 : Nat), (1 : Nat)])]
                                        (Sy.mk
                                          [SV.int IntKind.i64 a, SV.int IntKind.i64 b, SV.raw (u (2 : Nat)), SV.raw (u (3 : Nat)), SV.bool false, SV.ptr (0 : Nat) p (0 : Nat), SV.raw (u (6 : Nat)),
                                            SV.raw (u (7 : Nat)), SV.raw (u (8 : Nat)), SV.ptr (1 : Nat) q (0 : Nat), SV.int IntKind.i64 e, SV.bool (y2 == IntKind.wrap IntKind.i64 (y + (1 : Int))),
                                            SV.raw (u (12 : Nat)), SV.raw (u (13 : Nat)), SV.raw (u (14 : Nat)), SV.raw (u (15 : Nat)), SV.raw (u (16 : Nat)), SV.raw (u (17 : Nat)),
                                            SV.raw (u (18 : Nat)), SV.raw (u (19 : Nat)), SV.raw (u (20 : Nat)), SV.raw (u (21 : Nat)), SV.raw (u (22 : Nat)), SV.raw (u (23 : Nat)),
                                            SV.raw (u (24 : Nat)), SV.raw (u (25 : Nat)), SV.raw (u (26 : Nat)), SV.raw (u (27 : Nat)), SV.raw (u (28 : Nat)), SV.raw (u (29 : Nat)),
                                            SV.raw (u (30 : Nat)), SV.raw (u (31 : Nat)), SV.raw (u (32 : Nat)), SV.raw (u (33 : Nat)), SV.raw (u (34 : Nat)), SV.raw (u (35 : Nat)),
                                            SV.raw (u (36 : Nat)), SV.raw (u (37 : Nat)), SV.raw (u (38 : Nat)), SV.raw (u (39 : Nat)), SV.raw (u (40 : Nat)), SV.raw (u (41 : Nat)),
                                            SV.raw (u (42 : Nat)), SV.raw (u (43 : Nat)), SV.raw (u (44 : Nat)), SV.raw (u (45 : Nat)), SV.raw (u (46 : Nat)), SV.raw (u (47 : Nat)),
                                            SV.raw (u (48 : Nat)), SV.raw (u (49 : Nat)), SV.raw (u (50 : Nat)), SV.raw (u (51 : Nat)), SV.raw (u (52 : Nat)), SV.raw (u (53 : Nat)),
                                            SV.raw (u (54 : Nat)), SV.raw (u (55 : Nat)), SV.raw (u (56 : Nat)), SV.ptr (1 : Nat) q (2 : Nat), SV.int IntKind.i64 d2, SV.ptr (0 : Nat) p (2 : Nat),
                                            SV.int IntKind.i64 d, SV.int IntKind.i64 (IntKind.wrap IntKind.i64 (d + (1 : Int))), SV.bool (d2 == IntKind.wrap IntKind.i64 (d + (1 : Int))), SV.bool true,
                                            SV.ptr (1 : Nat) q (1 : Nat), SV.int IntKind.i64 m2, SV.ptr (0 : Nat) p (1 : Nat), SV.int IntKind.i64 m, SV.bool (m2 == m), SV.bool (m2 == m),
                                            SV.bool false, SV.raw (Value.tuple #[]), SV.raw (Value.tuple #[]), SV.raw (Value.tuple #[]), SV.raw (Value.tuple #[]), SV.raw (Value.tuple #[]),
                                            SV.bool false, SV.bool false, SV.ptr (1 : Nat) q (2 : Nat), SV.int IntKind.i64 d2, SV.bool (d2 == (1 : Int)), SV.bool true, SV.ptr (1 : Nat) q (1 : Nat),
                                            SV.int IntKind.i64 m2, SV.ptr (0 : Nat) p (1 : Nat), SV.int IntKind.i64 m, SV.int IntKind.i64 (IntKind.wrap IntKind.i64 (m + (1 : Int))),
                                            SV.bool (m2 == IntKind.wrap IntKind.i64 (m + (1 : Int))), SV.bool false, SV.raw (Value.tuple #[]), SV.raw (Value.tuple #[]), SV.raw (Value.tuple #[]),
                                            SV.raw (Value.tuple #[]), SV.raw (Value.tuple #[]), SV.bool false, SV.bool false, SV.ptr (1 : Nat) q (1 : Nat), SV.int IntKind.i64 m2,
                                            SV.bool (m2 == (1 : Int)), SV.bool true, SV.ptr (0 : Nat) p (1 : Nat), SV.int IntKind.i64 m, SV.bool (m == (12 : Int)), SV.bool (m == (12 : Int)),
                                            SV.bool true, SV.ptr (1 : Nat) q (0 : Nat), SV.int IntKind.i64 y2, SV.ptr (0 : Nat) p (0 : Nat), SV.int IntKind.i64 y,
                                            SV.int IntKind.i64 (IntKind.wrap IntKind.i64 (y + (1 : Int))), SV.bool (y2 == IntKind.wrap IntKind.i64 (y + (1 : Int))),
                                            SV.bool (y2 == IntKind.wrap IntKind.i64 (y + (1 : Int))), SV.bool (y2 == IntKind.wrap IntKind.i64 (y + (1 : Int))),
                                            SV.bool (y2 == IntKind.wrap IntKind.i64 (y + (1 : Int))), SV.bool (y2 == IntKind.wrap IntKind.i64 (y + (1 : Int))), SV.int IntKind.i64 e,
                                            SV.bool (e == (0 : Int)), SV.bool true, SV.bool (y2 == IntKind.wrap IntKind.i64 (y + (1 : Int))), SV.bool !y2 == IntKind.wrap IntKind.i64 (y + (1 : Int)),
                                            SV.bool false, SV.raw (u (121 : Nat)), SV.raw (u (122 : Nat)), SV.raw (u (123 : Nat)), SV.raw (u (124 : Nat)), SV.raw (u (125 : Nat)),
                                            SV.raw (u (126 : Nat)), SV.raw (u (127 : Nat)), SV.raw (u (128 : Nat)), SV.raw (u (129 : Nat)), SV.raw (u (130 : Nat)), SV.raw (u (131 : Nat)),
                                            SV.raw (u (132 : Nat)), SV.raw (u (133 : Nat)), SV.raw (u (134 : Nat)), SV.raw (u (135 : Nat)), SV.raw (u (136 : Nat)), SV.raw (u (137 : Nat)),
                                            SV.raw (u (138 : Nat)), SV.raw (u (139 : Nat)), SV.raw (u (140 : Nat)), SV.raw (u (141 : Nat)), SV.raw (u (142 : Nat))]
                                          [Ent.mk (Loc.blk p) (SObj.cells [SV.int IntKind.i64 y, SV.int IntKind.i64 m, SV.int IntKind.i64 d] (27 : TypeId)),
                                            Ent.mk (Loc.blk q) (SObj.cells [SV.int IntKind.i64 y2, SV.int IntKind.i64 m2, SV.int IntKind.i64 d2] (27 : TypeId))])
                                  | false =>
                                    K
                                      [Frm.code (codeAt (bodyOf Try.f7) [(1 : Nat), (1 : Nat), (1 : Nat), (1 : Nat), (0 : Nat)]),
                                        Frm.code (codeAt (bodyOf Try.f7) [(1 : Nat), (1 : Nat), (1 : Nat), (1 : Nat), (1 : Nat)])]
                                      (Sy.mk
                                        [SV.int IntKind.i64 a, SV.int IntKind.i64 b, SV.raw (u (2 : Nat)), SV.raw (u (3 : Nat)), SV.bool false, SV.ptr (0 : Nat) p (0 : Nat), SV.raw (u (6 : Nat)),
                                          SV.raw (u (7 : Nat)), SV.raw (u (8 : Nat)), SV.ptr (1 : Nat) q (0 : Nat), SV.int IntKind.i64 e, SV.bool (y2 == IntKind.wrap IntKind.i64 (y + (1 : Int))),
                                          SV.raw (u (12 : Nat)), SV.raw (u (13 : Nat)), SV.raw (u (14 : Nat)), SV.raw (u (15 : Nat)), SV.raw (u (16 : Nat)), SV.raw (u (17 : Nat)),
                                          SV.raw (u (18 : Nat)), SV.raw (u (19 : Nat)), SV.raw (u (20 : Nat)), SV.raw (u (21 : Nat)), SV.raw (u (22 : Nat)), SV.raw (u (23 : Nat)),
                                          SV.raw (u (24 : Nat)), SV.raw (u (25 : Nat)), SV.raw (u (26 : Nat)), SV.raw (u (27 : Nat)), SV.raw (u (28 : Nat)), SV.raw (u (29 : Nat)),
                                          SV.raw (u (30 : Nat)), SV.raw (u (31 : Nat)), SV.raw (u (32 : Nat)), SV.raw (u (33 : Nat)), SV.raw (u (34 : Nat)), SV.raw (u (35 : Nat)),
                                          SV.raw (u (36 : Nat)), SV.raw (u (37 : Nat)), SV.raw (u (38 : Nat)), SV.raw (u (39 : Nat)), SV.raw (u (40 : Nat)), SV.raw (u (41 : Nat)),
                                          SV.raw (u (42 : Nat)), SV.raw (u (43 : Nat)), SV.raw (u (44 : Nat)), SV.raw (u (45 : Nat)), SV.raw (u (46 : Nat)), SV.raw (u (47 : Nat)),
                                          SV.raw (u (48 : Nat)), SV.raw (u (49 : Nat)), SV.raw (u (50 : Nat)), SV.raw (u (51 : Nat)), SV.raw (u (52 : Nat)), SV.raw (u (53 : Nat)),
                                          SV.raw (u (54 : Nat)), SV.raw (u (55 : Nat)), SV.raw (u (56 : Nat)), SV.ptr (1 : Nat) q (2 : Nat), SV.int IntKind.i64 d2, SV.ptr (0 : Nat) p (2 : Nat),
                                          SV.int IntKind.i64 d, SV.int IntKind.i64 (IntKind.wrap IntKind.i64 (d + (1 : Int))), SV.bool (d2 == IntKind.wrap IntKind.i64 (d + (1 : Int))), SV.bool true,
                                          SV.ptr (1 : Nat) q (1 : Nat), SV.int IntKind.i64 m2, SV.ptr (0 : Nat) p (1 : Nat), SV.int IntKind.i64 m, SV.bool (m2 == m), SV.bool (m2 == m), SV.bool false,
                                          SV.raw (Value.tuple #[]), SV.raw (Value.tuple #[]), SV.raw (Value.tuple #[]), SV.raw (Value.tuple #[]), SV.raw (Value.tuple #[]), SV.bool false,
                                          SV.bool false, SV.ptr (1 : Nat) q (2 : Nat), SV.int IntKind.i64 d2, SV.bool (d2 == (1 : Int)), SV.bool true, SV.ptr (1 : Nat) q (1 : Nat),
                                          SV.int IntKind.i64 m2, SV.ptr (0 : Nat) p (1 : Nat), SV.int IntKind.i64 m, SV.int IntKind.i64 (IntKind.wrap IntKind.i64 (m + (1 : Int))),
                                          SV.bool (m2 == IntKind.wrap IntKind.i64 (m + (1 : Int))), SV.bool false, SV.raw (Value.tuple #[]), SV.raw (Value.tuple #[]), SV.raw (Value.tuple #[]),
                                          SV.raw (Value.tuple #[]), SV.raw (Value.tuple #[]), SV.bool false, SV.bool false, SV.ptr (1 : Nat) q (1 : Nat), SV.int IntKind.i64 m2,
                                          SV.bool (m2 == (1 : Int)), SV.bool true, SV.ptr (0 : Nat) p (1 : Nat), SV.int IntKind.i64 m, SV.bool (m == (12 : Int)), SV.bool (m == (12 : Int)),
                                          SV.bool true, SV.ptr (1 : Nat) q (0 : Nat), SV.int IntKind.i64 y2, SV.ptr (0 : Nat) p (0 : Nat), SV.int IntKind.i64 y,
                                          SV.int IntKind.i64 (IntKind.wrap IntKind.i64 (y + (1 : Int))), SV.bool (y2 == IntKind.wrap IntKind.i64 (y + (1 : Int))),
                                          SV.bool (y2 == IntKind.wrap IntKind.i64 (y + (1 : Int))), SV.bool (y2 == IntKind.wrap IntKind.i64 (y + (1 : Int))),
                                          SV.bool (y2 == IntKind.wrap IntKind.i64 (y + (1 : Int))), SV.bool (y2 == IntKind.wrap IntKind.i64 (y + (1 : Int))), SV.int IntKind.i64 e,
                                          SV.bool (e == (0 : Int)), SV.bool false, SV.raw (Value.tuple #[]), SV.raw (Value.tuple #[]), SV.bool false, SV.raw (u (121 : Nat)), SV.raw (u (122 : Nat)),
                                          SV.raw (u (123 : Nat)), SV.raw (u (124 : Nat)), SV.raw (u (125 : Nat)), SV.raw (u (126 : Nat)), SV.raw (u (127 : Nat)), SV.raw (u (128 : Nat)),
                                          SV.raw (u (129 : Nat)), SV.raw (u (130 : Nat)), SV.raw (u (131 : Nat)), SV.raw (u (132 : Nat)), SV.raw (u (133 : Nat)), SV.raw (u (134 : Nat)),
                                          SV.raw (u (135 : Nat)), SV.raw (u (136 : Nat)), SV.raw (u (137 : Nat)), SV.raw (u (138 : Nat)), SV.raw (u (139 : Nat)), SV.raw (u (140 : Nat)),
                                          SV.raw (u (141 : Nat)), SV.raw (u (142 : Nat))]
                                        [Ent.mk (Loc.blk p) (SObj.cells [SV.int IntKind.i64 y, SV.int IntKind.i64 m, SV.int IntKind.i64 d] (27 : TypeId)),
                                          Ent.mk (Loc.blk q) (SObj.cells [SV.int IntKind.i64 y2, SV.int IntKind.i64 m2, SV.int IntKind.i64 d2] (27 : TypeId))])
                            | false =>
                              match e == (0 : Int) with
                              | true =>
                                N
                                  [Ent.mk (Loc.blk p) (SObj.cells [SV.int IntKind.i64 y, SV.int IntKind.i64 m, SV.int IntKind.i64 d] (27 : TypeId)),
                                    Ent.mk (Loc.blk q) (SObj.cells [SV.int IntKind.i64 y2, SV.int IntKind.i64 m2, SV.int IntKind.i64 d2] (27 : TypeId))]
                                  (SV.bool false)
                              | false =>
                                K
                                  [Frm.code (codeAt (bodyOf Try.f7) [(1 : Nat), (1 : Nat), (1 : Nat), (1 : Nat), (0 : Nat)]),
                                    Frm.code (codeAt (bodyOf Try.f7) [(1 : Nat), (1 : Nat), (1 : Nat), (1 : Nat), (1 : Nat)])]
                                  (Sy.mk
                                    [SV.int IntKind.i64 a, SV.int IntKind.i64 b, SV.raw (u (2 : Nat)), SV.raw (u (3 : Nat)), SV.bool false, SV.ptr (0 : Nat) p (0 : Nat), SV.raw (u (6 : Nat)),
                                      SV.raw (u (7 : Nat)), SV.raw (u (8 : Nat)), SV.ptr (1 : Nat) q (0 : Nat), SV.int IntKind.i64 e, SV.bool false, SV.raw (u (12 : Nat)), SV.raw (u (13 : Nat)),
                                      SV.raw (u (14 : Nat)), SV.raw (u (15 : Nat)), SV.raw (u (16 : Nat)), SV.raw (u (17 : Nat)), SV.raw (u (18 : Nat)), SV.raw (u (19 : Nat)), SV.raw (u (20 : Nat)),
                                      SV.raw (u (21 : Nat)), SV.raw (u (22 : Nat)), SV.raw (u (23 : Nat)), SV.raw (u (24 : Nat)), SV.raw (u (25 : Nat)), SV.raw (u (26 : Nat)), SV.raw (u (27 : Nat)),
                                      SV.raw (u (28 : Nat)), SV.raw (u (29 : Nat)), SV.raw (u (30 : Nat)), SV.raw (u (31 : Nat)), SV.raw (u (32 : Nat)), SV.raw (u (33 : Nat)), SV.raw (u (34 : Nat)),
                                      SV.raw (u (35 : Nat)), SV.raw (u (36 : Nat)), SV.raw (u (37 : Nat)), SV.raw (u (38 : Nat)), SV.raw (u (39 : Nat)), SV.raw (u (40 : Nat)), SV.raw (u (41 : Nat)),
                                      SV.raw (u (42 : Nat)), SV.raw (u (43 : Nat)), SV.raw (u (44 : Nat)), SV.raw (u (45 : Nat)), SV.raw (u (46 : Nat)), SV.raw (u (47 : Nat)), SV.raw (u (48 : Nat)),
                                      SV.raw (u (49 : Nat)), SV.raw (u (50 : Nat)), SV.raw (u (51 : Nat)), SV.raw (u (52 : Nat)), SV.raw (u (53 : Nat)), SV.raw (u (54 : Nat)), SV.raw (u (55 : Nat)),
                                      SV.raw (u (56 : Nat)), SV.ptr (1 : Nat) q (2 : Nat), SV.int IntKind.i64 d2, SV.ptr (0 : Nat) p (2 : Nat), SV.int IntKind.i64 d,
                                      SV.int IntKind.i64 (IntKind.wrap IntKind.i64 (d + (1 : Int))), SV.bool (d2 == IntKind.wrap IntKind.i64 (d + (1 : Int))), SV.bool true,
                                      SV.ptr (1 : Nat) q (1 : Nat), SV.int IntKind.i64 m2, SV.ptr (0 : Nat) p (1 : Nat), SV.int IntKind.i64 m, SV.bool (m2 == m), SV.bool (m2 == m), SV.bool false,
                                      SV.raw (Value.tuple #[]), SV.raw (Value.tuple #[]), SV.raw (Value.tuple #[]), SV.raw (Value.tuple #[]), SV.raw (Value.tuple #[]), SV.bool false, SV.bool false,
                                      SV.ptr (1 : Nat) q (2 : Nat), SV.int IntKind.i64 d2, SV.bool (d2 == (1 : Int)), SV.bool true, SV.ptr (1 : Nat) q (1 : Nat), SV.int IntKind.i64 m2,
                                      SV.ptr (0 : Nat) p (1 : Nat), SV.int IntKind.i64 m, SV.int IntKind.i64 (IntKind.wrap IntKind.i64 (m + (1 : Int))),
                                      SV.bool (m2 == IntKind.wrap IntKind.i64 (m + (1 : Int))), SV.bool false, SV.raw (Value.tuple #[]), SV.raw (Value.tuple #[]), SV.raw (Value.tuple #[]),
                                      SV.raw (Value.tuple #[]), SV.raw (Value.tuple #[]), SV.bool false, SV.bool false, SV.ptr (1 : Nat) q (1 : Nat), SV.int IntKind.i64 m2, SV.bool (m2 == (1 : Int)),
                                      SV.bool true, SV.ptr (0 : Nat) p (1 : Nat), SV.int IntKind.i64 m, SV.bool (m == (12 : Int)), SV.bool (m == (12 : Int)), SV.bool false, SV.raw (Value.tuple #[]),
                                      SV.raw (Value.tuple #[]), SV.raw (Value.tuple #[]), SV.raw (Value.tuple #[]), SV.raw (Value.tuple #[]), SV.raw (Value.tuple #[]), SV.bool false, SV.bool false,
                                      SV.bool false, SV.bool false, SV.int IntKind.i64 e, SV.bool (e == (0 : Int)), SV.bool false, SV.raw (Value.tuple #[]), SV.raw (Value.tuple #[]), SV.bool false,
                                      SV.raw (u (121 : Nat)), SV.raw (u (122 : Nat)), SV.raw (u (123 : Nat)), SV.raw (u (124 : Nat)), SV.raw (u (125 : Nat)), SV.raw (u (126 : Nat)),
                                      SV.raw (u (127 : Nat)), SV.raw (u (128 : Nat)), SV.raw (u (129 : Nat)), SV.raw (u (130 : Nat)), SV.raw (u (131 : Nat)), SV.raw (u (132 : Nat)),
                                      SV.raw (u (133 : Nat)), SV.raw (u (134 : Nat)), SV.raw (u (135 : Nat)), SV.raw (u (136 : Nat)), SV.raw (u (137 : Nat)), SV.raw (u (138 : Nat)),
                                      SV.raw (u (139 : Nat)), SV.raw (u (140 : Nat)), SV.raw (u (141 : Nat)), SV.raw (u (142 : Nat))]
                                    [Ent.mk (Loc.blk p) (SObj.cells [SV.int IntKind.i64 y, SV.int IntKind.i64 m, SV.int IntKind.i64 d] (27 : TypeId)),
                                      Ent.mk (Loc.blk q) (SObj.cells [SV.int IntKind.i64 y2, SV.int IntKind.i64 m2, SV.int IntKind.i64 d2] (27 : TypeId))])
                        | false =>
                          match e == (0 : Int) with
                          | true =>
                            N
                              [Ent.mk (Loc.blk p) (SObj.cells [SV.int IntKind.i64 y, SV.int IntKind.i64 m, SV.int IntKind.i64 d] (27 : TypeId)),
                                Ent.mk (Loc.blk q) (SObj.cells [SV.int IntKind.i64 y2, SV.int IntKind.i64 m2, SV.int IntKind.i64 d2] (27 : TypeId))]
                              (SV.bool false)
                          | false =>
                            K
                              [Frm.code (codeAt (bodyOf Try.f7) [(1 : Nat), (1 : Nat), (1 : Nat), (1 : Nat), (0 : Nat)]),
                                Frm.code (codeAt (bodyOf Try.f7) [(1 : Nat), (1 : Nat), (1 : Nat), (1 : Nat), (1 : Nat)])]
                              (Sy.mk
                                [SV.int IntKind.i64 a, SV.int IntKind.i64 b, SV.raw (u (2 : Nat)), SV.raw (u (3 : Nat)), SV.bool false, SV.ptr (0 : Nat) p (0 : Nat), SV.raw (u (6 : Nat)),
                                  SV.raw (u (7 : Nat)), SV.raw (u (8 : Nat)), SV.ptr (1 : Nat) q (0 : Nat), SV.int IntKind.i64 e, SV.bool false, SV.raw (u (12 : Nat)), SV.raw (u (13 : Nat)),
                                  SV.raw (u (14 : Nat)), SV.raw (u (15 : Nat)), SV.raw (u (16 : Nat)), SV.raw (u (17 : Nat)), SV.raw (u (18 : Nat)), SV.raw (u (19 : Nat)), SV.raw (u (20 : Nat)),
                                  SV.raw (u (21 : Nat)), SV.raw (u (22 : Nat)), SV.raw (u (23 : Nat)), SV.raw (u (24 : Nat)), SV.raw (u (25 : Nat)), SV.raw (u (26 : Nat)), SV.raw (u (27 : Nat)),
                                  SV.raw (u (28 : Nat)), SV.raw (u (29 : Nat)), SV.raw (u (30 : Nat)), SV.raw (u (31 : Nat)), SV.raw (u (32 : Nat)), SV.raw (u (33 : Nat)), SV.raw (u (34 : Nat)),
                                  SV.raw (u (35 : Nat)), SV.raw (u (36 : Nat)), SV.raw (u (37 : Nat)), SV.raw (u (38 : Nat)), SV.raw (u (39 : Nat)), SV.raw (u (40 : Nat)), SV.raw (u (41 : Nat)),
                                  SV.raw (u (42 : Nat)), SV.raw (u (43 : Nat)), SV.raw (u (44 : Nat)), SV.raw (u (45 : Nat)), SV.raw (u (46 : Nat)), SV.raw (u (47 : Nat)), SV.raw (u (48 : Nat)),
                                  SV.raw (u (49 : Nat)), SV.raw (u (50 : Nat)), SV.raw (u (51 : Nat)), SV.raw (u (52 : Nat)), SV.raw (u (53 : Nat)), SV.raw (u (54 : Nat)), SV.raw (u (55 : Nat)),
                                  SV.raw (u (56 : Nat)), SV.ptr (1 : Nat) q (2 : Nat), SV.int IntKind.i64 d2, SV.ptr (0 : Nat) p (2 : Nat), SV.int IntKind.i64 d,
                                  SV.int IntKind.i64 (IntKind.wrap IntKind.i64 (d + (1 : Int))), SV.bool (d2 == IntKind.wrap IntKind.i64 (d + (1 : Int))), SV.bool true, SV.ptr (1 : Nat) q (1 : Nat),
                                  SV.int IntKind.i64 m2, SV.ptr (0 : Nat) p (1 : Nat), SV.int IntKind.i64 m, SV.bool (m2 == m), SV.bool (m2 == m), SV.bool false, SV.raw (Value.tuple #[]),
                                  SV.raw (Value.tuple #[]), SV.raw (Value.tuple #[]), SV.raw (Value.tuple #[]), SV.raw (Value.tuple #[]), SV.bool false, SV.bool false, SV.ptr (1 : Nat) q (2 : Nat),
                                  SV.int IntKind.i64 d2, SV.bool (d2 == (1 : Int)), SV.bool true, SV.ptr (1 : Nat) q (1 : Nat), SV.int IntKind.i64 m2, SV.ptr (0 : Nat) p (1 : Nat),
                                  SV.int IntKind.i64 m, SV.int IntKind.i64 (IntKind.wrap IntKind.i64 (m + (1 : Int))), SV.bool (m2 == IntKind.wrap IntKind.i64 (m + (1 : Int))), SV.bool false,
                                  SV.raw (Value.tuple #[]), SV.raw (Value.tuple #[]), SV.raw (Value.tuple #[]), SV.raw (Value.tuple #[]), SV.raw (Value.tuple #[]), SV.bool false, SV.bool false,
                                  SV.ptr (1 : Nat) q (1 : Nat), SV.int IntKind.i64 m2, SV.bool (m2 == (1 : Int)), SV.bool false, SV.raw (Value.tuple #[]), SV.raw (Value.tuple #[]),
                                  SV.raw (Value.tuple #[]), SV.bool false, SV.bool false, SV.raw (Value.tuple #[]), SV.raw (Value.tuple #[]), SV.raw (Value.tuple #[]), SV.raw (Value.tuple #[]),
                                  SV.raw (Value.tuple #[]), SV.raw (Value.tuple #[]), SV.bool false, SV.bool false, SV.bool false, SV.bool false, SV.int IntKind.i64 e, SV.bool (e == (0 : Int)),
                                  SV.bool false, SV.raw (Value.tuple #[]), SV.raw (Value.tuple #[]), SV.bool false, SV.raw (u (121 : Nat)), SV.raw (u (122 : Nat)), SV.raw (u (123 : Nat)),
                                  SV.raw (u (124 : Nat)), SV.raw (u (125 : Nat)), SV.raw (u (126 : Nat)), SV.raw (u (127 : Nat)), SV.raw (u (128 : Nat)), SV.raw (u (129 : Nat)),
                                  SV.raw (u (130 : Nat)), SV.raw (u (131 : Nat)), SV.raw (u (132 : Nat)), SV.raw (u (133 : Nat)), SV.raw (u (134 : Nat)), SV.raw (u (135 : Nat)),
                                  SV.raw (u (136 : Nat)), SV.raw (u (137 : Nat)), SV.raw (u (138 : Nat)), SV.raw (u (139 : Nat)), SV.raw (u (140 : Nat)), SV.raw (u (141 : Nat)),
                                  SV.raw (u (142 : Nat))]
                                [Ent.mk (Loc.blk p) (SObj.cells [SV.int IntKind.i64 y, SV.int IntKind.i64 m, SV.int IntKind.i64 d] (27 : TypeId)),
                                  Ent.mk (Loc.blk q) (SObj.cells [SV.int IntKind.i64 y2, SV.int IntKind.i64 m2, SV.int IntKind.i64 d2] (27 : TypeId))])
              | false =>
                true = true ∧
                  true = true ∧
                    true = true ∧
                      true = true ∧
                        true = true ∧
                          true = true ∧
                            true = true ∧
                              true = true ∧
                                true = true ∧
                                  true = true ∧
                                    true = true ∧
                                      true = true ∧
                                        true = true ∧
                                          true = true ∧
                                            true = true ∧
                                              true = true ∧
                                                true = true ∧
                                                  true = true ∧
                                                    true = true ∧
                                                      true = true ∧
                                                        true = true ∧
                                                          match e == (0 : Int) with
                                                          | true =>
                                                            N
                                                              [Ent.mk (Loc.blk p) (SObj.cells [SV.int IntKind.i64 y, SV.int IntKind.i64 m, SV.int IntKind.i64 d] (27 : TypeId)),
                                                                Ent.mk (Loc.blk q) (SObj.cells [SV.int IntKind.i64 y2, SV.int IntKind.i64 m2, SV.int IntKind.i64 d2] (27 : TypeId))]
                                                              (SV.bool false)
                                                          | false =>
                                                            K
                                                              [Frm.code (codeAt (bodyOf Try.f7) [(1 : Nat), (1 : Nat), (1 : Nat), (1 : Nat), (0 : Nat)]),
                                                                Frm.code (codeAt (bodyOf Try.f7) [(1 : Nat), (1 : Nat), (1 : Nat), (1 : Nat), (1 : Nat)])]
                                                              (Sy.mk
                                                                [SV.int IntKind.i64 a, SV.int IntKind.i64 b, SV.raw (u (2 : Nat)), SV.raw (u (3 : Nat)), SV.bool false, SV.ptr (0 : Nat) p (0 : Nat),
                                                                  SV.raw (u (6 : Nat)), SV.raw (u (7 : Nat)), SV.raw (u (8 : Nat)), SV.ptr (1 : Nat) q (0 : Nat), SV.int IntKind.i64 e, SV.bool false,
                                                                  SV.raw (u (12 : Nat)), SV.raw (u (13 : Nat)), SV.raw (u (14 : Nat)), SV.raw (u (15 : Nat)), SV.raw (u (16 : Nat)),
                                                                  SV.raw (u (17 : Nat)), SV.raw (u (18 : Nat)), SV.raw (u (19 : Nat)), SV.raw (u (20 : Nat)), SV.raw (u (21 : Nat)),
                                                                  SV.raw (u (22 : Nat)), SV.raw (u (23 : Nat)), SV.raw (u (24 : Nat)), SV.raw (u (25 : Nat)), SV.raw (u (26 : Nat)),
                                                                  SV.raw (u (27 : Nat)), SV.raw (u (28 : Nat)), SV.raw (u (29 : Nat)), SV.raw (u (30 : Nat)), SV.raw (u (31 : Nat)),
                                                                  SV.raw (u (32 : Nat)), SV.raw (u (33 : Nat)), SV.raw (u (34 : Nat)), SV.raw (u (35 : Nat)), SV.raw (u (36 : Nat)),
                                                                  SV.raw (u (37 : Nat)), SV.raw (u (38 : Nat)), SV.raw (u (39 : Nat)), SV.raw (u (40 : Nat)), SV.raw (u (41 : Nat)),
                                                                  SV.raw (u (42 : Nat)), SV.raw (u (43 : Nat)), SV.raw (u (44 : Nat)), SV.raw (u (45 : Nat)), SV.raw (u (46 : Nat)),
                                                                  SV.raw (u (47 : Nat)), SV.raw (u (48 : Nat)), SV.raw (u (49 : Nat)), SV.raw (u (50 : Nat)), SV.raw (u (51 : Nat)),
                                                                  SV.raw (u (52 : Nat)), SV.raw (u (53 : Nat)), SV.raw (u (54 : Nat)), SV.raw (u (55 : Nat)), SV.raw (u (56 : Nat)),
                                                                  SV.ptr (1 : Nat) q (2 : Nat), SV.int IntKind.i64 d2, SV.ptr (0 : Nat) p (2 : Nat), SV.int IntKind.i64 d,
                                                                  SV.int IntKind.i64 (IntKind.wrap IntKind.i64 (d + (1 : Int))), SV.bool (d2 == IntKind.wrap IntKind.i64 (d + (1 : Int))), SV.bool true,
                                                                  SV.ptr (1 : Nat) q (1 : Nat), SV.int IntKind.i64 m2, SV.ptr (0 : Nat) p (1 : Nat), SV.int IntKind.i64 m, SV.bool (m2 == m),
                                                                  SV.bool (m2 == m), SV.bool false, SV.raw (Value.tuple #[]), SV.raw (Value.tuple #[]), SV.raw (Value.tuple #[]),
                                                                  SV.raw (Value.tuple #[]), SV.raw (Value.tuple #[]), SV.bool false, SV.bool false, SV.ptr (1 : Nat) q (2 : Nat), SV.int IntKind.i64 d2,
                                                                  SV.bool (d2 == (1 : Int)), SV.bool false, SV.raw (Value.tuple #[]), SV.raw (Value.tuple #[]), SV.raw (Value.tuple #[]),
                                                                  SV.raw (Value.tuple #[]), SV.raw (Value.tuple #[]), SV.raw (Value.tuple #[]), SV.raw (Value.tuple #[]), SV.raw (Value.tuple #[]),
                                                                  SV.raw (Value.tuple #[]), SV.raw (Value.tuple #[]), SV.raw (Value.tuple #[]), SV.raw (Value.tuple #[]), SV.raw (Value.tuple #[]),
                                                                  SV.raw (Value.tuple #[]), SV.raw (Value.tuple #[]), SV.raw (Value.tuple #[]), SV.raw (Value.tuple #[]), SV.raw (Value.tuple #[]),
                                                                  SV.raw (Value.tuple #[]), SV.raw (Value.tuple #[]), SV.raw (Value.tuple #[]), SV.raw (Value.tuple #[]), SV.raw (Value.tuple #[]),
                                                                  SV.raw (Value.tuple #[]), SV.raw (Value.tuple #[]), SV.raw (Value.tuple #[]), SV.raw (Value.tuple #[]), SV.raw (Value.tuple #[]),
                                                                  SV.raw (Value.tuple #[]), SV.raw (Value.tuple #[]), SV.raw (Value.tuple #[]), SV.bool false, SV.bool false, SV.int IntKind.i64 e,
                                                                  SV.bool (e == (0 : Int)), SV.bool false, SV.raw (Value.tuple #[]), SV.raw (Value.tuple #[]), SV.bool false, SV.raw (u (121 : Nat)),
                                                                  SV.raw (u (122 : Nat)), SV.raw (u (123 : Nat)), SV.raw (u (124 : Nat)), SV.raw (u (125 : Nat)), SV.raw (u (126 : Nat)),
                                                                  SV.raw (u (127 : Nat)), SV.raw (u (128 : Nat)), SV.raw (u (129 : Nat)), SV.raw (u (130 : Nat)), SV.raw (u (131 : Nat)),
                                                                  SV.raw (u (132 : Nat)), SV.raw (u (133 : Nat)), SV.raw (u (134 : Nat)), SV.raw (u (135 : Nat)), SV.raw (u (136 : Nat)),
                                                                  SV.raw (u (137 : Nat)), SV.raw (u (138 : Nat)), SV.raw (u (139 : Nat)), SV.raw (u (140 : Nat)), SV.raw (u (141 : Nat)),
                                                                  SV.raw (u (142 : Nat))]
                                                                [Ent.mk (Loc.blk p) (SObj.cells [SV.int IntKind.i64 y, SV.int IntKind.i64 m, SV.int IntKind.i64 d] (27 : TypeId)),
                                                                  Ent.mk (Loc.blk q) (SObj.cells [SV.int IntKind.i64 y2, SV.int IntKind.i64 m2, SV.int IntKind.i64 d2] (27 : TypeId))])
    | false =>
      q = q ∧
        match d2 == (1 : Int) with
        | true =>
          q = q ∧
            p = p ∧
              match m2 == IntKind.wrap IntKind.i64 (m + (1 : Int)) with
              | true =>
                q = q ∧
                  p = p ∧
                    match y2 == y with
                    | true =>
                      true = true ∧
                        true = true ∧
                          true = true ∧
                            true = true ∧
                              true = true ∧
                                true = true ∧
                                  true = true ∧
                                    true = true ∧
                                      true = true ∧
                                        match e == (0 : Int) with
                                        | true =>
                                          K
                                            [Frm.code (codeAt (bodyOf Try.f7) [(1 : Nat), (1 : Nat), (1 : Nat), (1 : Nat), (0 : Nat)]),
                                              Frm.code (codeAt (bodyOf Try.f7) [(1 : Nat), (1 : Nat), (1 : Nat), (1 : Nat), (1 : Nat)])]
                                            (Sy.mk
                                              [SV.int IntKind.i64 a, SV.int IntKind.i64 b, SV.raw (u (2 : Nat)), SV.raw (u (3 : Nat)), SV.bool false, SV.ptr (0 : Nat) p (0 : Nat),
                                                SV.raw (u (6 : Nat)), SV.raw (u (7 : Nat)), SV.raw (u (8 : Nat)), SV.ptr (1 : Nat) q (0 : Nat), SV.int IntKind.i64 e, SV.bool true,
                                                SV.raw (u (12 : Nat)), SV.raw (u (13 : Nat)), SV.raw (u (14 : Nat)), SV.raw (u (15 : Nat)), SV.raw (u (16 : Nat)), SV.raw (u (17 : Nat)),
                                                SV.raw (u (18 : Nat)), SV.raw (u (19 : Nat)), SV.raw (u (20 : Nat)), SV.raw (u (21 : Nat)), SV.raw (u (22 : Nat)), SV.raw (u (23 : Nat)),
                                                SV.raw (u (24 : Nat)), SV.raw (u (25 : Nat)), SV.raw (u (26 : Nat)), SV.raw (u (27 : Nat)), SV.raw (u (28 : Nat)), SV.raw (u (29 : Nat)),
                                                SV.raw (u (30 : Nat)), SV.raw (u (31 : Nat)), SV.raw (u (32 : Nat)), SV.raw (u (33 : Nat)), SV.raw (u (34 : Nat)), SV.raw (u (35 : Nat)),
                                                SV.raw (u (36 : Nat)), SV.raw (u (37 : Nat)), SV.raw (u (38 : Nat)), SV.raw (u (39 : Nat)), SV.raw (u (40 : Nat)), SV.raw (u (41 : Nat)),
                                                SV.raw (u (42 : Nat)), SV.raw (u (43 : Nat)), SV.raw (u (44 : Nat)), SV.raw (u (45 : Nat)), SV.raw (u (46 : Nat)), SV.raw (u (47 : Nat)),
                                                SV.raw (u (48 : Nat)), SV.raw (u (49 : Nat)), SV.raw (u (50 : Nat)), SV.raw (u (51 : Nat)), SV.raw (u (52 : Nat)), SV.raw (u (53 : Nat)),
                                                SV.raw (u (54 : Nat)), SV.raw (u (55 : Nat)), SV.raw (u (56 : Nat)), SV.ptr (1 : Nat) q (2 : Nat), SV.int IntKind.i64 d2, SV.ptr (0 : Nat) p (2 : Nat),
                                                SV.int IntKind.i64 d, SV.int IntKind.i64 (IntKind.wrap IntKind.i64 (d + (1 : Int))), SV.bool (d2 == IntKind.wrap IntKind.i64 (d + (1 : Int))),
                                                SV.bool false, SV.raw (Value.tuple #[]), SV.raw (Value.tuple #[]), SV.raw (Value.tuple #[]), SV.raw (Value.tuple #[]), SV.raw (Value.tuple #[]),
                                                SV.bool false, SV.bool false, SV.raw (Value.tuple #[]), SV.raw (Value.tuple #[]), SV.raw (Value.tuple #[]), SV.raw (Value.tuple #[]),
                                                SV.raw (Value.tuple #[]), SV.bool false, SV.bool false, SV.ptr (1 : Nat) q (2 : Nat), SV.int IntKind.i64 d2, SV.bool (d2 == (1 : Int)), SV.bool true,
                                                SV.ptr (1 : Nat) q (1 : Nat), SV.int IntKind.i64 m2, SV.ptr (0 : Nat) p (1 : Nat), SV.int IntKind.i64 m,
                                                SV.int IntKind.i64 (IntKind.wrap IntKind.i64 (m + (1 : Int))), SV.bool (m2 == IntKind.wrap IntKind.i64 (m + (1 : Int))), SV.bool true,
                                                SV.ptr (1 : Nat) q (0 : Nat), SV.int IntKind.i64 y2, SV.ptr (0 : Nat) p (0 : Nat), SV.int IntKind.i64 y, SV.bool (y2 == y), SV.bool (y2 == y),
                                                SV.bool true, SV.raw (Value.tuple #[]), SV.raw (Value.tuple #[]), SV.raw (Value.tuple #[]), SV.raw (Value.tuple #[]), SV.raw (Value.tuple #[]),
                                                SV.raw (Value.tuple #[]), SV.raw (Value.tuple #[]), SV.raw (Value.tuple #[]), SV.raw (Value.tuple #[]), SV.raw (Value.tuple #[]),
                                                SV.raw (Value.tuple #[]), SV.raw (Value.tuple #[]), SV.raw (Value.tuple #[]), SV.raw (Value.tuple #[]), SV.raw (Value.tuple #[]),
                                                SV.raw (Value.tuple #[]), SV.bool true, SV.bool true, SV.bool true, SV.int IntKind.i64 e, SV.bool (e == (0 : Int)), SV.bool true, SV.bool true,
                                                SV.bool false, SV.bool false, SV.raw (u (121 : Nat)), SV.raw (u (122 : Nat)), SV.raw (u (123 : Nat)), SV.raw (u (124 : Nat)), SV.raw (u (125 : Nat)),
                                                SV.raw (u (126 : Nat)), SV.raw (u (127 : Nat)), SV.raw (u (128 : Nat)), SV.raw (u (129 : Nat)), SV.raw (u (130 : Nat)), SV.raw (u (131 : Nat)),
                                                SV.raw (u (132 : Nat)), SV.raw (u (133 : Nat)), SV.raw (u (134 : Nat)), SV.raw (u (135 : Nat)), SV.raw (u (136 : Nat)), SV.raw (u (137 : Nat)),
                                                SV.raw (u (138 : Nat)), SV.raw (u (139 : Nat)), SV.raw (u (140 : Nat)), SV.raw (u (141 : Nat)), SV.raw (u (142 : Nat))]
                                              [Ent.mk (Loc.blk p) (SObj.cells [SV.int IntKind.i64 y, SV.int IntKind.i64 m, SV.int IntKind.i64 d] (27 : TypeId)),
                                                Ent.mk (Loc.blk q) (SObj.cells [SV.int IntKind.i64 y2, SV.int IntKind.i64 m2, SV.int IntKind.i64 d2] (27 : TypeId))])
                                        | false =>
                                          K
                                            [Frm.code (codeAt (bodyOf Try.f7) [(1 : Nat), (1 : Nat), (1 : Nat), (1 : Nat), (0 : Nat)]),
                                              Frm.code (codeAt (bodyOf Try.f7) [(1 : Nat), (1 : Nat), (1 : Nat), (1 : Nat), (1 : Nat)])]
                                            (Sy.mk
                                              [SV.int IntKind.i64 a, SV.int IntKind.i64 b, SV.raw (u (2 : Nat)), SV.raw (u (3 : Nat)), SV.bool false, SV.ptr (0 : Nat) p (0 : Nat),
                                                SV.raw (u (6 : Nat)), SV.raw (u (7 : Nat)), SV.raw (u (8 : Nat)), SV.ptr (1 : Nat) q (0 : Nat), SV.int IntKind.i64 e, SV.bool true,
                                                SV.raw (u (12 : Nat)), SV.raw (u (13 : Nat)), SV.raw (u (14 : Nat)), SV.raw (u (15 : Nat)), SV.raw (u (16 : Nat)), SV.raw (u (17 : Nat)),
                                                SV.raw (u (18 : Nat)), SV.raw (u (19 : Nat)), SV.raw (u (20 : Nat)), SV.raw (u (21 : Nat)), SV.raw (u (22 : Nat)), SV.raw (u (23 : Nat)),
                                                SV.raw (u (24 : Nat)), SV.raw (u (25 : Nat)), SV.raw (u (26 : Nat)), SV.raw (u (27 : Nat)), SV.raw (u (28 : Nat)), SV.raw (u (29 : Nat)),
                                                SV.raw (u (30 : Nat)), SV.raw (u (31 : Nat)), SV.raw (u (32 : Nat)), SV.raw (u (33 : Nat)), SV.raw (u (34 : Nat)), SV.raw (u (35 : Nat)),
                                                SV.raw (u (36 : Nat)), SV.raw (u (37 : Nat)), SV.raw (u (38 : Nat)), SV.raw (u (39 : Nat)), SV.raw (u (40 : Nat)), SV.raw (u (41 : Nat)),
                                                SV.raw (u (42 : Nat)), SV.raw (u (43 : Nat)), SV.raw (u (44 : Nat)), SV.raw (u (45 : Nat)), SV.raw (u (46 : Nat)), SV.raw (u (47 : Nat)),
                                                SV.raw (u (48 : Nat)), SV.raw (u (49 : Nat)), SV.raw (u (50 : Nat)), SV.raw (u (51 : Nat)), SV.raw (u (52 : Nat)), SV.raw (u (53 : Nat)),
                                                SV.raw (u (54 : Nat)), SV.raw (u (55 : Nat)), SV.raw (u (56 : Nat)), SV.ptr (1 : Nat) q (2 : Nat), SV.int IntKind.i64 d2, SV.ptr (0 : Nat) p (2 : Nat),
                                                SV.int IntKind.i64 d, SV.int IntKind.i64 (IntKind.wrap IntKind.i64 (d + (1 : Int))), SV.bool (d2 == IntKind.wrap IntKind.i64 (d + (1 : Int))),
                                                SV.bool false, SV.raw (Value.tuple #[]), SV.raw (Value.tuple #[]), SV.raw (Value.tuple #[]), SV.raw (Value.tuple #[]), SV.raw (Value.tuple #[]),
                                                SV.bool false, SV.bool false, SV.raw (Value.tuple #[]), SV.raw (Value.tuple #[]), SV.raw (Value.tuple #[]), SV.raw (Value.tuple #[]),
                                                SV.raw (Value.tuple #[]), SV.bool false, SV.bool false, SV.ptr (1 : Nat) q (2 : Nat), SV.int IntKind.i64 d2, SV.bool (d2 == (1 : Int)), SV.bool true,
                                                SV.ptr (1 : Nat) q (1 : Nat), SV.int IntKind.i64 m2, SV.ptr (0 : Nat) p (1 : Nat), SV.int IntKind.i64 m,
                                                SV.int IntKind.i64 (IntKind.wrap IntKind.i64 (m + (1 : Int))), SV.bool (m2 == IntKind.wrap IntKind.i64 (m + (1 : Int))), SV.bool true,
                                                SV.ptr (1 : Nat) q (0 : Nat), SV.int IntKind.i64 y2, SV.ptr (0 : Nat) p (0 : Nat), SV.int IntKind.i64 y, SV.bool (y2 == y), SV.bool (y2 == y),
                                                SV.bool true, SV.raw (Value.tuple #[]), SV.raw (Value.tuple #[]), SV.raw (Value.tuple #[]), SV.raw (Value.tuple #[]), SV.raw (Value.tuple #[]),
                                                SV.raw (Value.tuple #[]), SV.raw (Value.tuple #[]), SV.raw (Value.tuple #[]), SV.raw (Value.tuple #[]), SV.raw (Value.tuple #[]),
                                                SV.raw (Value.tuple #[]), SV.raw (Value.tuple #[]), SV.raw (Value.tuple #[]), SV.raw (Value.tuple #[]), SV.raw (Value.tuple #[]),
                                                SV.raw (Value.tuple #[]), SV.bool true, SV.bool true, SV.bool true, SV.int IntKind.i64 e, SV.bool (e == (0 : Int)), SV.bool false,
                                                SV.raw (Value.tuple #[]), SV.raw (Value.tuple #[]), SV.bool false, SV.raw (u (121 : Nat)), SV.raw (u (122 : Nat)), SV.raw (u (123 : Nat)),
                                                SV.raw (u (124 : Nat)), SV.raw (u (125 : Nat)), SV.raw (u (126 : Nat)), SV.raw (u (127 : Nat)), SV.raw (u (128 : Nat)), SV.raw (u (129 : Nat)),
                                                SV.raw (u (130 : Nat)), SV.raw (u (131 : Nat)), SV.raw (u (132 : Nat)), SV.raw (u (133 : Nat)), SV.raw (u (134 : Nat)), SV.raw (u (135 : Nat)),
                                                SV.raw (u (136 : Nat)), SV.raw (u (137 : Nat)), SV.raw (u (138 : Nat)), SV.raw (u (139 : Nat)), SV.raw (u (140 : Nat)), SV.raw (u (141 : Nat)),
                                                SV.raw (u (142 : Nat))]
                                              [Ent.mk (Loc.blk p) (SObj.cells [SV.int IntKind.i64 y, SV.int IntKind.i64 m, SV.int IntKind.i64 d] (27 : TypeId)),
                                                Ent.mk (Loc.blk q) (SObj.cells [SV.int IntKind.i64 y2, SV.int IntKind.i64 m2, SV.int IntKind.i64 d2] (27 : TypeId))])
                    | false =>
                      q = q ∧
                        match m2 == (1 : Int) with
                        | true =>
                          p = p ∧
                            match m == (12 : Int) with
                            | true =>
                              q = q ∧
                                p = p ∧
                                  match e == (0 : Int) with
                                  | true =>
                                    match !y2 == IntKind.wrap IntKind.i64 (y + (1 : Int)) with
                                    | true =>
                                      N
                                        [Ent.mk (Loc.blk p) (SObj.cells [SV.int IntKind.i64 y, SV.int IntKind.i64 m, SV.int IntKind.i64 d] (27 : TypeId)),
                                          Ent.mk (Loc.blk q) (SObj.cells [SV.int IntKind.i64 y2, SV.int IntKind.i64 m2, SV.int IntKind.i64 d2] (27 : TypeId))]
                                        (SV.bool false)
                                    | false =>
                                      K
                                        [Frm.code (codeAt (bodyOf Try.f7) [(1 : Nat), (1 : Nat), (1 : Nat), (1 : Nat), (0 : Nat)]),
                                          Frm.code (codeAt (bodyOf Try.f7) [(1 : Nat), (1 : Nat), (1 : Nat), (1 : Nat), (1 : Nat)])]
                                        (Sy.mk
                                          [SV.int IntKind.i64 a, SV.int IntKind.i64 b, SV.raw (u (2 : Nat)), SV.raw (u (3 : Nat)), SV.bool false, SV.ptr (0 : Nat) p (0 : Nat), SV.raw (u (6 : Nat)),
                                            SV.raw (u (7 : Nat)), SV.raw (u (8 : Nat)), SV.ptr (1 : Nat) q (0 : Nat), SV.int IntKind.i64 e, SV.bool (y2 == IntKind.wrap IntKind.i64 (y + (1 : Int))),
                                            SV.raw (u (12 : Nat)), SV.raw (u (13 : Nat)), SV.raw (u (14 : Nat)), SV.raw (u (15 : Nat)), SV.raw (u (16 : Nat)), SV.raw (u (17 : Nat)),
                                            SV.raw (u (18 : Nat)), SV.raw (u (19 : Nat)), SV.raw (u (20 : Nat)), SV.raw (u (21 : Nat)), SV.raw (u (22 : Nat)), SV.raw (u (23 : Nat)),
                                            SV.raw (u (24 : Nat)), SV.raw (u (25 : Nat)), SV.raw (u (26 : Nat)), SV.raw (u (27 : Nat)), SV.raw (u (28 : Nat)), SV.raw (u (29 : Nat)),
                                            SV.raw (u (30 : Nat)), SV.raw (u (31 : Nat)), SV.raw (u (32 : Nat)), SV.raw (u (33 : Nat)), SV.raw (u (34 : Nat)), SV.raw (u (35 : Nat)),
                                            SV.raw (u (36 : Nat)), SV.raw (u (37 : Nat)), SV.raw (u (38 : Nat)), SV.raw (u (39 : Nat)), SV.raw (u (40 : Nat)), SV.raw (u (41 : Nat)),
                                            SV.raw (u (42 : Nat)), SV.raw (u (43 : Nat)), SV.raw (u (44 : Nat)), SV.raw (u (45 : Nat)), SV.raw (u (46 : Nat)), SV.raw (u (47 : Nat)),
                                            SV.raw (u (48 : Nat)), SV.raw (u (49 : Nat)), SV.raw (u (50 : Nat)), SV.raw (u (51 : Nat)), SV.raw (u (52 : Nat)), SV.raw (u (53 : Nat)),
                                            SV.raw (u (54 : Nat)), SV.raw (u (55 : Nat)), SV.raw (u (56 : Nat)), SV.ptr (1 : Nat) q (2 : Nat), SV.int IntKind.i64 d2, SV.ptr (0 : Nat) p (2 : Nat),
                                            SV.int IntKind.i64 d, SV.int IntKind.i64 (IntKind.wrap IntKind.i64 (d + (1 : Int))), SV.bool (d2 == IntKind.wrap IntKind.i64 (d + (1 : Int))),
                                            SV.bool false, SV.raw (Value.tuple #[]), SV.raw (Value.tuple #[]), SV.raw (Value.tuple #[]), SV.raw (Value.tuple #[]), SV.raw (Value.tuple #[]),
                                            SV.bool false, SV.bool false, SV.raw (Value.tuple #[]), SV.raw (Value.tuple #[]), SV.raw (Value.tuple #[]), SV.raw (Value.tuple #[]),
                                            SV.raw (Value.tuple #[]), SV.bool false, SV.bool false, SV.ptr (1 : Nat) q (2 : Nat), SV.int IntKind.i64 d2, SV.bool (d2 == (1 : Int)), SV.bool true,
                                            SV.ptr (1 : Nat) q (1 : Nat), SV.int IntKind.i64 m2, SV.ptr (0 : Nat) p (1 : Nat), SV.int IntKind.i64 m,
                                            SV.int IntKind.i64 (IntKind.wrap IntKind.i64 (m + (1 : Int))), SV.bool (m2 == IntKind.wrap IntKind.i64 (m + (1 : Int))), SV.bool true,
                                            SV.ptr (1 : Nat) q (0 : Nat), SV.int IntKind.i64 y2, SV.ptr (0 : Nat) p (0 : Nat), SV.int IntKind.i64 y, SV.bool (y2 == y), SV.bool (y2 == y),
                                            SV.bool false, SV.ptr (1 : Nat) q (1 : Nat), SV.int IntKind.i64 m2, SV.bool (m2 == (1 : Int)), SV.bool true, SV.ptr (0 : Nat) p (1 : Nat),
                                            SV.int IntKind.i64 m, SV.bool (m == (12 : Int)), SV.bool (m == (12 : Int)), SV.bool true, SV.ptr (1 : Nat) q (0 : Nat), SV.int IntKind.i64 y2,
                                            SV.ptr (0 : Nat) p (0 : Nat), SV.int IntKind.i64 y, SV.int IntKind.i64 (IntKind.wrap IntKind.i64 (y + (1 : Int))),
                                            SV.bool (y2 == IntKind.wrap IntKind.i64 (y + (1 : Int))), SV.bool (y2 == IntKind.wrap IntKind.i64 (y + (1 : Int))),
                                            SV.bool (y2 == IntKind.wrap IntKind.i64 (y + (1 : Int))), SV.bool (y2 == IntKind.wrap IntKind.i64 (y + (1 : Int))),
                                            SV.bool (y2 == IntKind.wrap IntKind.i64 (y + (1 : Int))), SV.int IntKind.i64 e, SV.bool (e == (0 : Int)), SV.bool true,
                                            SV.bool (y2 == IntKind.wrap IntKind.i64 (y + (1 : Int))), SV.bool !y2 == IntKind.wrap IntKind.i64 (y + (1 : Int)), SV.bool false, SV.raw (u (121 : Nat)),
                                            SV.raw (u (122 : Nat)), SV.raw (u (123 : Nat)), SV.raw (u (124 : Nat)), SV.raw (u (125 : Nat)), SV.raw (u (126 : Nat)), SV.raw (u (127 : Nat)),
                                            SV.raw (u (128 : Nat)), SV.raw (u (129 : Nat)), SV.raw (u (130 : Nat)), SV.raw (u (131 : Nat)), SV.raw (u (132 : Nat)), SV.raw (u (133 : Nat)),
                                            SV.raw (u (134 : Nat)), SV.raw (u (135 : Nat)), SV.raw (u (136 : Nat)), SV.raw (u (137 : Nat)), SV.raw (u (138 : Nat)), SV.raw (u (139 : Nat)),
                                            SV.raw (u (140 : Nat)), SV.raw (u (141 : Nat)), SV.raw (u (142 : Nat))]
                                          [Ent.mk (Loc.blk p) (SObj.cells [SV.int IntKind.i64 y, SV.int IntKind.i64 m, SV.int IntKind.i64 d] (27 : TypeId)),
                                            Ent.mk (Loc.blk q) (SObj.cells [SV.int IntKind.i64 y2, SV.int IntKind.i64 m2, SV.int IntKind.i64 d2] (27 : TypeId))])
                                  | false =>
                                    K
                                      [Frm.code (codeAt (bodyOf Try.f7) [(1 : Nat), (1 : Nat), (1 : Nat), (1 : Nat), (0 : Nat)]),
                                        Frm.code (codeAt (bodyOf Try.f7) [(1 : Nat), (1 : Nat), (1 : Nat), (1 : Nat), (1 : Nat)])]
                                      (Sy.mk
                                        [SV.int IntKind.i64 a, SV.int IntKind.i64 b, SV.raw (u (2 : Nat)), SV.raw (u (3 : Nat)), SV.bool false, SV.ptr (0 : Nat) p (0 : Nat), SV.raw (u (6 : Nat)),
                                          SV.raw (u (7 : Nat)), SV.raw (u (8 : Nat)), SV.ptr (1 : Nat) q (0 : Nat), SV.int IntKind.i64 e, SV.bool (y2 == IntKind.wrap IntKind.i64 (y + (1 : Int))),
                                          SV.raw (u (12 : Nat)), SV.raw (u (13 : Nat)), SV.raw (u (14 : Nat)), SV.raw (u (15 : Nat)), SV.raw (u (16 : Nat)), SV.raw (u (17 : Nat)),
                                          SV.raw (u (18 : Nat)), SV.raw (u (19 : Nat)), SV.raw (u (20 : Nat)), SV.raw (u (21 : Nat)), SV.raw (u (22 : Nat)), SV.raw (u (23 : Nat)),
                                          SV.raw (u (24 : Nat)), SV.raw (u (25 : Nat)), SV.raw (u (26 : Nat)), SV.raw (u (27 : Nat)), SV.raw (u (28 : Nat)), SV.raw (u (29 : Nat)),
                                          SV.raw (u (30 : Nat)), SV.raw (u (31 : Nat)), SV.raw (u (32 : Nat)), SV.raw (u (33 : Nat)), SV.raw (u (34 : Nat)), SV.raw (u (35 : Nat)),
                                          SV.raw (u (36 : Nat)), SV.raw (u (37 : Nat)), SV.raw (u (38 : Nat)), SV.raw (u (39 : Nat)), SV.raw (u (40 : Nat)), SV.raw (u (41 : Nat)),
                                          SV.raw (u (42 : Nat)), SV.raw (u (43 : Nat)), SV.raw (u (44 : Nat)), SV.raw (u (45 : Nat)), SV.raw (u (46 : Nat)), SV.raw (u (47 : Nat)),
                                          SV.raw (u (48 : Nat)), SV.raw (u (49 : Nat)), SV.raw (u (50 : Nat)), SV.raw (u (51 : Nat)), SV.raw (u (52 : Nat)), SV.raw (u (53 : Nat)),
                                          SV.raw (u (54 : Nat)), SV.raw (u (55 : Nat)), SV.raw (u (56 : Nat)), SV.ptr (1 : Nat) q (2 : Nat), SV.int IntKind.i64 d2, SV.ptr (0 : Nat) p (2 : Nat),
                                          SV.int IntKind.i64 d, SV.int IntKind.i64 (IntKind.wrap IntKind.i64 (d + (1 : Int))), SV.bool (d2 == IntKind.wrap IntKind.i64 (d + (1 : Int))), SV.bool false,
                                          SV.raw (Value.tuple #[]), SV.raw (Value.tuple #[]), SV.raw (Value.tuple #[]), SV.raw (Value.tuple #[]), SV.raw (Value.tuple #[]), SV.bool false,
                                          SV.bool false, SV.raw (Value.tuple #[]), SV.raw (Value.tuple #[]), SV.raw (Value.tuple #[]), SV.raw (Value.tuple #[]), SV.raw (Value.tuple #[]),
                                          SV.bool false, SV.bool false, SV.ptr (1 : Nat) q (2 : Nat), SV.int IntKind.i64 d2, SV.bool (d2 == (1 : Int)), SV.bool true, SV.ptr (1 : Nat) q (1 : Nat),
                                          SV.int IntKind.i64 m2, SV.ptr (0 : Nat) p (1 : Nat), SV.int IntKind.i64 m, SV.int IntKind.i64 (IntKind.wrap IntKind.i64 (m + (1 : Int))),
                                          SV.bool (m2 == IntKind.wrap IntKind.i64 (m + (1 : Int))), SV.bool true, SV.ptr (1 : Nat) q (0 : Nat), SV.int IntKind.i64 y2, SV.ptr (0 : Nat) p (0 : Nat),
                                          SV.int IntKind.i64 y, SV.bool (y2 == y), SV.bool (y2 == y), SV.bool false, SV.ptr (1 : Nat) q (1 : Nat), SV.int IntKind.i64 m2, SV.bool (m2 == (1 : Int)),
                                          SV.bool true, SV.ptr (0 : Nat) p (1 : Nat), SV.int IntKind.i64 m, SV.bool (m == (12 : Int)), SV.bool (m == (12 : Int)), SV.bool true,
                                          SV.ptr (1 : Nat) q (0 : Nat), SV.int IntKind.i64 y2, SV.ptr (0 : Nat) p (0 : Nat), SV.int IntKind.i64 y,
                                          SV.int IntKind.i64 (IntKind.wrap IntKind.i64 (y + (1 : Int))), SV.bool (y2 == IntKind.wrap IntKind.i64 (y + (1 : Int))),
                                          SV.bool (y2 == IntKind.wrap IntKind.i64 (y + (1 : Int))), SV.bool (y2 == IntKind.wrap IntKind.i64 (y + (1 : Int))),
                                          SV.bool (y2 == IntKind.wrap IntKind.i64 (y + (1 : Int))), SV.bool (y2 == IntKind.wrap IntKind.i64 (y + (1 : Int))), SV.int IntKind.i64 e,
                                          SV.bool (e == (0 : Int)), SV.bool false, SV.raw (Value.tuple #[]), SV.raw (Value.tuple #[]), SV.bool false, SV.raw (u (121 : Nat)), SV.raw (u (122 : Nat)),
                                          SV.raw (u (123 : Nat)), SV.raw (u (124 : Nat)), SV.raw (u (125 : Nat)), SV.raw (u (126 : Nat)), SV.raw (u (127 : Nat)), SV.raw (u (128 : Nat)),
                                          SV.raw (u (129 : Nat)), SV.raw (u (130 : Nat)), SV.raw (u (131 : Nat)), SV.raw (u (132 : Nat)), SV.raw (u (133 : Nat)), SV.raw (u (134 : Nat)),
                                          SV.raw (u (135 : Nat)), SV.raw (u (136 : Nat)), SV.raw (u (137 : Nat)), SV.raw (u (138 : Nat)), SV.raw (u (139 : Nat)), SV.raw (u (140 : Nat)),
                                          SV.raw (u (141 : Nat)), SV.raw (u (142 : Nat))]
                                        [Ent.mk (Loc.blk p) (SObj.cells [SV.int IntKind.i64 y, SV.int IntKind.i64 m, SV.int IntKind.i64 d] (27 : TypeId)),
                                          Ent.mk (Loc.blk q) (SObj.cells [SV.int IntKind.i64 y2, SV.int IntKind.i64 m2, SV.int IntKind.i64 d2] (27 : TypeId))])
                            | false =>
                              match e == (0 : Int) with
                              | true =>
                                N
                                  [Ent.mk (Loc.blk p) (SObj.cells [SV.int IntKind.i64 y, SV.int IntKind.i64 m, SV.int IntKind.i64 d] (27 : TypeId)),
                                    Ent.mk (Loc.blk q) (SObj.cells [SV.int IntKind.i64 y2, SV.int IntKind.i64 m2, SV.int IntKind.i64 d2] (27 : TypeId))]
                                  (SV.bool false)
                              | false =>
                                K
                                  [Frm.code (codeAt (bodyOf Try.f7) [(1 : Nat), (1 : Nat), (1 : Nat), (1 : Nat), (0 : Nat)]),
                                    Frm.code (codeAt (bodyOf Try.f7) [(1 : Nat), (1 : Nat), (1 : Nat), (1 : Nat), (1 : Nat)])]
                                  (Sy.mk
                                    [SV.int IntKind.i64 a, SV.int IntKind.i64 b, SV.raw (u (2 : Nat)), SV.raw (u (3 : Nat)), SV.bool false, SV.ptr (0 : Nat) p (0 : Nat), SV.raw (u (6 : Nat)),
                                      SV.raw (u (7 : Nat)), SV.raw (u (8 : Nat)), SV.ptr (1 : Nat) q (0 : Nat), SV.int IntKind.i64 e, SV.bool false, SV.raw (u (12 : Nat)), SV.raw (u (13 : Nat)),
                                      SV.raw (u (14 : Nat)), SV.raw (u (15 : Nat)), SV.raw (u (16 : Nat)), SV.raw (u (17 : Nat)), SV.raw (u (18 : Nat)), SV.raw (u (19 : Nat)), SV.raw (u (20 : Nat)),
                                      SV.raw (u (21 : Nat)), SV.raw (u (22 : Nat)), SV.raw (u (23 : Nat)), SV.raw (u (24 : Nat)), SV.raw (u (25 : Nat)), SV.raw (u (26 : Nat)), SV.raw (u (27 : Nat)),
                                      SV.raw (u (28 : Nat)), SV.raw (u (29 : Nat)), SV.raw (u (30 : Nat)), SV.raw (u (31 : Nat)), SV.raw (u (32 : Nat)), SV.raw (u (33 : Nat)), SV.raw (u (34 : Nat)),
                                      SV.raw (u (35 : Nat)), SV.raw (u (36 : Nat)), SV.raw (u (37 : Nat)), SV.raw (u (38 : Nat)), SV.raw (u (39 : Nat)), SV.raw (u (40 : Nat)), SV.raw (u (41 : Nat)),
                                      SV.raw (u (42 : Nat)), SV.raw (u (43 : Nat)), SV.raw (u (44 : Nat)), SV.raw (u (45 : Nat)), SV.raw (u (46 : Nat)), SV.raw (u (47 : Nat)), SV.raw (u (48 : Nat)),
                                      SV.raw (u (49 : Nat)), SV.raw (u (50 : Nat)), SV.raw (u (51 : Nat)), SV.raw (u (52 : Nat)), SV.raw (u (53 : Nat)), SV.raw (u (54 : Nat)), SV.raw (u (55 : Nat)),
                                      SV.raw (u (56 : Nat)), SV.ptr (1 : Nat) q (2 : Nat), SV.int IntKind.i64 d2, SV.ptr (0 : Nat) p (2 : Nat), SV.int IntKind.i64 d,
                                      SV.int IntKind.i64 (IntKind.wrap IntKind.i64 (d + (1 : Int))), SV.bool (d2 == IntKind.wrap IntKind.i64 (d + (1 : Int))), SV.bool false, SV.raw (Value.tuple #[]),
                                      SV.raw (Value.tuple #[]), SV.raw (Value.tuple #[]), SV.raw (Value.tuple #[]), SV.raw (Value.tuple #[]), SV.bool false, SV.bool false, SV.raw (Value.tuple #[]),
                                      SV.raw (Value.tuple #[]), SV.raw (Value.tuple #[]), SV.raw (Value.tuple #[]), SV.raw (Value.tuple #[]), SV.bool false, SV.bool false,
                                      SV.ptr (1 : Nat) q (2 : Nat), SV.int IntKind.i64 d2, SV.bool (d2 == (1 : Int)), SV.bool true, SV.ptr (1 : Nat) q (1 : Nat), SV.int IntKind.i64 m2,
                                      SV.ptr (0 : Nat) p (1 : Nat), SV.int IntKind.i64 m, SV.int IntKind.i64 (IntKind.wrap IntKind.i64 (m + (1 : Int))),
                                      SV.bool (m2 == IntKind.wrap IntKind.i64 (m + (1 : Int))), SV.bool true, SV.ptr (1 : Nat) q (0 : Nat), SV.int IntKind.i64 y2, SV.ptr (0 : Nat) p (0 : Nat),
                                      SV.int IntKind.i64 y, SV.bool (y2 == y), SV.bool (y2 == y), SV.bool false, SV.ptr (1 : Nat) q (1 : Nat), SV.int IntKind.i64 m2, SV.bool (m2 == (1 : Int)),
                                      SV.bool true, SV.ptr (0 : Nat) p (1 : Nat), SV.int IntKind.i64 m, SV.bool (m == (12 : Int)), SV.bool (m == (12 : Int)), SV.bool false, SV.raw (Value.tuple #[]),
                                      SV.raw (Value.tuple #[]), SV.raw (Value.tuple #[]), SV.raw (Value.tuple #[]), SV.raw (Value.tuple #[]), SV.raw (Value.tuple #[]), SV.bool false, SV.bool false,
                                      SV.bool false, SV.bool false, SV.int IntKind.i64 e, SV.bool (e == (0 : Int)), SV.bool false, SV.raw (Value.tuple #[]), SV.raw (Value.tuple #[]), SV.bool false,
                                      SV.raw (u (121 : Nat)), SV.raw (u (122 : Nat)), SV.raw (u (123 : Nat)), SV.raw (u (124 : Nat)), SV.raw (u (125 : Nat)), SV.raw (u (126 : Nat)),
                                      SV.raw (u (127 : Nat)), SV.raw (u (128 : Nat)), SV.raw (u (129 : Nat)), SV.raw (u (130 : Nat)), SV.raw (u (131 : Nat)), SV.raw (u (132 : Nat)),
                                      SV.raw (u (133 : Nat)), SV.raw (u (134 : Nat)), SV.raw (u (135 : Nat)), SV.raw (u (136 : Nat)), SV.raw (u (137 : Nat)), SV.raw (u (138 : Nat)),
                                      SV.raw (u (139 : Nat)), SV.raw (u (140 : Nat)), SV.raw (u (141 : Nat)), SV.raw (u (142 : Nat))]
                                    [Ent.mk (Loc.blk p) (SObj.cells [SV.int IntKind.i64 y, SV.int IntKind.i64 m, SV.int IntKind.i64 d] (27 : TypeId)),
                                      Ent.mk (Loc.blk q) (SObj.cells [SV.int IntKind.i64 y2, SV.int IntKind.i64 m2, SV.int IntKind.i64 d2] (27 : TypeId))])
                        | false =>
                          match e == (0 : Int) with
                          | true =>
                            N
                              [Ent.mk (Loc.blk p) (SObj.cells [SV.int IntKind.i64 y, SV.int IntKind.i64 m, SV.int IntKind.i64 d] (27 : TypeId)),
                                Ent.mk (Loc.blk q) (SObj.cells [SV.int IntKind.i64 y2, SV.int IntKind.i64 m2, SV.int IntKind.i64 d2] (27 : TypeId))]
                              (SV.bool false)
                          | false =>
                            K
                              [Frm.code (codeAt (bodyOf Try.f7) [(1 : Nat), (1 : Nat), (1 : Nat), (1 : Nat), (0 : Nat)]),
                                Frm.code (codeAt (bodyOf Try.f7) [(1 : Nat), (1 : Nat), (1 : Nat), (1 : Nat), (1 : Nat)])]
                              (Sy.mk
                                [SV.int IntKind.i64 a, SV.int IntKind.i64 b, SV.raw (u (2 : Nat)), SV.raw (u (3 : Nat)), SV.bool false, SV.ptr (0 : Nat) p (0 : Nat), SV.raw (u (6 : Nat)),
                                  SV.raw (u (7 : Nat)), SV.raw (u (8 : Nat)), SV.ptr (1 : Nat) q (0 : Nat), SV.int IntKind.i64 e, SV.bool false, SV.raw (u (12 : Nat)), SV.raw (u (13 : Nat)),
                                  SV.raw (u (14 : Nat)), SV.raw (u (15 : Nat)), SV.raw (u (16 : Nat)), SV.raw (u (17 : Nat)), SV.raw (u (18 : Nat)), SV.raw (u (19 : Nat)), SV.raw (u (20 : Nat)),
                                  SV.raw (u (21 : Nat)), SV.raw (u (22 : Nat)), SV.raw (u (23 : Nat)), SV.raw (u (24 : Nat)), SV.raw (u (25 : Nat)), SV.raw (u (26 : Nat)), SV.raw (u (27 : Nat)),
                                  SV.raw (u (28 : Nat)), SV.raw (u (29 : Nat)), SV.raw (u (30 : Nat)), SV.raw (u (31 : Nat)), SV.raw (u (32 : Nat)), SV.raw (u (33 : Nat)), SV.raw (u (34 : Nat)),
                                  SV.raw (u (35 : Nat)), SV.raw (u (36 : Nat)), SV.raw (u (37 : Nat)), SV.raw (u (38 : Nat)), SV.raw (u (39 : Nat)), SV.raw (u (40 : Nat)), SV.raw (u (41 : Nat)),
                                  SV.raw (u (42 : Nat)), SV.raw (u (43 : Nat)), SV.raw (u (44 : Nat)), SV.raw (u (45 : Nat)), SV.raw (u (46 : Nat)), SV.raw (u (47 : Nat)), SV.raw (u (48 : Nat)),
                                  SV.raw (u (49 : Nat)), SV.raw (u (50 : Nat)), SV.raw (u (51 : Nat)), SV.raw (u (52 : Nat)), SV.raw (u (53 : Nat)), SV.raw (u (54 : Nat)), SV.raw (u (55 : Nat)),
                                  SV.raw (u (56 : Nat)), SV.ptr (1 : Nat) q (2 : Nat), SV.int IntKind.i64 d2, SV.ptr (0 : Nat) p (2 : Nat), SV.int IntKind.i64 d,
                                  SV.int IntKind.i64 (IntKind.wrap IntKind.i64 (d + (1 : Int))), SV.bool (d2 == IntKind.wrap IntKind.i64 (d + (1 : Int))), SV.bool false, SV.raw (Value.tuple #[]),
                                  SV.raw (Value.tuple #[]), SV.raw (Value.tuple #[]), SV.raw (Value.tuple #[]), SV.raw (Value.tuple #[]), SV.bool false, SV.bool false, SV.raw (Value.tuple #[]),
                                  SV.raw (Value.tuple #[]), SV.raw (Value.tuple #[]), SV.raw (Value.tuple #[]), SV.raw (Value.tuple #[]), SV.bool false, SV.bool false, SV.ptr (1 : Nat) q (2 : Nat),
                                  SV.int IntKind.i64 d2, SV.bool (d2 == (1 : Int)), SV.bool true, SV.ptr (1 : Nat) q (1 : Nat), SV.int IntKind.i64 m2, SV.ptr (0 : Nat) p (1 : Nat),
                                  SV.int IntKind.i64 m, SV.int IntKind.i64 (IntKind.wrap IntKind.i64 (m + (1 : Int))), SV.bool (m2 == IntKind.wrap IntKind.i64 (m + (1 : Int))), SV.bool true,
                                  SV.ptr (1 : Nat) q (0 : Nat), SV.int IntKind.i64 y2, SV.ptr (0 : Nat) p (0 : Nat), SV.int IntKind.i64 y, SV.bool (y2 == y), SV.bool (y2 == y), SV.bool false,
                                  SV.ptr (1 : Nat) q (1 : Nat), SV.int IntKind.i64 m2, SV.bool (m2 == (1 : Int)), SV.bool false, SV.raw (Value.tuple #[]), SV.raw (Value.tuple #[]),
                                  SV.raw (Value.tuple #[]), SV.bool false, SV.bool false, SV.raw (Value.tuple #[]), SV.raw (Value.tuple #[]), SV.raw (Value.tuple #[]), SV.raw (Value.tuple #[]),
                                  SV.raw (Value.tuple #[]), SV.raw (Value.tuple #[]), SV.bool false, SV.bool false, SV.bool false, SV.bool false, SV.int IntKind.i64 e, SV.bool (e == (0 : Int)),
                                  SV.bool false, SV.raw (Value.tuple #[]), SV.raw (Value.tuple #[]), SV.bool false, SV.raw (u (121 : Nat)), SV.raw (u (122 : Nat)), SV.raw (u (123 : Nat)),
                                  SV.raw (u (124 : Nat)), SV.raw (u (125 : Nat)), SV.raw (u (126 : Nat)), SV.raw (u (127 : Nat)), SV.raw (u (128 : Nat)), SV.raw (u (129 : Nat)),
                                  SV.raw (u (130 : Nat)), SV.raw (u (131 : Nat)), SV.raw (u (132 : Nat)), SV.raw (u (133 : Nat)), SV.raw (u (134 : Nat)), SV.raw (u (135 : Nat)),
                                  SV.raw (u (136 : Nat)), SV.raw (u (137 : Nat)), SV.raw (u (138 : Nat)), SV.raw (u (139 : Nat)), SV.raw (u (140 : Nat)), SV.raw (u (141 : Nat)),
                                  SV.raw (u (142 : Nat))]
                                [Ent.mk (Loc.blk p) (SObj.cells [SV.int IntKind.i64 y, SV.int IntKind.i64 m, SV.int IntKind.i64 d] (27 : TypeId)),
                                  Ent.mk (Loc.blk q) (SObj.cells [SV.int IntKind.i64 y2, SV.int IntKind.i64 m2, SV.int IntKind.i64 d2] (27 : TypeId))])
              | false =>
                q = q ∧
                  match m2 == (1 : Int) with
                  | true =>
                    p = p ∧
                      match m == (12 : Int) with
                      | true =>
                        q = q ∧
                          p = p ∧
                            match e == (0 : Int) with
                            | true =>
                              match !y2 == IntKind.wrap IntKind.i64 (y + (1 : Int)) with
                              | true =>
                                N
                                  [Ent.mk (Loc.blk p) (SObj.cells [SV.int IntKind.i64 y, SV.int IntKind.i64 m, SV.int IntKind.i64 d] (27 : TypeId)),
                                    Ent.mk (Loc.blk q) (SObj.cells [SV.int IntKind.i64 y2, SV.int IntKind.i64 m2, SV.int IntKind.i64 d2] (27 : TypeId))]
                                  (SV.bool false)
                              | false =>
                                K
                                  [Frm.code (codeAt (bodyOf Try.f7) [(1 : Nat), (1 : Nat), (1 : Nat), (1 : Nat), (0 : Nat)]),
                                    Frm.code (codeAt (bodyOf Try.f7) [(1 : Nat), (1 : Nat), (1 : Nat), (1 : Nat), (1 : Nat)])]
                                  (Sy.mk
                                    [SV.int IntKind.i64 a, SV.int IntKind.i64 b, SV.raw (u (2 : Nat)), SV.raw (u (3 : Nat)), SV.bool false, SV.ptr (0 : Nat) p (0 : Nat), SV.raw (u (6 : Nat)),
                                      SV.raw (u (7 : Nat)), SV.raw (u (8 : Nat)), SV.ptr (1 : Nat) q (0 : Nat), SV.int IntKind.i64 e, SV.bool (y2 == IntKind.wrap IntKind.i64 (y + (1 : Int))),
                                      SV.raw (u (12 : Nat)), SV.raw (u (13 : Nat)), SV.raw (u (14 : Nat)), SV.raw (u (15 : Nat)), SV.raw (u (16 : Nat)), SV.raw (u (17 : Nat)), SV.raw (u (18 : Nat)),
                                      SV.raw (u (19 : Nat)), SV.raw (u (20 : Nat)), SV.raw (u (21 : Nat)), SV.raw (u (22 : Nat)), SV.raw (u (23 : Nat)), SV.raw (u (24 : Nat)), SV.raw (u (25 : Nat)),
                                      SV.raw (u (26 : Nat)), SV.raw (u (27 : Nat)), SV.raw (u (28 : Nat)), SV.raw (u (29 : Nat)), SV.raw (u (30 : Nat)), SV.raw (u (31 : Nat)), SV.raw (u (32 : Nat)),
                                      SV.raw (u (33 : Nat)), SV.raw (u (34 : Nat)), SV.raw (u (35 : Nat)), SV.raw (u (36 : Nat)), SV.raw (u (37 : Nat)), SV.raw (u (38 : Nat)), SV.raw (u (39 : Nat)),
                                      SV.raw (u (40 : Nat)), SV.raw (u (41 : Nat)), SV.raw (u (42 : Nat)), SV.raw (u (43 : Nat)), SV.raw (u (44 : Nat)), SV.raw (u (45 : Nat)), SV.raw (u (46 : Nat)),
                                      SV.raw (u (47 : Nat)), SV.raw (u (48 : Nat)), SV.raw (u (49 : Nat)), SV.raw (u (50 : Nat)), SV.raw (u (51 : Nat)), SV.raw (u (52 : Nat)), SV.raw (u (53 : Nat)),
                                      SV.raw (u (54 : Nat)), SV.raw (u (55 : Nat)), SV.raw (u (56 : Nat)), SV.ptr (1 : Nat) q (2 : Nat), SV.int IntKind.i64 d2, SV.ptr (0 : Nat) p (2 : Nat),
                                      SV.int IntKind.i64 d, SV.int IntKind.i64 (IntKind.wrap IntKind.i64 (d + (1 : Int))), SV.bool (d2 == IntKind.wrap IntKind.i64 (d + (1 : Int))), SV.bool false,
                                      SV.raw (Value.tuple #[]), SV.raw (Value.tuple #[]), SV.raw (Value.tuple #[]), SV.raw (Value.tuple #[]), SV.raw (Value.tuple #[]), SV.bool false, SV.bool false,
                                      SV.raw (Value.tuple #[]), SV.raw (Value.tuple #[]), SV.raw (Value.tuple #[]), SV.raw (Value.tuple #[]), SV.raw (Value.tuple #[]), SV.bool false, SV.bool false,
                                      SV.ptr (1 : Nat) q (2 : Nat), SV.int IntKind.i64 d2, SV.bool (d2 == (1 : Int)), SV.bool true, SV.ptr (1 : Nat) q (1 : Nat), SV.int IntKind.i64 m2,
                                      SV.ptr (0 : Nat) p (1 : Nat), SV.int IntKind.i64 m, SV.int IntKind.i64 (IntKind.wrap IntKind.i64 (m + (1 : Int))),
                                      SV.bool (m2 == IntKind.wrap IntKind.i64 (m + (1 : Int))), SV.bool false, SV.raw (Value.tuple #[]), SV.raw (Value.tuple #[]), SV.raw (Value.tuple #[]),
                                      SV.raw (Value.tuple #[]), SV.raw (Value.tuple #[]), SV.bool false, SV.bool false, SV.ptr (1 : Nat) q (1 : Nat), SV.int IntKind.i64 m2, SV.bool (m2 == (1 : Int)),
                                      SV.bool true, SV.ptr (0 : Nat) p (1 : Nat), SV.int IntKind.i64 m, SV.bool (m == (12 : Int)), SV.bool (m == (12 : Int)), SV.bool true,
                                      SV.ptr (1 : Nat) q (0 : Nat), SV.int IntKind.i64 y2, SV.ptr (0 : Nat) p (0 : Nat), SV.int IntKind.i64 y,
                                      SV.int IntKind.i64 (IntKind.wrap IntKind.i64 (y + (1 : Int))), SV.bool (y2 == IntKind.wrap IntKind.i64 (y + (1 : Int))),
                                      SV.bool (y2 == IntKind.wrap IntKind.i64 (y + (1 : Int))), SV.bool (y2 == IntKind.wrap IntKind.i64 (y + (1 : Int))),
                                      SV.bool (y2 == IntKind.wrap IntKind.i64 (y + (1 : Int))), SV.bool (y2 == IntKind.wrap IntKind.i64 (y + (1 : Int))), SV.int IntKind.i64 e,
                                      SV.bool (e == (0 : Int)), SV.bool true, SV.bool (y2 == IntKind.wrap IntKind.i64 (y + (1 : Int))), SV.bool !y2 == IntKind.wrap IntKind.i64 (y + (1 : Int)),
                                      SV.bool false, SV.raw (u (121 : Nat)), SV.raw (u (122 : Nat)), SV.raw (u (123 : Nat)), SV.raw (u (124 : Nat)), SV.raw (u (125 : Nat)), SV.raw (u (126 : Nat)),
                                      SV.raw (u (127 : Nat)), SV.raw (u (128 : Nat)), SV.raw (u (129 : Nat)), SV.raw (u (130 : Nat)), SV.raw (u (131 : Nat)), SV.raw (u (132 : Nat)),
                                      SV.raw (u (133 : Nat)), SV.raw (u (134 : Nat)), SV.raw (u (135 : Nat)), SV.raw (u (136 : Nat)), SV.raw (u (137 : Nat)), SV.raw (u (138 : Nat)),
                                      SV.raw (u (139 : Nat)), SV.raw (u (140 : Nat)), SV.raw (u (141 : Nat)), SV.raw (u (142 : Nat))]
                                    [Ent.mk (Loc.blk p) (SObj.cells [SV.int IntKind.i64 y, SV.int IntKind.i64 m, SV.int IntKind.i64 d] (27 : TypeId)),
                                      Ent.mk (Loc.blk q) (SObj.cells [SV.int IntKind.i64 y2, SV.int IntKind.i64 m2, SV.int IntKind.i64 d2] (27 : TypeId))])
                            | false =>
                              K
                                [Frm.code (codeAt (bodyOf Try.f7) [(1 : Nat), (1 : Nat), (1 : Nat), (1 : Nat), (0 : Nat)]),
                                  Frm.code (codeAt (bodyOf Try.f7) [(1 : Nat), (1 : Nat), (1 : Nat), (1 : Nat), (1 : Nat)])]
                                (Sy.mk
                                  [SV.int IntKind.i64 a, SV.int IntKind.i64 b, SV.raw (u (2 : Nat)), SV.raw (u (3 : Nat)), SV.bool false, SV.ptr (0 : Nat) p (0 : Nat), SV.raw (u (6 : Nat)),
                                    SV.raw (u (7 : Nat)), SV.raw (u (8 : Nat)), SV.ptr (1 : Nat) q (0 : Nat), SV.int IntKind.i64 e, SV.bool (y2 == IntKind.wrap IntKind.i64 (y + (1 : Int))),
                                    SV.raw (u (12 : Nat)), SV.raw (u (13 : Nat)), SV.raw (u (14 : Nat)), SV.raw (u (15 : Nat)), SV.raw (u (16 : Nat)), SV.raw (u (17 : Nat)), SV.raw (u (18 : Nat)),
                                    SV.raw (u (19 : Nat)), SV.raw (u (20 : Nat)), SV.raw (u (21 : Nat)), SV.raw (u (22 : Nat)), SV.raw (u (23 : Nat)), SV.raw (u (24 : Nat)), SV.raw (u (25 : Nat)),
                                    SV.raw (u (26 : Nat)), SV.raw (u (27 : Nat)), SV.raw (u (28 : Nat)), SV.raw (u (29 : Nat)), SV.raw (u (30 : Nat)), SV.raw (u (31 : Nat)), SV.raw (u (32 : Nat)),
                                    SV.raw (u (33 : Nat)), SV.raw (u (34 : Nat)), SV.raw (u (35 : Nat)), SV.raw (u (36 : Nat)), SV.raw (u (37 : Nat)), SV.raw (u (38 : Nat)), SV.raw (u (39 : Nat)),
                                    SV.raw (u (40 : Nat)), SV.raw (u (41 : Nat)), SV.raw (u (42 : Nat)), SV.raw (u (43 : Nat)), SV.raw (u (44 : Nat)), SV.raw (u (45 : Nat)), SV.raw (u (46 : Nat)),
                                    SV.raw (u (47 : Nat)), SV.raw (u (48 : Nat)), SV.raw (u (49 : Nat)), SV.raw (u (50 : Nat)), SV.raw (u (51 : Nat)), SV.raw (u (52 : Nat)), SV.raw (u (53 : Nat)),
                                    SV.raw (u (54 : Nat)), SV.raw (u (55 : Nat)), SV.raw (u (56 : Nat)), SV.ptr (1 : Nat) q (2 : Nat), SV.int IntKind.i64 d2, SV.ptr (0 : Nat) p (2 : Nat),
                                    SV.int IntKind.i64 d, SV.int IntKind.i64 (IntKind.wrap IntKind.i64 (d + (1 : Int))), SV.bool (d2 == IntKind.wrap IntKind.i64 (d + (1 : Int))), SV.bool false,
                                    SV.raw (Value.tuple #[]), SV.raw (Value.tuple #[]), SV.raw (Value.tuple #[]), SV.raw (Value.tuple #[]), SV.raw (Value.tuple #[]), SV.bool false, SV.bool false,
                                    SV.raw (Value.tuple #[]), SV.raw (Value.tuple #[]), SV.raw (Value.tuple #[]), SV.raw (Value.tuple #[]), SV.raw (Value.tuple #[]), SV.bool false, SV.bool false,
                                    SV.ptr (1 : Nat) q (2 : Nat), SV.int IntKind.i64 d2, SV.bool (d2 == (1 : Int)), SV.bool true, SV.ptr (1 : Nat) q (1 : Nat), SV.int IntKind.i64 m2,
                                    SV.ptr (0 : Nat) p (1 : Nat), SV.int IntKind.i64 m, SV.int IntKind.i64 (IntKind.wrap IntKind.i64 (m + (1 : Int))),
                                    SV.bool (m2 == IntKind.wrap IntKind.i64 (m + (1 : Int))), SV.bool false, SV.raw (Value.tuple #[]), SV.raw (Value.tuple #[]), SV.raw (Value.tuple #[]),
                                    SV.raw (Value.tuple #[]), SV.raw (Value.tuple #[]), SV.bool false, SV.bool false, SV.ptr (1 : Nat) q (1 : Nat), SV.int IntKind.i64 m2, SV.bool (m2 == (1 : Int)),
                                    SV.bool true, SV.ptr (0 : Nat) p (1 : Nat), SV.int IntKind.i64 m, SV.bool (m == (12 : Int)), SV.bool (m == (12 : Int)), SV.bool true, SV.ptr (1 : Nat) q (0 : Nat),
                                    SV.int IntKind.i64 y2, SV.ptr (0 : Nat) p (0 : Nat), SV.int IntKind.i64 y, SV.int IntKind.i64 (IntKind.wrap IntKind.i64 (y + (1 : Int))),
                                    SV.bool (y2 == IntKind.wrap IntKind.i64 (y + (1 : Int))), SV.bool (y2 == IntKind.wrap IntKind.i64 (y + (1 : Int))),
                                    SV.bool (y2 == IntKind.wrap IntKind.i64 (y + (1 : Int))), SV.bool (y2 == IntKind.wrap IntKind.i64 (y + (1 : Int))),
                                    SV.bool (y2 == IntKind.wrap IntKind.i64 (y + (1 : Int))), SV.int IntKind.i64 e, SV.bool (e == (0 : Int)), SV.bool false, SV.raw (Value.tuple #[]),
                                    SV.raw (Value.tuple #[]), SV.bool false, SV.raw (u (121 : Nat)), SV.raw (u (122 : Nat)), SV.raw (u (123 : Nat)), SV.raw (u (124 : Nat)), SV.raw (u (125 : Nat)),
                                    SV.raw (u (126 : Nat)), SV.raw (u (127 : Nat)), SV.raw (u (128 : Nat)), SV.raw (u (129 : Nat)), SV.raw (u (130 : Nat)), SV.raw (u (131 : Nat)),
                                    SV.raw (u (132 : Nat)), SV.raw (u (133 : Nat)), SV.raw (u (134 : Nat)), SV.raw (u (135 : Nat)), SV.raw (u (136 : Nat)), SV.raw (u (137 : Nat)),
                                    SV.raw (u (138 : Nat)), SV.raw (u (139 : Nat)), SV.raw (u (140 : Nat)), SV.raw (u (141 : Nat)), SV.raw (u (142 : Nat))]
                                  [Ent.mk (Loc.blk p) (SObj.cells [SV.int IntKind.i64 y, SV.int IntKind.i64 m, SV.int IntKind.i64 d] (27 : TypeId)),
                                    Ent.mk (Loc.blk q) (SObj.cells [SV.int IntKind.i64 y2, SV.int IntKind.i64 m2, SV.int IntKind.i64 d2] (27 : TypeId))])
                      | false =>
                        match e == (0 : Int) with
                        | true =>
                          N
                            [Ent.mk (Loc.blk p) (SObj.cells [SV.int IntKind.i64 y, SV.int IntKind.i64 m, SV.int IntKind.i64 d] (27 : TypeId)),
                              Ent.mk (Loc.blk q) (SObj.cells [SV.int IntKind.i64 y2, SV.int IntKind.i64 m2, SV.int IntKind.i64 d2] (27 : TypeId))]
                            (SV.bool false)
                        | false =>
                          K
                            [Frm.code (codeAt (bodyOf Try.f7) [(1 : Nat), (1 : Nat), (1 : Nat), (1 : Nat), (0 : Nat)]),
                              Frm.code (codeAt (bodyOf Try.f7) [(1 : Nat), (1 : Nat), (1 : Nat), (1 : Nat), (1 : Nat)])]
                            (Sy.mk
                              [SV.int IntKind.i64 a, SV.int IntKind.i64 b, SV.raw (u (2 : Nat)), SV.raw (u (3 : Nat)), SV.bool false, SV.ptr (0 : Nat) p (0 : Nat), SV.raw (u (6 : Nat)),
                                SV.raw (u (7 : Nat)), SV.raw (u (8 : Nat)), SV.ptr (1 : Nat) q (0 : Nat), SV.int IntKind.i64 e, SV.bool false, SV.raw (u (12 : Nat)), SV.raw (u (13 : Nat)),
                                SV.raw (u (14 : Nat)), SV.raw (u (15 : Nat)), SV.raw (u (16 : Nat)), SV.raw (u (17 : Nat)), SV.raw (u (18 : Nat)), SV.raw (u (19 : Nat)), SV.raw (u (20 : Nat)),
                                SV.raw (u (21 : Nat)), SV.raw (u (22 : Nat)), SV.raw (u (23 : Nat)), SV.raw (u (24 : Nat)), SV.raw (u (25 : Nat)), SV.raw (u (26 : Nat)), SV.raw (u (27 : Nat)),
                                SV.raw (u (28 : Nat)), SV.raw (u (29 : Nat)), SV.raw (u (30 : Nat)), SV.raw (u (31 : Nat)), SV.raw (u (32 : Nat)), SV.raw (u (33 : Nat)), SV.raw (u (34 : Nat)),
                                SV.raw (u (35 : Nat)), SV.raw (u (36 : Nat)), SV.raw (u (37 : Nat)), SV.raw (u (38 : Nat)), SV.raw (u (39 : Nat)), SV.raw (u (40 : Nat)), SV.raw (u (41 : Nat)),
                                SV.raw (u (42 : Nat)), SV.raw (u (43 : Nat)), SV.raw (u (44 : Nat)), SV.raw (u (45 : Nat)), SV.raw (u (46 : Nat)), SV.raw (u (47 : Nat)), SV.raw (u (48 : Nat)),
                                SV.raw (u (49 : Nat)), SV.raw (u (50 : Nat)), SV.raw (u (51 : Nat)), SV.raw (u (52 : Nat)), SV.raw (u (53 : Nat)), SV.raw (u (54 : Nat)), SV.raw (u (55 : Nat)),
                                SV.raw (u (56 : Nat)), SV.ptr (1 : Nat) q (2 : Nat), SV.int IntKind.i64 d2, SV.ptr (0 : Nat) p (2 : Nat), SV.int IntKind.i64 d,
                                SV.int IntKind.i64 (IntKind.wrap IntKind.i64 (d + (1 : Int))), SV.bool (d2 == IntKind.wrap IntKind.i64 (d + (1 : Int))), SV.bool false, SV.raw (Value.tuple #[]),
                                SV.raw (Value.tuple #[]), SV.raw (Value.tuple #[]), SV.raw (Value.tuple #[]), SV.raw (Value.tuple #[]), SV.bool false, SV.bool false, SV.raw (Value.tuple #[]),
                                SV.raw (Value.tuple #[]), SV.raw (Value.tuple #[]), SV.raw (Value.tuple #[]), SV.raw (Value.tuple #[]), SV.bool false, SV.bool false, SV.ptr (1 : Nat) q (2 : Nat),
                                SV.int IntKind.i64 d2, SV.bool (d2 == (1 : Int)), SV.bool true, SV.ptr (1 : Nat) q (1 : Nat), SV.int IntKind.i64 m2, SV.ptr (0 : Nat) p (1 : Nat), SV.int IntKind.i64 m,
                                SV.int IntKind.i64 (IntKind.wrap IntKind.i64 (m + (1 : Int))), SV.bool (m2 == IntKind.wrap IntKind.i64 (m + (1 : Int))), SV.bool false, SV.raw (Value.tuple #[]),
                                SV.raw (Value.tuple #[]), SV.raw (Value.tuple #[]), SV.raw (Value.tuple #[]), SV.raw (Value.tuple #[]), SV.bool false, SV.bool false, SV.ptr (1 : Nat) q (1 : Nat),
                                SV.int IntKind.i64 m2, SV.bool (m2 == (1 : Int)), SV.bool true, SV.ptr (0 : Nat) p (1 : Nat), SV.int IntKind.i64 m, SV.bool (m == (12 : Int)),
                                SV.bool (m == (12 : Int)), SV.bool false, SV.raw (Value.tuple #[]), SV.raw (Value.tuple #[]), SV.raw (Value.tuple #[]), SV.raw (Value.tuple #[]),
                                SV.raw (Value.tuple #[]), SV.raw (Value.tuple #[]), SV.bool false, SV.bool false, SV.bool false, SV.bool false, SV.int IntKind.i64 e, SV.bool (e == (0 : Int)),
                                SV.bool false, SV.raw (Value.tuple #[]), SV.raw (Value.tuple #[]), SV.bool false, SV.raw (u (121 : Nat)), SV.raw (u (122 : Nat)), SV.raw (u (123 : Nat)),
                                SV.raw (u (124 : Nat)), SV.raw (u (125 : Nat)), SV.raw (u (126 : Nat)), SV.raw (u (127 : Nat)), SV.raw (u (128 : Nat)), SV.raw (u (129 : Nat)), SV.raw (u (130 : Nat)),
                                SV.raw (u (131 : Nat)), SV.raw (u (132 : Nat)), SV.raw (u (133 : Nat)), SV.raw (u (134 : Nat)), SV.raw (u (135 : Nat)), SV.raw (u (136 : Nat)), SV.raw (u (137 : Nat)),
                                SV.raw (u (138 : Nat)), SV.raw (u (139 : Nat)), SV.raw (u (140 : Nat)), SV.raw (u (141 : Nat)), SV.raw (u (142 : Nat))]
                              [Ent.mk (Loc.blk p) (SObj.cells [SV.int IntKind.i64 y, SV.int IntKind.i64 m, SV.int IntKind.i64 d] (27 : TypeId)),
                                Ent.mk (Loc.blk q) (SObj.cells [SV.int IntKind.i64 y2, SV.int IntKind.i64 m2, SV.int IntKind.i64 d2] (27 : TypeId))])
                  | false =>
                    match e == (0 : Int) with
                    | true =>
                      N
                        [Ent.mk (Loc.blk p) (SObj.cells [SV.int IntKind.i64 y, SV.int IntKind.i64 m, SV.int IntKind.i64 d] (27 : TypeId)),
                          Ent.mk (Loc.blk q) (SObj.cells [SV.int IntKind.i64 y2, SV.int IntKind.i64 m2, SV.int IntKind.i64 d2] (27 : TypeId))]
                        (SV.bool false)
                    | false =>
                      K
                        [Frm.code (codeAt (bodyOf Try.f7) [(1 : Nat), (1 : Nat), (1 : Nat), (1 : Nat), (0 : Nat)]),
                          Frm.code (codeAt (bodyOf Try.f7) [(1 : Nat), (1 : Nat), (1 : Nat), (1 : Nat), (1 : Nat)])]
                        (Sy.mk
                          [SV.int IntKind.i64 a, SV.int IntKind.i64 b, SV.raw (u (2 : Nat)), SV.raw (u (3 : Nat)), SV.bool false, SV.ptr (0 : Nat) p (0 : Nat), SV.raw (u (6 : Nat)),
                            SV.raw (u (7 : Nat)), SV.raw (u (8 : Nat)), SV.ptr (1 : Nat) q (0 : Nat), SV.int IntKind.i64 e, SV.bool false, SV.raw (u (12 : Nat)), SV.raw (u (13 : Nat)),
                            SV.raw (u (14 : Nat)), SV.raw (u (15 : Nat)), SV.raw (u (16 : Nat)), SV.raw (u (17 : Nat)), SV.raw (u (18 : Nat)), SV.raw (u (19 : Nat)), SV.raw (u (20 : Nat)),
                            SV.raw (u (21 : Nat)), SV.raw (u (22 : Nat)), SV.raw (u (23 : Nat)), SV.raw (u (24 : Nat)), SV.raw (u (25 : Nat)), SV.raw (u (26 : Nat)), SV.raw (u (27 : Nat)),
                            SV.raw (u (28 : Nat)), SV.raw (u (29 : Nat)), SV.raw (u (30 : Nat)), SV.raw (u (31 : Nat)), SV.raw (u (32 : Nat)), SV.raw (u (33 : Nat)), SV.raw (u (34 : Nat)),
                            SV.raw (u (35 : Nat)), SV.raw (u (36 : Nat)), SV.raw (u (37 : Nat)), SV.raw (u (38 : Nat)), SV.raw (u (39 : Nat)), SV.raw (u (40 : Nat)), SV.raw (u (41 : Nat)),
                            SV.raw (u (42 : Nat)), SV.raw (u (43 : Nat)), SV.raw (u (44 : Nat)), SV.raw (u (45 : Nat)), SV.raw (u (46 : Nat)), SV.raw (u (47 : Nat)), SV.raw (u (48 : Nat)),
                            SV.raw (u (49 : Nat)), SV.raw (u (50 : Nat)), SV.raw (u (51 : Nat)), SV.raw (u (52 : Nat)), SV.raw (u (53 : Nat)), SV.raw (u (54 : Nat)), SV.raw (u (55 : Nat)),
                            SV.raw (u (56 : Nat)), SV.ptr (1 : Nat) q (2 : Nat), SV.int IntKind.i64 d2, SV.ptr (0 : Nat) p (2 : Nat), SV.int IntKind.i64 d,
                            SV.int IntKind.i64 (IntKind.wrap IntKind.i64 (d + (1 : Int))), SV.bool (d2 == IntKind.wrap IntKind.i64 (d + (1 : Int))), SV.bool false, SV.raw (Value.tuple #[]),
                            SV.raw (Value.tuple #[]), SV.raw (Value.tuple #[]), SV.raw (Value.tuple #[]), SV.raw (Value.tuple #[]), SV.bool false, SV.bool false, SV.raw (Value.tuple #[]),
                            SV.raw (Value.tuple #[]), SV.raw (Value.tuple #[]), SV.raw (Value.tuple #[]), SV.raw (Value.tuple #[]), SV.bool false, SV.bool false, SV.ptr (1 : Nat) q (2 : Nat),
                            SV.int IntKind.i64 d2, SV.bool (d2 == (1 : Int)), SV.bool true, SV.ptr (1 : Nat) q (1 : Nat), SV.int IntKind.i64 m2, SV.ptr (0 : Nat) p (1 : Nat), SV.int IntKind.i64 m,
                            SV.int IntKind.i64 (IntKind.wrap IntKind.i64 (m + (1 : Int))), SV.bool (m2 == IntKind.wrap IntKind.i64 (m + (1 : Int))), SV.bool false, SV.raw (Value.tuple #[]),
                            SV.raw (Value.tuple #[]), SV.raw (Value.tuple #[]), SV.raw (Value.tuple #[]), SV.raw (Value.tuple #[]), SV.bool false, SV.bool false, SV.ptr (1 : Nat) q (1 : Nat),
                            SV.int IntKind.i64 m2, SV.bool (m2 == (1 : Int)), SV.bool false, SV.raw (Value.tuple #[]), SV.raw (Value.tuple #[]), SV.raw (Value.tuple #[]), SV.bool false, SV.bool false,
                            SV.raw (Value.tuple #[]), SV.raw (Value.tuple #[]), SV.raw (Value.tuple #[]), SV.raw (Value.tuple #[]), SV.raw (Value.tuple #[]), SV.raw (Value.tuple #[]), SV.bool false,
                            SV.bool false, SV.bool false, SV.bool false, SV.int IntKind.i64 e, SV.bool (e == (0 : Int)), SV.bool false, SV.raw (Value.tuple #[]), SV.raw (Value.tuple #[]),
                            SV.bool false, SV.raw (u (121 : Nat)), SV.raw (u (122 : Nat)), SV.raw (u (123 : Nat)), SV.raw (u (124 : Nat)), SV.raw (u (125 : Nat)), SV.raw (u (126 : Nat)),
                            SV.raw (u (127 : Nat)), SV.raw (u (128 : Nat)), SV.raw (u (129 : Nat)), SV.raw (u (130 : Nat)), SV.raw (u (131 : Nat)), SV.raw (u (132 : Nat)), SV.raw (u (133 : Nat)),
                            SV.raw (u (134 : Nat)), SV.raw (u (135 : Nat)), SV.raw (u (136 : Nat)), SV.raw (u (137 : Nat)), SV.raw (u (138 : Nat)), SV.raw (u (139 : Nat)), SV.raw (u (140 : Nat)),
                            SV.raw (u (141 : Nat)), SV.raw (u (142 : Nat))]
                          [Ent.mk (Loc.blk p) (SObj.cells [SV.int IntKind.i64 y, SV.int IntKind.i64 m, SV.int IntKind.i64 d] (27 : TypeId)),
                            Ent.mk (Loc.blk q) (SObj.cells [SV.int IntKind.i64 y2, SV.int IntKind.i64 m2, SV.int IntKind.i64 d2] (27 : TypeId))])
        | false =>
          true = true ∧
            true = true ∧
              true = true ∧
                true = true ∧
                  true = true ∧
                    true = true ∧
                      true = true ∧
                        true = true ∧
                          true = true ∧
                            true = true ∧
                              true = true ∧
                                true = true ∧
                                  true = true ∧
                                    true = true ∧
                                      true = true ∧
                                        true = true ∧
                                          true = true ∧
                                            true = true ∧
                                              true = true ∧
                                                true = true ∧
                                                  true = true ∧
                                                    match e == (0 : Int) with
                                                    | true =>
                                                      N
                                                        [Ent.mk (Loc.blk p) (SObj.cells [SV.int IntKind.i64 y, SV.int IntKind.i64 m, SV.int IntKind.i64 d] (27 : TypeId)),
                                                          Ent.mk (Loc.blk q) (SObj.cells [SV.int IntKind.i64 y2, SV.int IntKind.i64 m2, SV.int IntKind.i64 d2] (27 : TypeId))]
                                                        (SV.bool false)
                                                    | false =>
                                                      K
                                                        [Frm.code (codeAt (bodyOf Try.f7) [(1 : Nat), (1 : Nat), (1 : Nat), (1 : Nat), (0 : Nat)]),
                                                          Frm.code (codeAt (bodyOf Try.f7) [(1 : Nat), (1 : Nat), (1 : Nat), (1 : Nat), (1 : Nat)])]
                                                        (Sy.mk
                                                          [SV.int IntKind.i64 a, SV.int IntKind.i64 b, SV.raw (u (2 : Nat)), SV.raw (u (3 : Nat)), SV.bool false, SV.ptr (0 : Nat) p (0 : Nat),
                                                            SV.raw (u (6 : Nat)), SV.raw (u (7 : Nat)), SV.raw (u (8 : Nat)), SV.ptr (1 : Nat) q (0 : Nat), SV.int IntKind.i64 e, SV.bool false,
                                                            SV.raw (u (12 : Nat)), SV.raw (u (13 : Nat)), SV.raw (u (14 : Nat)), SV.raw (u (15 : Nat)), SV.raw (u (16 : Nat)), SV.raw (u (17 : Nat)),
                                                            SV.raw (u (18 : Nat)), SV.raw (u (19 : Nat)), SV.raw (u (20 : Nat)), SV.raw (u (21 : Nat)), SV.raw (u (22 : Nat)), SV.raw (u (23 : Nat)),
                                                            SV.raw (u (24 : Nat)), SV.raw (u (25 : Nat)), SV.raw (u (26 : Nat)), SV.raw (u (27 : Nat)), SV.raw (u (28 : Nat)), SV.raw (u (29 : Nat)),
                                                            SV.raw (u (30 : Nat)), SV.raw (u (31 : Nat)), SV.raw (u (32 : Nat)), SV.raw (u (33 : Nat)), SV.raw (u (34 : Nat)), SV.raw (u (35 : Nat)),
                                                            SV.raw (u (36 : Nat)), SV.raw (u (37 : Nat)), SV.raw (u (38 : Nat)), SV.raw (u (39 : Nat)), SV.raw (u (40 : Nat)), SV.raw (u (41 : Nat)),
                                                            SV.raw (u (42 : Nat)), SV.raw (u (43 : Nat)), SV.raw (u (44 : Nat)), SV.raw (u (45 : Nat)), SV.raw (u (46 : Nat)), SV.raw (u (47 : Nat)),
                                                            SV.raw (u (48 : Nat)), SV.raw (u (49 : Nat)), SV.raw (u (50 : Nat)), SV.raw (u (51 : Nat)), SV.raw (u (52 : Nat)), SV.raw (u (53 : Nat)),
                                                            SV.raw (u (54 : Nat)), SV.raw (u (55 : Nat)), SV.raw (u (56 : Nat)), SV.ptr (1 : Nat) q (2 : Nat), SV.int IntKind.i64 d2,
                                                            SV.ptr (0 : Nat) p (2 : Nat), SV.int IntKind.i64 d, SV.int IntKind.i64 (IntKind.wrap IntKind.i64 (d + (1 : Int))),
                                                            SV.bool (d2 == IntKind.wrap IntKind.i64 (d + (1 : Int))), SV.bool false, SV.raw (Value.tuple #[]), SV.raw (Value.tuple #[]),
                                                            SV.raw (Value.tuple #[]), SV.raw (Value.tuple #[]), SV.raw (Value.tuple #[]), SV.bool false, SV.bool false, SV.raw (Value.tuple #[]),
                                                            SV.raw (Value.tuple #[]), SV.raw (Value.tuple #[]), SV.raw (Value.tuple #[]), SV.raw (Value.tuple #[]), SV.bool false, SV.bool false,
                                                            SV.ptr (1 : Nat) q (2 : Nat), SV.int IntKind.i64 d2, SV.bool (d2 == (1 : Int)), SV.bool false, SV.raw (Value.tuple #[]),
                                                            SV.raw (Value.tuple #[]), SV.raw (Value.tuple #[]), SV.raw (Value.tuple #[]), SV.raw (Value.tuple #[]), SV.raw (Value.tuple #[]),
                                                            SV.raw (Value.tuple #[]), SV.raw (Value.tuple #[]), SV.raw (Value.tuple #[]), SV.raw (Value.tuple #[]), SV.raw (Value.tuple #[]),
                                                            SV.raw (Value.tuple #[]), SV.raw (Value.tuple #[]), SV.raw (Value.tuple #[]), SV.raw (Value.tuple #[]), SV.raw (Value.tuple #[]),
                                                            SV.raw (Value.tuple #[]), SV.raw (Value.tuple #[]), SV.raw (Value.tuple #[]), SV.raw (Value.tuple #[]), SV.raw (Value.tuple #[]),
                                                            SV.raw (Value.tuple #[]), SV.raw (Value.tuple #[]), SV.raw (Value.tuple #[]), SV.raw (Value.tuple #[]), SV.raw (Value.tuple #[]),
                                                            SV.raw (Value.tuple #[]), SV.raw (Value.tuple #[]), SV.raw (Value.tuple #[]), SV.raw (Value.tuple #[]), SV.raw (Value.tuple #[]),
                                                            SV.bool false, SV.bool false, SV.int IntKind.i64 e, SV.bool (e == (0 : Int)), SV.bool false, SV.raw (Value.tuple #[]),
                                                            SV.raw (Value.tuple #[]), SV.bool false, SV.raw (u (121 : Nat)), SV.raw (u (122 : Nat)), SV.raw (u (123 : Nat)), SV.raw (u (124 : Nat)),
                                                            SV.raw (u (125 : Nat)), SV.raw (u (126 : Nat)), SV.raw (u (127 : Nat)), SV.raw (u (128 : Nat)), SV.raw (u (129 : Nat)),
                                                            SV.raw (u (130 : Nat)), SV.raw (u (131 : Nat)), SV.raw (u (132 : Nat)), SV.raw (u (133 : Nat)), SV.raw (u (134 : Nat)),
                                                            SV.raw (u (135 : Nat)), SV.raw (u (136 : Nat)), SV.raw (u (137 : Nat)), SV.raw (u (138 : Nat)), SV.raw (u (139 : Nat)),
                                                            SV.raw (u (140 : Nat)), SV.raw (u (141 : Nat)), SV.raw (u (142 : Nat))]
                                                          [Ent.mk (Loc.blk p) (SObj.cells [SV.int IntKind.i64 y, SV.int IntKind.i64 m, SV.int IntKind.i64 d] (27 : TypeId)),
                                                            Ent.mk (Loc.blk q) (SObj.cells [SV.int IntKind.i64 y2, SV.int IntKind.i64 m2, SV.int IntKind.i64 d2] (27 : TypeId))])) := by kernel_rfl

theorem civilBack_end (K : List Frm → Sy → Prop) (N : List Ent → SV → Prop) (u : Nat → Value) (b : Int) : (run Try.prog civ6 true [] K (retP Try.prog Try.f7.results.toList N) 600 [.code (codeAt (bodyOf Try.f7) [1, 1, 1, 1, 0]), .code (codeAt (bodyOf Try.f7) [1, 1, 1, 1, 1])] ⟨mkT u 143 0 [(1, .int .i64 b), (4, .bool false)], []⟩) = (
true = true ∧
  b ≤ (9223372036854775807 : Int) ∧
    match decide ((0 : Int) ≤ b) && decide (b < (7289654400 : Int)) with
    | true =>
      ∀ (y m d : Int),
        dateP (b / (86400 : Int)) y m d →
          ∀ (b_1 : Nat),
            (b_1 = b_1 ∧ true = true ∧ (6 : Nat) = (6 : Nat) ∧ (6 : Nat) ≤ (6 : Nat)) ∧
              (b_1 = b_1 ∧ (6 : Nat) = (6 : Nat)) ∧
                true = true ∧
                  match
                    isB y m d &&
                      (inB (b % (86400 : Int) / (3600 : Int)) (24 : Int) && (inB (b % (86400 : Int) / (60 : Int) % (60 : Int)) (60 : Int) && inB (b % (86400 : Int) % (60 : Int)) (60 : Int))) with
                  | true =>
                    N
                      [Ent.mk (Loc.blk b_1)
                          (SObj.cells
                            [SV.int IntKind.i64 y, SV.int IntKind.i64 m, SV.int IntKind.i64 d, SV.int IntKind.i64 (b % (86400 : Int) / (3600 : Int)),
                              SV.int IntKind.i64 (b % (86400 : Int) / (60 : Int) % (60 : Int)), SV.int IntKind.i64 (b % (86400 : Int) % (60 : Int))]
                            (61 : Nat))]
                      (SV.bool
                        (daysI y m d * (86400 : Int) + ((b % (86400 : Int) / (3600 : Int) * (60 : Int) + b % (86400 : Int) / (60 : Int) % (60 : Int)) * (60 : Int) + b % (86400 : Int) % (60 : Int)) ==
                          b))
                  | false =>
                    N
                      [Ent.mk (Loc.blk b_1)
                          (SObj.cells
                            [SV.int IntKind.i64 y, SV.int IntKind.i64 m, SV.int IntKind.i64 d, SV.int IntKind.i64 (b % (86400 : Int) / (3600 : Int)),
                              SV.int IntKind.i64 (b % (86400 : Int) / (60 : Int) % (60 : Int)), SV.int IntKind.i64 (b % (86400 : Int) % (60 : Int))]
                            (61 : Nat))]
                      (SV.bool false)
    | false =>
      ∀ (b : Nat),
        (b = b ∧ true = true ∧ (6 : Nat) = (6 : Nat) ∧ (6 : Nat) ≤ (6 : Nat)) ∧
          (b = b ∧ (6 : Nat) = (6 : Nat)) ∧
            (true = true ∧ true = true) ∧
              N
                [Ent.mk (Loc.blk b)
                    (SObj.cells
                      [SV.int IntKind.i64 (0 : Int), SV.int IntKind.i64 (0 : Int), SV.int IntKind.i64 (0 : Int), SV.int IntKind.i64 (0 : Int), SV.int IntKind.i64 (0 : Int),
                        SV.int IntKind.i64 (0 : Int)]
                      (61 : Nat))]
                (SV.bool true)) := by kernel_rfl


end Go.Proofs.Ytjnkfgigpapeaaa
