import Derived.Test.YtjnkfgigpapeaaaDoorMgCivilOrder4
import Derived.IntWalk
set_option linter.unusedVariables false
set_option linter.unusedSimpArgs false
set_option linter.unnecessarySimpa false
set_option maxHeartbeats 0
set_option maxRecDepth 100000
namespace Go.Proofs.YtjnkfgigpapeaaaDoor
open Go Go.RowKit

theorem co_start (K : List Frm → Sy → Prop) (N : List Ent → SV → Prop) (y m d h mi s y' m' d' h' mi' s' : Int) : (run Tryd.prog tellsT true [7] K (retP Tryd.prog Tryd.f3.results.toList N) 3000 [.code (bodyOf Tryd.f3)] ⟨padTo 102 [.agg [.int .i64 y, .int .i64 m, .int .i64 d, .int .i64 h, .int .i64 mi, .int .i64 s], .agg [.int .i64 y', .int .i64 m', .int .i64 d', .int .i64 h', .int .i64 mi', .int .i64 s']], [itoaE]⟩) = (
true = true ∧
 ∀ (b : Nat),
  true = true ∧
   ∀ (b_1 : Nat),
    true = true ∧
     (b = b ∧ 6 = 6) ∧
      true = true ∧
       match isB y m d && (inB h (24 : Int) && (inB mi (60 : Int) && inB s (60 : Int))) with
       | true =>
        (b_1 = b_1 ∧ 6 = 6) ∧
         true = true ∧
          match isB y' m' d' && (inB h' (24 : Int) && (inB mi' (60 : Int) && inB s' (60 : Int))) with
          | true =>
           K (frmR [] (bodyOf Tryd.f3) 7)
            (Sy.mk (SV.agg [SV.int IntKind.i64 y, SV.int IntKind.i64 m, SV.int IntKind.i64 d, SV.int IntKind.i64 h, SV.int IntKind.i64 mi, SV.int IntKind.i64 s] :: (SV.agg [SV.int IntKind.i64 y', SV.int IntKind.i64 m', SV.int IntKind.i64 d', SV.int IntKind.i64 h', SV.int IntKind.i64 mi', SV.int IntKind.i64 s'] :: (SV.ptr 1 b 0 :: (SV.ptr 2 b_1 0 :: (SV.bool false :: (SV.int IntKind.i64 (daysI y m d * (86400 : Int) + ((h * (60 : Int) + mi) * (60 : Int) + s)) :: (SV.int IntKind.i64 (0 : Int) :: (SV.int IntKind.i64 (daysI y' m' d' * (86400 : Int) + ((h' * (60 : Int) + mi') * (60 : Int) + s')) :: (SV.int IntKind.i64 (0 : Int) :: (rawE (SV.bool true :: (SV.bool false :: (SV.tuple [SV.int IntKind.i64 (daysI y m d * (86400 : Int) + ((h * (60 : Int) + mi) * (60 : Int) + s)), SV.int IntKind.i64 (0 : Int)] :: (SV.agg [SV.int IntKind.i64 y, SV.int IntKind.i64 m, SV.int IntKind.i64 d, SV.int IntKind.i64 h, SV.int IntKind.i64 mi, SV.int IntKind.i64 s] :: (SV.tuple [SV.int IntKind.i64 (daysI y m d * (86400 : Int) + ((h * (60 : Int) + mi) * (60 : Int) + s)), SV.int IntKind.i64 (0 : Int)] :: (SV.int IntKind.i64 (daysI y m d * (86400 : Int) + ((h * (60 : Int) + mi) * (60 : Int) + s)) :: (SV.int IntKind.i64 (0 : Int) :: (SV.tuple [SV.int IntKind.i64 (daysI y' m' d' * (86400 : Int) + ((h' * (60 : Int) + mi') * (60 : Int) + s')), SV.int IntKind.i64 (0 : Int)] :: (SV.agg [SV.int IntKind.i64 y', SV.int IntKind.i64 m', SV.int IntKind.i64 d', SV.int IntKind.i64 h', SV.int IntKind.i64 mi', SV.int IntKind.i64 s'] :: (SV.tuple [SV.int IntKind.i64 (daysI y' m' d' * (86400 : Int) + ((h' * (60 : Int) + mi') * (60 : Int) + s')), SV.int IntKind.i64 (0 : Int)] :: (SV.int IntKind.i64 (daysI y' m' d' * (86400 : Int) + ((h' * (60 : Int) + mi') * (60 : Int) + s')) :: (SV.int IntKind.i64 (0 : Int) :: (SV.int IntKind.i64 (0 : Int) :: (SV.bool false :: (SV.bool false :: (SV.int IntKind.i64 (0 : Int) :: (SV.bool false :: (SV.bool false :: (rawE [] 71))))))))))))))))))) 4))))))))))
             [Ent.mk (Loc.blk 0) (SObj.pred fun (W : World) (c : Ch) ↦ c = [] ∧ Lib.TabIs Tryd.prog W "internal/strconv.uint64pow10" IntKind.u64 Lib.pow10Tab),
              Ent.mk (Loc.blk b)
               (SObj.cells [SV.int IntKind.i64 y, SV.int IntKind.i64 m, SV.int IntKind.i64 d, SV.int IntKind.i64 h, SV.int IntKind.i64 mi, SV.int IntKind.i64 s] 25),
              Ent.mk (Loc.blk b_1)
               (SObj.cells [SV.int IntKind.i64 y', SV.int IntKind.i64 m', SV.int IntKind.i64 d', SV.int IntKind.i64 h', SV.int IntKind.i64 mi', SV.int IntKind.i64 s'] 25)])
          | false =>
           N
            [Ent.mk (Loc.blk 0) (SObj.pred fun (W : World) (c : Ch) ↦ c = [] ∧ Lib.TabIs Tryd.prog W "internal/strconv.uint64pow10" IntKind.u64 Lib.pow10Tab),
             Ent.mk (Loc.blk b)
              (SObj.cells [SV.int IntKind.i64 y, SV.int IntKind.i64 m, SV.int IntKind.i64 d, SV.int IntKind.i64 h, SV.int IntKind.i64 mi, SV.int IntKind.i64 s] 25),
             Ent.mk (Loc.blk b_1)
              (SObj.cells [SV.int IntKind.i64 y', SV.int IntKind.i64 m', SV.int IntKind.i64 d', SV.int IntKind.i64 h', SV.int IntKind.i64 mi', SV.int IntKind.i64 s'] 25)]
            (SV.bool true)
       | false =>
        (b_1 = b_1 ∧ 6 = 6) ∧
         true = true ∧
          match isB y' m' d' && (inB h' (24 : Int) && (inB mi' (60 : Int) && inB s' (60 : Int))) with
          | true =>
           N
            [Ent.mk (Loc.blk 0) (SObj.pred fun (W : World) (c : Ch) ↦ c = [] ∧ Lib.TabIs Tryd.prog W "internal/strconv.uint64pow10" IntKind.u64 Lib.pow10Tab),
             Ent.mk (Loc.blk b)
              (SObj.cells [SV.int IntKind.i64 y, SV.int IntKind.i64 m, SV.int IntKind.i64 d, SV.int IntKind.i64 h, SV.int IntKind.i64 mi, SV.int IntKind.i64 s] 25),
             Ent.mk (Loc.blk b_1)
              (SObj.cells [SV.int IntKind.i64 y', SV.int IntKind.i64 m', SV.int IntKind.i64 d', SV.int IntKind.i64 h', SV.int IntKind.i64 mi', SV.int IntKind.i64 s'] 25)]
            (SV.bool true)
          | false =>
           N
            [Ent.mk (Loc.blk 0) (SObj.pred fun (W : World) (c : Ch) ↦ c = [] ∧ Lib.TabIs Tryd.prog W "internal/strconv.uint64pow10" IntKind.u64 Lib.pow10Tab),
             Ent.mk (Loc.blk b)
              (SObj.cells [SV.int IntKind.i64 y, SV.int IntKind.i64 m, SV.int IntKind.i64 d, SV.int IntKind.i64 h, SV.int IntKind.i64 mi, SV.int IntKind.i64 s] 25),
             Ent.mk (Loc.blk b_1)
              (SObj.cells [SV.int IntKind.i64 y', SV.int IntKind.i64 m', SV.int IntKind.i64 d', SV.int IntKind.i64 h', SV.int IntKind.i64 mi', SV.int IntKind.i64 s'] 25)]
            (SV.bool true)) := by kernel_rfl


theorem co_7 (K : List Frm → Sy → Prop) (N : List Ent → SV → Prop) (b0 b1 : Nat) (y m d h mi s y' m' d' h' mi' s' : Int) (x x' : Int) (u : Nat → Value) : (run Tryd.prog tellsT true [100011, 14] K (retP Tryd.prog Tryd.f3.results.toList N) 3000 (frmR [] (bodyOf Tryd.f3) 7) ⟨mkT u 102 0 [(2, .ptr 1 b0 0), (3, .ptr 2 b1 0), (5, .int .i64 x), (7, .int .i64 x')], [itoaE, ⟨.blk b0, .cells [.int .i64 y, .int .i64 m, .int .i64 d, .int .i64 h, .int .i64 mi, .int .i64 s] 25⟩, ⟨.blk b1, .cells [.int .i64 y', .int .i64 m', .int .i64 d', .int .i64 h', .int .i64 mi', .int .i64 s'] 25⟩]⟩) = (
b0 = b0 ∧
 b0 = b0 ∧
  b0 = b0 ∧
   b0 = b0 ∧
    b0 = b0 ∧
     b0 = b0 ∧
      (true = true ∧ true = true) ∧
       ∀ (b : Nat),
        (b = b ∧ true = true ∧ 6 = 6 ∧ 6 ≤ 6) ∧
         b1 = b1 ∧
          b1 = b1 ∧
           b1 = b1 ∧
            b1 = b1 ∧
             b1 = b1 ∧
              b1 = b1 ∧
               (true = true ∧ true = true) ∧
                ∀ (b_1 : Nat),
                 (b_1 = b_1 ∧ true = true ∧ 6 = 6 ∧ 6 ≤ 6) ∧
                  ((0 : Int) ≤ (0 : Int) ∧ (0 : Int) < (↑6 : Int)) ∧
                   b = b ∧
                    ((0 : Int) ≤ (0 : Int) ∧ (0 : Int) < (↑6 : Int)) ∧
                     b_1 = b_1 ∧
                      match IntKind.wrap IntKind.i64 (y - y') == (0 : Int) with
                      | true =>
                       ((0 : Int) ≤ (1 : Int) ∧ (1 : Int) < (↑6 : Int)) ∧
                        b = b ∧
                         ((0 : Int) ≤ (1 : Int) ∧ (1 : Int) < (↑6 : Int)) ∧
                          b_1 = b_1 ∧
                           match IntKind.wrap IntKind.i64 (m - m') == (0 : Int) with
                           | true =>
                            ((0 : Int) ≤ (2 : Int) ∧ (2 : Int) < (↑6 : Int)) ∧
                             b = b ∧
                              ((0 : Int) ≤ (2 : Int) ∧ (2 : Int) < (↑6 : Int)) ∧
                               b_1 = b_1 ∧
                                match IntKind.wrap IntKind.i64 (d - d') == (0 : Int) with
                                | true =>
                                 ((0 : Int) ≤ (3 : Int) ∧ (3 : Int) < (↑6 : Int)) ∧
                                  b = b ∧
                                   ((0 : Int) ≤ (3 : Int) ∧ (3 : Int) < (↑6 : Int)) ∧
                                    b_1 = b_1 ∧
                                     match IntKind.wrap IntKind.i64 (h - h') == (0 : Int) with
                                     | true =>
                                      ((0 : Int) ≤ (4 : Int) ∧ (4 : Int) < (↑6 : Int)) ∧
                                       b = b ∧
                                        ((0 : Int) ≤ (4 : Int) ∧ (4 : Int) < (↑6 : Int)) ∧
                                         b_1 = b_1 ∧
                                          match IntKind.wrap IntKind.i64 (mi - mi') == (0 : Int) with
                                          | true =>
                                           ((0 : Int) ≤ (5 : Int) ∧ (5 : Int) < (↑6 : Int)) ∧
                                            b = b ∧
                                             ((0 : Int) ≤ (5 : Int) ∧ (5 : Int) < (↑6 : Int)) ∧
                                              b_1 = b_1 ∧
                                               K (frmR [] (bodyOf Tryd.f3) 14)
                                                (Sy.mk (SV.raw (u 0) :: (SV.raw (u 1) :: (SV.ptr 1 b0 0 :: (SV.ptr 2 b1 0 :: (SV.raw (u 4) :: (SV.int IntKind.i64 x :: (SV.raw (u 6) :: (SV.int IntKind.i64 x' :: (SV.raw (u 8) :: (SV.ptr 3 b 0 :: (SV.ptr 4 b_1 0 :: (SV.int IntKind.i64 (IntKind.wrap IntKind.i64 (s - s')) :: (SV.int IntKind.i64 (6 : Int) :: (rawR u 13 (SV.ptr 1 b0 0 :: (SV.ptr 1 b0 0 :: (SV.int IntKind.i64 y :: (SV.ptr 1 b0 0 :: (SV.ptr 1 b0 1 :: (SV.int IntKind.i64 m :: (SV.ptr 1 b0 0 :: (SV.ptr 1 b0 2 :: (SV.int IntKind.i64 d :: (SV.ptr 1 b0 3 :: (SV.int IntKind.i64 h :: (SV.ptr 1 b0 4 :: (SV.int IntKind.i64 mi :: (SV.ptr 1 b0 5 :: (SV.int IntKind.i64 s :: (SV.agg [SV.int IntKind.i64 y, SV.int IntKind.i64 m, SV.int IntKind.i64 d, SV.int IntKind.i64 h, SV.int IntKind.i64 mi, SV.int IntKind.i64 s] :: (SV.ptr 2 b1 0 :: (SV.ptr 2 b1 0 :: (SV.int IntKind.i64 y' :: (SV.ptr 2 b1 0 :: (SV.ptr 2 b1 1 :: (SV.int IntKind.i64 m' :: (SV.ptr 2 b1 0 :: (SV.ptr 2 b1 2 :: (SV.int IntKind.i64 d' :: (SV.ptr 2 b1 3 :: (SV.int IntKind.i64 h' :: (SV.ptr 2 b1 4 :: (SV.int IntKind.i64 mi' :: (SV.ptr 2 b1 5 :: (SV.int IntKind.i64 s' :: (SV.agg [SV.int IntKind.i64 y', SV.int IntKind.i64 m', SV.int IntKind.i64 d', SV.int IntKind.i64 h', SV.int IntKind.i64 mi', SV.int IntKind.i64 s'] :: (SV.int IntKind.i64 (6 : Int) :: (SV.bool false :: (SV.bool false :: (SV.raw (Value.tuple #[]) :: (SV.raw (Value.tuple #[]) :: (SV.bool false :: (SV.int IntKind.i64 (5 : Int) :: (SV.int IntKind.i64 (6 : Int) :: (SV.int IntKind.i64 (5 : Int) :: (SV.ptr 3 b 5 :: (SV.int IntKind.i64 s :: (SV.int IntKind.i64 (5 : Int) :: (SV.ptr 4 b_1 5 :: (SV.int IntKind.i64 s' :: (SV.int IntKind.i64 (IntKind.wrap IntKind.i64 (s - s')) :: (rawR u 78 [] 24)))))))))))))))))))))))))))))))))))))))))))))))) 18))))))))))))))
                                                 [Ent.mk (Loc.blk 0)
                                                  (SObj.pred fun (W : World) (c : Ch) ↦
                                                   c = [] ∧ Lib.TabIs Tryd.prog W "internal/strconv.uint64pow10" IntKind.u64 Lib.pow10Tab),
                                                  Ent.mk (Loc.blk b0)
                                                   (SObj.cells
                                                    [SV.int IntKind.i64 y, SV.int IntKind.i64 m, SV.int IntKind.i64 d, SV.int IntKind.i64 h,
                                                     SV.int IntKind.i64 mi, SV.int IntKind.i64 s]
                                                    (25 : TypeId)),
                                                  Ent.mk (Loc.blk b1)
                                                   (SObj.cells
                                                    [SV.int IntKind.i64 y', SV.int IntKind.i64 m', SV.int IntKind.i64 d', SV.int IntKind.i64 h',
                                                     SV.int IntKind.i64 mi', SV.int IntKind.i64 s']
                                                    (25 : TypeId)),
                                                  Ent.mk (Loc.blk b)
                                                   (SObj.cells
                                                    [SV.int IntKind.i64 y, SV.int IntKind.i64 m, SV.int IntKind.i64 d, SV.int IntKind.i64 h,
                                                     SV.int IntKind.i64 mi, SV.int IntKind.i64 s]
                                                    30),
                                                  Ent.mk (Loc.blk b_1)
                                                   (SObj.cells
                                                    [SV.int IntKind.i64 y', SV.int IntKind.i64 m', SV.int IntKind.i64 d', SV.int IntKind.i64 h',
                                                     SV.int IntKind.i64 mi', SV.int IntKind.i64 s']
                                                    30)])
                                          | false =>
                                           K (frmR [] (bodyOf Tryd.f3) 14)
                                            (Sy.mk (SV.raw (u 0) :: (SV.raw (u 1) :: (SV.ptr 1 b0 0 :: (SV.ptr 2 b1 0 :: (SV.raw (u 4) :: (SV.int IntKind.i64 x :: (SV.raw (u 6) :: (SV.int IntKind.i64 x' :: (SV.raw (u 8) :: (SV.ptr 3 b 0 :: (SV.ptr 4 b_1 0 :: (SV.int IntKind.i64 (IntKind.wrap IntKind.i64 (mi - mi')) :: (SV.int IntKind.i64 (5 : Int) :: (rawR u 13 (SV.ptr 1 b0 0 :: (SV.ptr 1 b0 0 :: (SV.int IntKind.i64 y :: (SV.ptr 1 b0 0 :: (SV.ptr 1 b0 1 :: (SV.int IntKind.i64 m :: (SV.ptr 1 b0 0 :: (SV.ptr 1 b0 2 :: (SV.int IntKind.i64 d :: (SV.ptr 1 b0 3 :: (SV.int IntKind.i64 h :: (SV.ptr 1 b0 4 :: (SV.int IntKind.i64 mi :: (SV.ptr 1 b0 5 :: (SV.int IntKind.i64 s :: (SV.agg [SV.int IntKind.i64 y, SV.int IntKind.i64 m, SV.int IntKind.i64 d, SV.int IntKind.i64 h, SV.int IntKind.i64 mi, SV.int IntKind.i64 s] :: (SV.ptr 2 b1 0 :: (SV.ptr 2 b1 0 :: (SV.int IntKind.i64 y' :: (SV.ptr 2 b1 0 :: (SV.ptr 2 b1 1 :: (SV.int IntKind.i64 m' :: (SV.ptr 2 b1 0 :: (SV.ptr 2 b1 2 :: (SV.int IntKind.i64 d' :: (SV.ptr 2 b1 3 :: (SV.int IntKind.i64 h' :: (SV.ptr 2 b1 4 :: (SV.int IntKind.i64 mi' :: (SV.ptr 2 b1 5 :: (SV.int IntKind.i64 s' :: (SV.agg [SV.int IntKind.i64 y', SV.int IntKind.i64 m', SV.int IntKind.i64 d', SV.int IntKind.i64 h', SV.int IntKind.i64 mi', SV.int IntKind.i64 s'] :: (SV.int IntKind.i64 (5 : Int) :: (SV.bool true :: (SV.bool true :: (SV.int IntKind.i64 (IntKind.wrap IntKind.i64 (mi - mi')) :: ((SV.bool (IntKind.wrap IntKind.i64 (mi - mi') == (0 : Int))) :: (SV.bool false :: (SV.int IntKind.i64 (4 : Int) :: (SV.int IntKind.i64 (5 : Int) :: (SV.int IntKind.i64 (4 : Int) :: (SV.ptr 3 b 4 :: (SV.int IntKind.i64 mi :: (SV.int IntKind.i64 (4 : Int) :: (SV.ptr 4 b_1 4 :: (SV.int IntKind.i64 mi' :: (SV.int IntKind.i64 (IntKind.wrap IntKind.i64 (mi - mi')) :: (rawR u 78 [] 24)))))))))))))))))))))))))))))))))))))))))))))))) 18))))))))))))))
                                             [Ent.mk (Loc.blk 0)
                                              (SObj.pred fun (W : World) (c : Ch) ↦
                                               c = [] ∧ Lib.TabIs Tryd.prog W "internal/strconv.uint64pow10" IntKind.u64 Lib.pow10Tab),
                                              Ent.mk (Loc.blk b0)
                                               (SObj.cells
                                                [SV.int IntKind.i64 y, SV.int IntKind.i64 m, SV.int IntKind.i64 d, SV.int IntKind.i64 h,
                                                 SV.int IntKind.i64 mi, SV.int IntKind.i64 s]
                                                (25 : TypeId)),
                                              Ent.mk (Loc.blk b1)
                                               (SObj.cells
                                                [SV.int IntKind.i64 y', SV.int IntKind.i64 m', SV.int IntKind.i64 d', SV.int IntKind.i64 h',
                                                 SV.int IntKind.i64 mi', SV.int IntKind.i64 s']
                                                (25 : TypeId)),
                                              Ent.mk (Loc.blk b)
                                               (SObj.cells
                                                [SV.int IntKind.i64 y, SV.int IntKind.i64 m, SV.int IntKind.i64 d, SV.int IntKind.i64 h,
                                                 SV.int IntKind.i64 mi, SV.int IntKind.i64 s]
                                                30),
                                              Ent.mk (Loc.blk b_1)
                                               (SObj.cells
                                                [SV.int IntKind.i64 y', SV.int IntKind.i64 m', SV.int IntKind.i64 d', SV.int IntKind.i64 h',
                                                 SV.int IntKind.i64 mi', SV.int IntKind.i64 s']
                                                30)])
                                     | false =>
                                      K (frmR [] (bodyOf Tryd.f3) 14)
                                       (Sy.mk (SV.raw (u 0) :: (SV.raw (u 1) :: (SV.ptr 1 b0 0 :: (SV.ptr 2 b1 0 :: (SV.raw (u 4) :: (SV.int IntKind.i64 x :: (SV.raw (u 6) :: (SV.int IntKind.i64 x' :: (SV.raw (u 8) :: (SV.ptr 3 b 0 :: (SV.ptr 4 b_1 0 :: (SV.int IntKind.i64 (IntKind.wrap IntKind.i64 (h - h')) :: (SV.int IntKind.i64 (4 : Int) :: (rawR u 13 (SV.ptr 1 b0 0 :: (SV.ptr 1 b0 0 :: (SV.int IntKind.i64 y :: (SV.ptr 1 b0 0 :: (SV.ptr 1 b0 1 :: (SV.int IntKind.i64 m :: (SV.ptr 1 b0 0 :: (SV.ptr 1 b0 2 :: (SV.int IntKind.i64 d :: (SV.ptr 1 b0 3 :: (SV.int IntKind.i64 h :: (SV.ptr 1 b0 4 :: (SV.int IntKind.i64 mi :: (SV.ptr 1 b0 5 :: (SV.int IntKind.i64 s :: (SV.agg [SV.int IntKind.i64 y, SV.int IntKind.i64 m, SV.int IntKind.i64 d, SV.int IntKind.i64 h, SV.int IntKind.i64 mi, SV.int IntKind.i64 s] :: (SV.ptr 2 b1 0 :: (SV.ptr 2 b1 0 :: (SV.int IntKind.i64 y' :: (SV.ptr 2 b1 0 :: (SV.ptr 2 b1 1 :: (SV.int IntKind.i64 m' :: (SV.ptr 2 b1 0 :: (SV.ptr 2 b1 2 :: (SV.int IntKind.i64 d' :: (SV.ptr 2 b1 3 :: (SV.int IntKind.i64 h' :: (SV.ptr 2 b1 4 :: (SV.int IntKind.i64 mi' :: (SV.ptr 2 b1 5 :: (SV.int IntKind.i64 s' :: (SV.agg [SV.int IntKind.i64 y', SV.int IntKind.i64 m', SV.int IntKind.i64 d', SV.int IntKind.i64 h', SV.int IntKind.i64 mi', SV.int IntKind.i64 s'] :: (SV.int IntKind.i64 (4 : Int) :: (SV.bool true :: (SV.bool true :: (SV.int IntKind.i64 (IntKind.wrap IntKind.i64 (h - h')) :: ((SV.bool (IntKind.wrap IntKind.i64 (h - h') == (0 : Int))) :: (SV.bool false :: (SV.int IntKind.i64 (3 : Int) :: (SV.int IntKind.i64 (4 : Int) :: (SV.int IntKind.i64 (3 : Int) :: (SV.ptr 3 b 3 :: (SV.int IntKind.i64 h :: (SV.int IntKind.i64 (3 : Int) :: (SV.ptr 4 b_1 3 :: (SV.int IntKind.i64 h' :: (SV.int IntKind.i64 (IntKind.wrap IntKind.i64 (h - h')) :: (rawR u 78 [] 24)))))))))))))))))))))))))))))))))))))))))))))))) 18))))))))))))))
                                        [Ent.mk (Loc.blk 0)
                                         (SObj.pred fun (W : World) (c : Ch) ↦
                                          c = [] ∧ Lib.TabIs Tryd.prog W "internal/strconv.uint64pow10" IntKind.u64 Lib.pow10Tab),
                                         Ent.mk (Loc.blk b0)
                                          (SObj.cells
                                           [SV.int IntKind.i64 y, SV.int IntKind.i64 m, SV.int IntKind.i64 d, SV.int IntKind.i64 h, SV.int IntKind.i64 mi,
                                            SV.int IntKind.i64 s]
                                           (25 : TypeId)),
                                         Ent.mk (Loc.blk b1)
                                          (SObj.cells
                                           [SV.int IntKind.i64 y', SV.int IntKind.i64 m', SV.int IntKind.i64 d', SV.int IntKind.i64 h',
                                            SV.int IntKind.i64 mi', SV.int IntKind.i64 s']
                                           (25 : TypeId)),
                                         Ent.mk (Loc.blk b)
                                          (SObj.cells
                                           [SV.int IntKind.i64 y, SV.int IntKind.i64 m, SV.int IntKind.i64 d, SV.int IntKind.i64 h, SV.int IntKind.i64 mi,
                                            SV.int IntKind.i64 s]
                                           30),
                                         Ent.mk (Loc.blk b_1)
                                          (SObj.cells
                                           [SV.int IntKind.i64 y', SV.int IntKind.i64 m', SV.int IntKind.i64 d', SV.int IntKind.i64 h',
                                            SV.int IntKind.i64 mi', SV.int IntKind.i64 s']
                                           30)])
                                | false =>
                                 K (frmR [] (bodyOf Tryd.f3) 14)
                                  (Sy.mk (SV.raw (u 0) :: (SV.raw (u 1) :: (SV.ptr 1 b0 0 :: (SV.ptr 2 b1 0 :: (SV.raw (u 4) :: (SV.int IntKind.i64 x :: (SV.raw (u 6) :: (SV.int IntKind.i64 x' :: (SV.raw (u 8) :: (SV.ptr 3 b 0 :: (SV.ptr 4 b_1 0 :: (SV.int IntKind.i64 (IntKind.wrap IntKind.i64 (d - d')) :: (SV.int IntKind.i64 (3 : Int) :: (rawR u 13 (SV.ptr 1 b0 0 :: (SV.ptr 1 b0 0 :: (SV.int IntKind.i64 y :: (SV.ptr 1 b0 0 :: (SV.ptr 1 b0 1 :: (SV.int IntKind.i64 m :: (SV.ptr 1 b0 0 :: (SV.ptr 1 b0 2 :: (SV.int IntKind.i64 d :: (SV.ptr 1 b0 3 :: (SV.int IntKind.i64 h :: (SV.ptr 1 b0 4 :: (SV.int IntKind.i64 mi :: (SV.ptr 1 b0 5 :: (SV.int IntKind.i64 s :: (SV.agg [SV.int IntKind.i64 y, SV.int IntKind.i64 m, SV.int IntKind.i64 d, SV.int IntKind.i64 h, SV.int IntKind.i64 mi, SV.int IntKind.i64 s] :: (SV.ptr 2 b1 0 :: (SV.ptr 2 b1 0 :: (SV.int IntKind.i64 y' :: (SV.ptr 2 b1 0 :: (SV.ptr 2 b1 1 :: (SV.int IntKind.i64 m' :: (SV.ptr 2 b1 0 :: (SV.ptr 2 b1 2 :: (SV.int IntKind.i64 d' :: (SV.ptr 2 b1 3 :: (SV.int IntKind.i64 h' :: (SV.ptr 2 b1 4 :: (SV.int IntKind.i64 mi' :: (SV.ptr 2 b1 5 :: (SV.int IntKind.i64 s' :: (SV.agg [SV.int IntKind.i64 y', SV.int IntKind.i64 m', SV.int IntKind.i64 d', SV.int IntKind.i64 h', SV.int IntKind.i64 mi', SV.int IntKind.i64 s'] :: (SV.int IntKind.i64 (3 : Int) :: (SV.bool true :: (SV.bool true :: (SV.int IntKind.i64 (IntKind.wrap IntKind.i64 (d - d')) :: ((SV.bool (IntKind.wrap IntKind.i64 (d - d') == (0 : Int))) :: (SV.bool false :: (SV.int IntKind.i64 (2 : Int) :: (SV.int IntKind.i64 (3 : Int) :: (SV.int IntKind.i64 (2 : Int) :: (SV.ptr 3 b 2 :: (SV.int IntKind.i64 d :: (SV.int IntKind.i64 (2 : Int) :: (SV.ptr 4 b_1 2 :: (SV.int IntKind.i64 d' :: (SV.int IntKind.i64 (IntKind.wrap IntKind.i64 (d - d')) :: (rawR u 78 [] 24)))))))))))))))))))))))))))))))))))))))))))))))) 18))))))))))))))
                                   [Ent.mk (Loc.blk 0)
                                    (SObj.pred fun (W : World) (c : Ch) ↦ c = [] ∧ Lib.TabIs Tryd.prog W "internal/strconv.uint64pow10" IntKind.u64 Lib.pow10Tab),
                                    Ent.mk (Loc.blk b0)
                                     (SObj.cells
                                      [SV.int IntKind.i64 y, SV.int IntKind.i64 m, SV.int IntKind.i64 d, SV.int IntKind.i64 h, SV.int IntKind.i64 mi,
                                       SV.int IntKind.i64 s]
                                      (25 : TypeId)),
                                    Ent.mk (Loc.blk b1)
                                     (SObj.cells
                                      [SV.int IntKind.i64 y', SV.int IntKind.i64 m', SV.int IntKind.i64 d', SV.int IntKind.i64 h', SV.int IntKind.i64 mi',
                                       SV.int IntKind.i64 s']
                                      (25 : TypeId)),
                                    Ent.mk (Loc.blk b)
                                     (SObj.cells
                                      [SV.int IntKind.i64 y, SV.int IntKind.i64 m, SV.int IntKind.i64 d, SV.int IntKind.i64 h, SV.int IntKind.i64 mi,
                                       SV.int IntKind.i64 s]
                                      30),
                                    Ent.mk (Loc.blk b_1)
                                     (SObj.cells
                                      [SV.int IntKind.i64 y', SV.int IntKind.i64 m', SV.int IntKind.i64 d', SV.int IntKind.i64 h', SV.int IntKind.i64 mi',
                                       SV.int IntKind.i64 s']
                                      30)])
                           | false =>
                            K (frmR [] (bodyOf Tryd.f3) 14)
                             (Sy.mk (SV.raw (u 0) :: (SV.raw (u 1) :: (SV.ptr 1 b0 0 :: (SV.ptr 2 b1 0 :: (SV.raw (u 4) :: (SV.int IntKind.i64 x :: (SV.raw (u 6) :: (SV.int IntKind.i64 x' :: (SV.raw (u 8) :: (SV.ptr 3 b 0 :: (SV.ptr 4 b_1 0 :: (SV.int IntKind.i64 (IntKind.wrap IntKind.i64 (m - m')) :: (SV.int IntKind.i64 (2 : Int) :: (rawR u 13 (SV.ptr 1 b0 0 :: (SV.ptr 1 b0 0 :: (SV.int IntKind.i64 y :: (SV.ptr 1 b0 0 :: (SV.ptr 1 b0 1 :: (SV.int IntKind.i64 m :: (SV.ptr 1 b0 0 :: (SV.ptr 1 b0 2 :: (SV.int IntKind.i64 d :: (SV.ptr 1 b0 3 :: (SV.int IntKind.i64 h :: (SV.ptr 1 b0 4 :: (SV.int IntKind.i64 mi :: (SV.ptr 1 b0 5 :: (SV.int IntKind.i64 s :: (SV.agg [SV.int IntKind.i64 y, SV.int IntKind.i64 m, SV.int IntKind.i64 d, SV.int IntKind.i64 h, SV.int IntKind.i64 mi, SV.int IntKind.i64 s] :: (SV.ptr 2 b1 0 :: (SV.ptr 2 b1 0 :: (SV.int IntKind.i64 y' :: (SV.ptr 2 b1 0 :: (SV.ptr 2 b1 1 :: (SV.int IntKind.i64 m' :: (SV.ptr 2 b1 0 :: (SV.ptr 2 b1 2 :: (SV.int IntKind.i64 d' :: (SV.ptr 2 b1 3 :: (SV.int IntKind.i64 h' :: (SV.ptr 2 b1 4 :: (SV.int IntKind.i64 mi' :: (SV.ptr 2 b1 5 :: (SV.int IntKind.i64 s' :: (SV.agg [SV.int IntKind.i64 y', SV.int IntKind.i64 m', SV.int IntKind.i64 d', SV.int IntKind.i64 h', SV.int IntKind.i64 mi', SV.int IntKind.i64 s'] :: (SV.int IntKind.i64 (2 : Int) :: (SV.bool true :: (SV.bool true :: (SV.int IntKind.i64 (IntKind.wrap IntKind.i64 (m - m')) :: ((SV.bool (IntKind.wrap IntKind.i64 (m - m') == (0 : Int))) :: (SV.bool false :: (SV.int IntKind.i64 (1 : Int) :: (SV.int IntKind.i64 (2 : Int) :: (SV.int IntKind.i64 (1 : Int) :: (SV.ptr 3 b 1 :: (SV.int IntKind.i64 m :: (SV.int IntKind.i64 (1 : Int) :: (SV.ptr 4 b_1 1 :: (SV.int IntKind.i64 m' :: (SV.int IntKind.i64 (IntKind.wrap IntKind.i64 (m - m')) :: (rawR u 78 [] 24)))))))))))))))))))))))))))))))))))))))))))))))) 18))))))))))))))
                              [Ent.mk (Loc.blk 0)
                               (SObj.pred fun (W : World) (c : Ch) ↦ c = [] ∧ Lib.TabIs Tryd.prog W "internal/strconv.uint64pow10" IntKind.u64 Lib.pow10Tab),
                               Ent.mk (Loc.blk b0)
                                (SObj.cells
                                 [SV.int IntKind.i64 y, SV.int IntKind.i64 m, SV.int IntKind.i64 d, SV.int IntKind.i64 h, SV.int IntKind.i64 mi, SV.int IntKind.i64 s]
                                 (25 : TypeId)),
                               Ent.mk (Loc.blk b1)
                                (SObj.cells
                                 [SV.int IntKind.i64 y', SV.int IntKind.i64 m', SV.int IntKind.i64 d', SV.int IntKind.i64 h', SV.int IntKind.i64 mi',
                                  SV.int IntKind.i64 s']
                                 (25 : TypeId)),
                               Ent.mk (Loc.blk b)
                                (SObj.cells
                                 [SV.int IntKind.i64 y, SV.int IntKind.i64 m, SV.int IntKind.i64 d, SV.int IntKind.i64 h, SV.int IntKind.i64 mi, SV.int IntKind.i64 s]
                                 30),
                               Ent.mk (Loc.blk b_1)
                                (SObj.cells
                                 [SV.int IntKind.i64 y', SV.int IntKind.i64 m', SV.int IntKind.i64 d', SV.int IntKind.i64 h', SV.int IntKind.i64 mi',
                                  SV.int IntKind.i64 s']
                                 30)])
                      | false =>
                       K (frmR [] (bodyOf Tryd.f3) 14)
                        (Sy.mk (SV.raw (u 0) :: (SV.raw (u 1) :: (SV.ptr 1 b0 0 :: (SV.ptr 2 b1 0 :: (SV.raw (u 4) :: (SV.int IntKind.i64 x :: (SV.raw (u 6) :: (SV.int IntKind.i64 x' :: (SV.raw (u 8) :: (SV.ptr 3 b 0 :: (SV.ptr 4 b_1 0 :: (SV.int IntKind.i64 (IntKind.wrap IntKind.i64 (y - y')) :: (SV.int IntKind.i64 (1 : Int) :: (rawR u 13 (SV.ptr 1 b0 0 :: (SV.ptr 1 b0 0 :: (SV.int IntKind.i64 y :: (SV.ptr 1 b0 0 :: (SV.ptr 1 b0 1 :: (SV.int IntKind.i64 m :: (SV.ptr 1 b0 0 :: (SV.ptr 1 b0 2 :: (SV.int IntKind.i64 d :: (SV.ptr 1 b0 3 :: (SV.int IntKind.i64 h :: (SV.ptr 1 b0 4 :: (SV.int IntKind.i64 mi :: (SV.ptr 1 b0 5 :: (SV.int IntKind.i64 s :: (SV.agg [SV.int IntKind.i64 y, SV.int IntKind.i64 m, SV.int IntKind.i64 d, SV.int IntKind.i64 h, SV.int IntKind.i64 mi, SV.int IntKind.i64 s] :: (SV.ptr 2 b1 0 :: (SV.ptr 2 b1 0 :: (SV.int IntKind.i64 y' :: (SV.ptr 2 b1 0 :: (SV.ptr 2 b1 1 :: (SV.int IntKind.i64 m' :: (SV.ptr 2 b1 0 :: (SV.ptr 2 b1 2 :: (SV.int IntKind.i64 d' :: (SV.ptr 2 b1 3 :: (SV.int IntKind.i64 h' :: (SV.ptr 2 b1 4 :: (SV.int IntKind.i64 mi' :: (SV.ptr 2 b1 5 :: (SV.int IntKind.i64 s' :: (SV.agg [SV.int IntKind.i64 y', SV.int IntKind.i64 m', SV.int IntKind.i64 d', SV.int IntKind.i64 h', SV.int IntKind.i64 mi', SV.int IntKind.i64 s'] :: (SV.int IntKind.i64 (1 : Int) :: (SV.bool true :: (SV.bool true :: (SV.int IntKind.i64 (IntKind.wrap IntKind.i64 (y - y')) :: ((SV.bool (IntKind.wrap IntKind.i64 (y - y') == (0 : Int))) :: (SV.bool false :: (SV.int IntKind.i64 (0 : Int) :: (SV.int IntKind.i64 (1 : Int) :: (SV.int IntKind.i64 (0 : Int) :: (SV.ptr 3 b 0 :: (SV.int IntKind.i64 y :: (SV.int IntKind.i64 (0 : Int) :: (SV.ptr 4 b_1 0 :: (SV.int IntKind.i64 y' :: (SV.int IntKind.i64 (IntKind.wrap IntKind.i64 (y - y')) :: (rawR u 78 [] 24)))))))))))))))))))))))))))))))))))))))))))))))) 18))))))))))))))
                         [Ent.mk (Loc.blk 0)
                          (SObj.pred fun (W : World) (c : Ch) ↦ c = [] ∧ Lib.TabIs Tryd.prog W "internal/strconv.uint64pow10" IntKind.u64 Lib.pow10Tab),
                          Ent.mk (Loc.blk b0)
                           (SObj.cells [SV.int IntKind.i64 y, SV.int IntKind.i64 m, SV.int IntKind.i64 d, SV.int IntKind.i64 h, SV.int IntKind.i64 mi, SV.int IntKind.i64 s]
                            (25 : TypeId)),
                          Ent.mk (Loc.blk b1)
                           (SObj.cells
                            [SV.int IntKind.i64 y', SV.int IntKind.i64 m', SV.int IntKind.i64 d', SV.int IntKind.i64 h', SV.int IntKind.i64 mi', SV.int IntKind.i64 s']
                            (25 : TypeId)),
                          Ent.mk (Loc.blk b)
                           (SObj.cells [SV.int IntKind.i64 y, SV.int IntKind.i64 m, SV.int IntKind.i64 d, SV.int IntKind.i64 h, SV.int IntKind.i64 mi, SV.int IntKind.i64 s]
                            30),
                          Ent.mk (Loc.blk b_1)
                           (SObj.cells
                            [SV.int IntKind.i64 y', SV.int IntKind.i64 m', SV.int IntKind.i64 d', SV.int IntKind.i64 h', SV.int IntKind.i64 mi', SV.int IntKind.i64 s']
                            30)])) := by kernel_rfl


theorem co_14 (K : List Frm → Sy → Prop) (N : List Ent → SV → Prop) (b0 b1 : Nat) (y m d h mi s y' m' d' h' mi' s' : Int) (x x' c : Int) (u : Nat → Value) : (run Tryd.prog tellsT true [] K (retP Tryd.prog Tryd.f3.results.toList N) 3000 (frmR [] (bodyOf Tryd.f3) 14) ⟨mkT u 102 0 [(2, .ptr 1 b0 0), (3, .ptr 2 b1 0), (5, .int .i64 x), (7, .int .i64 x'), (11, .int .i64 c)], [itoaE, ⟨.blk b0, .cells [.int .i64 y, .int .i64 m, .int .i64 d, .int .i64 h, .int .i64 mi, .int .i64 s] 25⟩, ⟨.blk b1, .cells [.int .i64 y', .int .i64 m', .int .i64 d', .int .i64 h', .int .i64 mi', .int .i64 s'] 25⟩]⟩) = (
match decide (x < x') == decide (c < (0 : Int)) with
| true =>
 match (x == x') == (c == (0 : Int)) with
 | true =>
  (b0 = b0 ∧ 6 = 6) ∧
   (b1 = b1 ∧ 6 = 6) ∧
    true = true ∧
     some (Ent.mk (Loc.blk 0) (SObj.pred fun (W : World) (c : Ch) ↦ c = [] ∧ Lib.TabIs Tryd.prog W "internal/strconv.uint64pow10" IntKind.u64 Lib.pow10Tab)) =
      some (Ent.mk (Loc.blk 0) (SObj.pred fun (W : World) (c : Ch) ↦ c = [] ∧ Lib.TabIs Tryd.prog W "internal/strconv.uint64pow10" IntKind.u64 Lib.pow10Tab)) ∧
      match isMomB y m d h mi s with
      | true =>
       (Ent.mk (Loc.blk 0) (SObj.pred fun (W : World) (c : Ch) ↦ c = [] ∧ Lib.TabIs Tryd.prog W "internal/strconv.uint64pow10" IntKind.u64 Lib.pow10Tab) =
        Ent.mk (Loc.blk 0) (SObj.pred fun (W : World) (c : Ch) ↦ c = [] ∧ Lib.TabIs Tryd.prog W "internal/strconv.uint64pow10" IntKind.u64 Lib.pow10Tab) ∧
        Ent.mk (Loc.blk b0) (SObj.cells [SV.int IntKind.i64 y, SV.int IntKind.i64 m, SV.int IntKind.i64 d, SV.int IntKind.i64 h, SV.int IntKind.i64 mi, SV.int IntKind.i64 s] (25 : TypeId)) =
         Ent.mk (Loc.blk b0)
          (SObj.cells [SV.int IntKind.i64 y, SV.int IntKind.i64 m, SV.int IntKind.i64 d, SV.int IntKind.i64 h, SV.int IntKind.i64 mi, SV.int IntKind.i64 s] (25 : TypeId)) ∧
         Ent.mk (Loc.blk b1)
          (SObj.cells [SV.int IntKind.i64 y', SV.int IntKind.i64 m', SV.int IntKind.i64 d', SV.int IntKind.i64 h', SV.int IntKind.i64 mi', SV.int IntKind.i64 s'] (25 : TypeId)) =
          Ent.mk (Loc.blk b1)
           (SObj.cells [SV.int IntKind.i64 y', SV.int IntKind.i64 m', SV.int IntKind.i64 d', SV.int IntKind.i64 h', SV.int IntKind.i64 mi', SV.int IntKind.i64 s'] (25 : TypeId)) ∧
          True) ∧
        true = true ∧
         some (Ent.mk (Loc.blk 0) (SObj.pred fun (W : World) (c : Ch) ↦ c = [] ∧ Lib.TabIs Tryd.prog W "internal/strconv.uint64pow10" IntKind.u64 Lib.pow10Tab)) =
          some (Ent.mk (Loc.blk 0) (SObj.pred fun (W : World) (c : Ch) ↦ c = [] ∧ Lib.TabIs Tryd.prog W "internal/strconv.uint64pow10" IntKind.u64 Lib.pow10Tab)) ∧
          match isMomB y' m' d' h' mi' s' with
          | true =>
           (Ent.mk (Loc.blk 0) (SObj.pred fun (W : World) (c : Ch) ↦ c = [] ∧ Lib.TabIs Tryd.prog W "internal/strconv.uint64pow10" IntKind.u64 Lib.pow10Tab) =
            Ent.mk (Loc.blk 0) (SObj.pred fun (W : World) (c : Ch) ↦ c = [] ∧ Lib.TabIs Tryd.prog W "internal/strconv.uint64pow10" IntKind.u64 Lib.pow10Tab) ∧
            Ent.mk (Loc.blk b0)
             (SObj.cells [SV.int IntKind.i64 y, SV.int IntKind.i64 m, SV.int IntKind.i64 d, SV.int IntKind.i64 h, SV.int IntKind.i64 mi, SV.int IntKind.i64 s] (25 : TypeId)) =
             Ent.mk (Loc.blk b0)
              (SObj.cells [SV.int IntKind.i64 y, SV.int IntKind.i64 m, SV.int IntKind.i64 d, SV.int IntKind.i64 h, SV.int IntKind.i64 mi, SV.int IntKind.i64 s] (25 : TypeId)) ∧
             Ent.mk (Loc.blk b1)
              (SObj.cells [SV.int IntKind.i64 y', SV.int IntKind.i64 m', SV.int IntKind.i64 d', SV.int IntKind.i64 h', SV.int IntKind.i64 mi', SV.int IntKind.i64 s']
               (25 : TypeId)) =
              Ent.mk (Loc.blk b1)
               (SObj.cells [SV.int IntKind.i64 y', SV.int IntKind.i64 m', SV.int IntKind.i64 d', SV.int IntKind.i64 h', SV.int IntKind.i64 mi', SV.int IntKind.i64 s']
                (25 : TypeId)) ∧
              True) ∧
            N
             [Ent.mk (Loc.blk 0) (SObj.pred fun (W : World) (c : Ch) ↦ c = [] ∧ Lib.TabIs Tryd.prog W "internal/strconv.uint64pow10" IntKind.u64 Lib.pow10Tab),
              Ent.mk (Loc.blk b0)
               (SObj.cells [SV.int IntKind.i64 y, SV.int IntKind.i64 m, SV.int IntKind.i64 d, SV.int IntKind.i64 h, SV.int IntKind.i64 mi, SV.int IntKind.i64 s] (25 : TypeId)),
              Ent.mk (Loc.blk b1)
               (SObj.cells [SV.int IntKind.i64 y', SV.int IntKind.i64 m', SV.int IntKind.i64 d', SV.int IntKind.i64 h', SV.int IntKind.i64 mi', SV.int IntKind.i64 s'] (25 : TypeId))]
             (SV.bool (sLt (printB y m d h mi s) (printB y' m' d' h' mi' s') == decide (c < (0 : Int))))
          | false =>
           (Ent.mk (Loc.blk 0) (SObj.pred fun (W : World) (c : Ch) ↦ c = [] ∧ Lib.TabIs Tryd.prog W "internal/strconv.uint64pow10" IntKind.u64 Lib.pow10Tab) =
            Ent.mk (Loc.blk 0) (SObj.pred fun (W : World) (c : Ch) ↦ c = [] ∧ Lib.TabIs Tryd.prog W "internal/strconv.uint64pow10" IntKind.u64 Lib.pow10Tab) ∧
            Ent.mk (Loc.blk b0)
             (SObj.cells [SV.int IntKind.i64 y, SV.int IntKind.i64 m, SV.int IntKind.i64 d, SV.int IntKind.i64 h, SV.int IntKind.i64 mi, SV.int IntKind.i64 s] (25 : TypeId)) =
             Ent.mk (Loc.blk b0)
              (SObj.cells [SV.int IntKind.i64 y, SV.int IntKind.i64 m, SV.int IntKind.i64 d, SV.int IntKind.i64 h, SV.int IntKind.i64 mi, SV.int IntKind.i64 s] (25 : TypeId)) ∧
             Ent.mk (Loc.blk b1)
              (SObj.cells [SV.int IntKind.i64 y', SV.int IntKind.i64 m', SV.int IntKind.i64 d', SV.int IntKind.i64 h', SV.int IntKind.i64 mi', SV.int IntKind.i64 s']
               (25 : TypeId)) =
              Ent.mk (Loc.blk b1)
               (SObj.cells [SV.int IntKind.i64 y', SV.int IntKind.i64 m', SV.int IntKind.i64 d', SV.int IntKind.i64 h', SV.int IntKind.i64 mi', SV.int IntKind.i64 s']
                (25 : TypeId)) ∧
              True) ∧
            N
             [Ent.mk (Loc.blk 0) (SObj.pred fun (W : World) (c : Ch) ↦ c = [] ∧ Lib.TabIs Tryd.prog W "internal/strconv.uint64pow10" IntKind.u64 Lib.pow10Tab),
              Ent.mk (Loc.blk b0)
               (SObj.cells [SV.int IntKind.i64 y, SV.int IntKind.i64 m, SV.int IntKind.i64 d, SV.int IntKind.i64 h, SV.int IntKind.i64 mi, SV.int IntKind.i64 s] (25 : TypeId)),
              Ent.mk (Loc.blk b1)
               (SObj.cells [SV.int IntKind.i64 y', SV.int IntKind.i64 m', SV.int IntKind.i64 d', SV.int IntKind.i64 h', SV.int IntKind.i64 mi', SV.int IntKind.i64 s'] (25 : TypeId))]
             (SV.bool (sLt (printB y m d h mi s) (ByteArray.mk #[]) == decide (c < (0 : Int))))
      | false =>
       (Ent.mk (Loc.blk 0) (SObj.pred fun (W : World) (c : Ch) ↦ c = [] ∧ Lib.TabIs Tryd.prog W "internal/strconv.uint64pow10" IntKind.u64 Lib.pow10Tab) =
        Ent.mk (Loc.blk 0) (SObj.pred fun (W : World) (c : Ch) ↦ c = [] ∧ Lib.TabIs Tryd.prog W "internal/strconv.uint64pow10" IntKind.u64 Lib.pow10Tab) ∧
        Ent.mk (Loc.blk b0) (SObj.cells [SV.int IntKind.i64 y, SV.int IntKind.i64 m, SV.int IntKind.i64 d, SV.int IntKind.i64 h, SV.int IntKind.i64 mi, SV.int IntKind.i64 s] (25 : TypeId)) =
         Ent.mk (Loc.blk b0)
          (SObj.cells [SV.int IntKind.i64 y, SV.int IntKind.i64 m, SV.int IntKind.i64 d, SV.int IntKind.i64 h, SV.int IntKind.i64 mi, SV.int IntKind.i64 s] (25 : TypeId)) ∧
         Ent.mk (Loc.blk b1)
          (SObj.cells [SV.int IntKind.i64 y', SV.int IntKind.i64 m', SV.int IntKind.i64 d', SV.int IntKind.i64 h', SV.int IntKind.i64 mi', SV.int IntKind.i64 s'] (25 : TypeId)) =
          Ent.mk (Loc.blk b1)
           (SObj.cells [SV.int IntKind.i64 y', SV.int IntKind.i64 m', SV.int IntKind.i64 d', SV.int IntKind.i64 h', SV.int IntKind.i64 mi', SV.int IntKind.i64 s'] (25 : TypeId)) ∧
          True) ∧
        true = true ∧
         some (Ent.mk (Loc.blk 0) (SObj.pred fun (W : World) (c : Ch) ↦ c = [] ∧ Lib.TabIs Tryd.prog W "internal/strconv.uint64pow10" IntKind.u64 Lib.pow10Tab)) =
          some (Ent.mk (Loc.blk 0) (SObj.pred fun (W : World) (c : Ch) ↦ c = [] ∧ Lib.TabIs Tryd.prog W "internal/strconv.uint64pow10" IntKind.u64 Lib.pow10Tab)) ∧
          match isMomB y' m' d' h' mi' s' with
          | true =>
           (Ent.mk (Loc.blk 0) (SObj.pred fun (W : World) (c : Ch) ↦ c = [] ∧ Lib.TabIs Tryd.prog W "internal/strconv.uint64pow10" IntKind.u64 Lib.pow10Tab) =
            Ent.mk (Loc.blk 0) (SObj.pred fun (W : World) (c : Ch) ↦ c = [] ∧ Lib.TabIs Tryd.prog W "internal/strconv.uint64pow10" IntKind.u64 Lib.pow10Tab) ∧
            Ent.mk (Loc.blk b0)
             (SObj.cells [SV.int IntKind.i64 y, SV.int IntKind.i64 m, SV.int IntKind.i64 d, SV.int IntKind.i64 h, SV.int IntKind.i64 mi, SV.int IntKind.i64 s] (25 : TypeId)) =
             Ent.mk (Loc.blk b0)
              (SObj.cells [SV.int IntKind.i64 y, SV.int IntKind.i64 m, SV.int IntKind.i64 d, SV.int IntKind.i64 h, SV.int IntKind.i64 mi, SV.int IntKind.i64 s] (25 : TypeId)) ∧
             Ent.mk (Loc.blk b1)
              (SObj.cells [SV.int IntKind.i64 y', SV.int IntKind.i64 m', SV.int IntKind.i64 d', SV.int IntKind.i64 h', SV.int IntKind.i64 mi', SV.int IntKind.i64 s']
               (25 : TypeId)) =
              Ent.mk (Loc.blk b1)
               (SObj.cells [SV.int IntKind.i64 y', SV.int IntKind.i64 m', SV.int IntKind.i64 d', SV.int IntKind.i64 h', SV.int IntKind.i64 mi', SV.int IntKind.i64 s']
                (25 : TypeId)) ∧
              True) ∧
            N
             [Ent.mk (Loc.blk 0) (SObj.pred fun (W : World) (c : Ch) ↦ c = [] ∧ Lib.TabIs Tryd.prog W "internal/strconv.uint64pow10" IntKind.u64 Lib.pow10Tab),
              Ent.mk (Loc.blk b0)
               (SObj.cells [SV.int IntKind.i64 y, SV.int IntKind.i64 m, SV.int IntKind.i64 d, SV.int IntKind.i64 h, SV.int IntKind.i64 mi, SV.int IntKind.i64 s] (25 : TypeId)),
              Ent.mk (Loc.blk b1)
               (SObj.cells [SV.int IntKind.i64 y', SV.int IntKind.i64 m', SV.int IntKind.i64 d', SV.int IntKind.i64 h', SV.int IntKind.i64 mi', SV.int IntKind.i64 s'] (25 : TypeId))]
             (SV.bool (sLt (ByteArray.mk #[]) (printB y' m' d' h' mi' s') == decide (c < (0 : Int))))
          | false =>
           (Ent.mk (Loc.blk 0) (SObj.pred fun (W : World) (c : Ch) ↦ c = [] ∧ Lib.TabIs Tryd.prog W "internal/strconv.uint64pow10" IntKind.u64 Lib.pow10Tab) =
            Ent.mk (Loc.blk 0) (SObj.pred fun (W : World) (c : Ch) ↦ c = [] ∧ Lib.TabIs Tryd.prog W "internal/strconv.uint64pow10" IntKind.u64 Lib.pow10Tab) ∧
            Ent.mk (Loc.blk b0)
             (SObj.cells [SV.int IntKind.i64 y, SV.int IntKind.i64 m, SV.int IntKind.i64 d, SV.int IntKind.i64 h, SV.int IntKind.i64 mi, SV.int IntKind.i64 s] (25 : TypeId)) =
             Ent.mk (Loc.blk b0)
              (SObj.cells [SV.int IntKind.i64 y, SV.int IntKind.i64 m, SV.int IntKind.i64 d, SV.int IntKind.i64 h, SV.int IntKind.i64 mi, SV.int IntKind.i64 s] (25 : TypeId)) ∧
             Ent.mk (Loc.blk b1)
              (SObj.cells [SV.int IntKind.i64 y', SV.int IntKind.i64 m', SV.int IntKind.i64 d', SV.int IntKind.i64 h', SV.int IntKind.i64 mi', SV.int IntKind.i64 s']
               (25 : TypeId)) =
              Ent.mk (Loc.blk b1)
               (SObj.cells [SV.int IntKind.i64 y', SV.int IntKind.i64 m', SV.int IntKind.i64 d', SV.int IntKind.i64 h', SV.int IntKind.i64 mi', SV.int IntKind.i64 s']
                (25 : TypeId)) ∧
              True) ∧
            N
             [Ent.mk (Loc.blk 0) (SObj.pred fun (W : World) (c : Ch) ↦ c = [] ∧ Lib.TabIs Tryd.prog W "internal/strconv.uint64pow10" IntKind.u64 Lib.pow10Tab),
              Ent.mk (Loc.blk b0)
               (SObj.cells [SV.int IntKind.i64 y, SV.int IntKind.i64 m, SV.int IntKind.i64 d, SV.int IntKind.i64 h, SV.int IntKind.i64 mi, SV.int IntKind.i64 s] (25 : TypeId)),
              Ent.mk (Loc.blk b1)
               (SObj.cells [SV.int IntKind.i64 y', SV.int IntKind.i64 m', SV.int IntKind.i64 d', SV.int IntKind.i64 h', SV.int IntKind.i64 mi', SV.int IntKind.i64 s'] (25 : TypeId))]
             (SV.bool (false == decide (c < (0 : Int))))
 | false =>
  (Ent.mk (Loc.blk 0) (SObj.pred fun (W : World) (c : Ch) ↦ c = [] ∧ Lib.TabIs Tryd.prog W "internal/strconv.uint64pow10" IntKind.u64 Lib.pow10Tab) =
   Ent.mk (Loc.blk 0) (SObj.pred fun (W : World) (c : Ch) ↦ c = [] ∧ Lib.TabIs Tryd.prog W "internal/strconv.uint64pow10" IntKind.u64 Lib.pow10Tab) ∧
   Ent.mk (Loc.blk b0) (SObj.cells [SV.int IntKind.i64 y, SV.int IntKind.i64 m, SV.int IntKind.i64 d, SV.int IntKind.i64 h, SV.int IntKind.i64 mi, SV.int IntKind.i64 s] (25 : TypeId)) =
    Ent.mk (Loc.blk b0) (SObj.cells [SV.int IntKind.i64 y, SV.int IntKind.i64 m, SV.int IntKind.i64 d, SV.int IntKind.i64 h, SV.int IntKind.i64 mi, SV.int IntKind.i64 s] (25 : TypeId)) ∧
    Ent.mk (Loc.blk b1) (SObj.cells [SV.int IntKind.i64 y', SV.int IntKind.i64 m', SV.int IntKind.i64 d', SV.int IntKind.i64 h', SV.int IntKind.i64 mi', SV.int IntKind.i64 s'] (25 : TypeId)) =
     Ent.mk (Loc.blk b1)
      (SObj.cells [SV.int IntKind.i64 y', SV.int IntKind.i64 m', SV.int IntKind.i64 d', SV.int IntKind.i64 h', SV.int IntKind.i64 mi', SV.int IntKind.i64 s'] (25 : TypeId)) ∧
     True) ∧
   (Ent.mk (Loc.blk 0) (SObj.pred fun (W : World) (c : Ch) ↦ c = [] ∧ Lib.TabIs Tryd.prog W "internal/strconv.uint64pow10" IntKind.u64 Lib.pow10Tab) =
    Ent.mk (Loc.blk 0) (SObj.pred fun (W : World) (c : Ch) ↦ c = [] ∧ Lib.TabIs Tryd.prog W "internal/strconv.uint64pow10" IntKind.u64 Lib.pow10Tab) ∧
    Ent.mk (Loc.blk b0) (SObj.cells [SV.int IntKind.i64 y, SV.int IntKind.i64 m, SV.int IntKind.i64 d, SV.int IntKind.i64 h, SV.int IntKind.i64 mi, SV.int IntKind.i64 s] (25 : TypeId)) =
     Ent.mk (Loc.blk b0) (SObj.cells [SV.int IntKind.i64 y, SV.int IntKind.i64 m, SV.int IntKind.i64 d, SV.int IntKind.i64 h, SV.int IntKind.i64 mi, SV.int IntKind.i64 s] (25 : TypeId)) ∧
     Ent.mk (Loc.blk b1) (SObj.cells [SV.int IntKind.i64 y', SV.int IntKind.i64 m', SV.int IntKind.i64 d', SV.int IntKind.i64 h', SV.int IntKind.i64 mi', SV.int IntKind.i64 s'] (25 : TypeId)) =
      Ent.mk (Loc.blk b1)
       (SObj.cells [SV.int IntKind.i64 y', SV.int IntKind.i64 m', SV.int IntKind.i64 d', SV.int IntKind.i64 h', SV.int IntKind.i64 mi', SV.int IntKind.i64 s'] (25 : TypeId)) ∧
      True) ∧
    N
     [Ent.mk (Loc.blk 0) (SObj.pred fun (W : World) (c : Ch) ↦ c = [] ∧ Lib.TabIs Tryd.prog W "internal/strconv.uint64pow10" IntKind.u64 Lib.pow10Tab),
      Ent.mk (Loc.blk b0) (SObj.cells [SV.int IntKind.i64 y, SV.int IntKind.i64 m, SV.int IntKind.i64 d, SV.int IntKind.i64 h, SV.int IntKind.i64 mi, SV.int IntKind.i64 s] (25 : TypeId)),
      Ent.mk (Loc.blk b1) (SObj.cells [SV.int IntKind.i64 y', SV.int IntKind.i64 m', SV.int IntKind.i64 d', SV.int IntKind.i64 h', SV.int IntKind.i64 mi', SV.int IntKind.i64 s'] (25 : TypeId))]
     (SV.bool false)
| false =>
 (Ent.mk (Loc.blk 0) (SObj.pred fun (W : World) (c : Ch) ↦ c = [] ∧ Lib.TabIs Tryd.prog W "internal/strconv.uint64pow10" IntKind.u64 Lib.pow10Tab) =
  Ent.mk (Loc.blk 0) (SObj.pred fun (W : World) (c : Ch) ↦ c = [] ∧ Lib.TabIs Tryd.prog W "internal/strconv.uint64pow10" IntKind.u64 Lib.pow10Tab) ∧
  Ent.mk (Loc.blk b0) (SObj.cells [SV.int IntKind.i64 y, SV.int IntKind.i64 m, SV.int IntKind.i64 d, SV.int IntKind.i64 h, SV.int IntKind.i64 mi, SV.int IntKind.i64 s] (25 : TypeId)) =
   Ent.mk (Loc.blk b0) (SObj.cells [SV.int IntKind.i64 y, SV.int IntKind.i64 m, SV.int IntKind.i64 d, SV.int IntKind.i64 h, SV.int IntKind.i64 mi, SV.int IntKind.i64 s] (25 : TypeId)) ∧
   Ent.mk (Loc.blk b1) (SObj.cells [SV.int IntKind.i64 y', SV.int IntKind.i64 m', SV.int IntKind.i64 d', SV.int IntKind.i64 h', SV.int IntKind.i64 mi', SV.int IntKind.i64 s'] (25 : TypeId)) =
    Ent.mk (Loc.blk b1) (SObj.cells [SV.int IntKind.i64 y', SV.int IntKind.i64 m', SV.int IntKind.i64 d', SV.int IntKind.i64 h', SV.int IntKind.i64 mi', SV.int IntKind.i64 s'] (25 : TypeId)) ∧
    True) ∧
  (Ent.mk (Loc.blk 0) (SObj.pred fun (W : World) (c : Ch) ↦ c = [] ∧ Lib.TabIs Tryd.prog W "internal/strconv.uint64pow10" IntKind.u64 Lib.pow10Tab) =
   Ent.mk (Loc.blk 0) (SObj.pred fun (W : World) (c : Ch) ↦ c = [] ∧ Lib.TabIs Tryd.prog W "internal/strconv.uint64pow10" IntKind.u64 Lib.pow10Tab) ∧
   Ent.mk (Loc.blk b0) (SObj.cells [SV.int IntKind.i64 y, SV.int IntKind.i64 m, SV.int IntKind.i64 d, SV.int IntKind.i64 h, SV.int IntKind.i64 mi, SV.int IntKind.i64 s] (25 : TypeId)) =
    Ent.mk (Loc.blk b0) (SObj.cells [SV.int IntKind.i64 y, SV.int IntKind.i64 m, SV.int IntKind.i64 d, SV.int IntKind.i64 h, SV.int IntKind.i64 mi, SV.int IntKind.i64 s] (25 : TypeId)) ∧
    Ent.mk (Loc.blk b1) (SObj.cells [SV.int IntKind.i64 y', SV.int IntKind.i64 m', SV.int IntKind.i64 d', SV.int IntKind.i64 h', SV.int IntKind.i64 mi', SV.int IntKind.i64 s'] (25 : TypeId)) =
     Ent.mk (Loc.blk b1)
      (SObj.cells [SV.int IntKind.i64 y', SV.int IntKind.i64 m', SV.int IntKind.i64 d', SV.int IntKind.i64 h', SV.int IntKind.i64 mi', SV.int IntKind.i64 s'] (25 : TypeId)) ∧
     True) ∧
   N
    [Ent.mk (Loc.blk 0) (SObj.pred fun (W : World) (c : Ch) ↦ c = [] ∧ Lib.TabIs Tryd.prog W "internal/strconv.uint64pow10" IntKind.u64 Lib.pow10Tab),
     Ent.mk (Loc.blk b0) (SObj.cells [SV.int IntKind.i64 y, SV.int IntKind.i64 m, SV.int IntKind.i64 d, SV.int IntKind.i64 h, SV.int IntKind.i64 mi, SV.int IntKind.i64 s] (25 : TypeId)),
     Ent.mk (Loc.blk b1) (SObj.cells [SV.int IntKind.i64 y', SV.int IntKind.i64 m', SV.int IntKind.i64 d', SV.int IntKind.i64 h', SV.int IntKind.i64 mi', SV.int IntKind.i64 s'] (25 : TypeId))]
    (SV.bool false)) := by kernel_rfl
end Go.Proofs.YtjnkfgigpapeaaaDoor

namespace Go.Proofs.YtjnkfgigpapeaaaDoor
open Go Go.RowKit

theorem leap_run (K : List Frm → Sy → Prop) (N : List Ent → SV → Prop) (y : Int) : (run Tryd.prog [] false [] K (retP Tryd.prog Tryd.f51.results.toList N) 400 [.code (bodyOf Tryd.f51)] ⟨padTo 16 [.int .i64 y], []⟩) = (
(4 : Int) ≠ (0 : Int) ∧
 match Int.tmod y (4 : Int) == (0 : Int) with
 | true =>
  (100 : Int) ≠ (0 : Int) ∧
   match Int.tmod y (100 : Int) != (0 : Int) with
   | true => N [] (SV.bool true)
   | false => (400 : Int) ≠ (0 : Int) ∧ N [] (SV.bool (Int.tmod y (400 : Int) == (0 : Int)))
 | false => true = true ∧ true = true ∧ true = true ∧ N [] (SV.bool false)) := by kernel_rfl


theorem leaps_run (K : List Frm → Sy → Prop) (N : List Ent → SV → Prop) (y : Int) : (run Tryd.prog [] false [] K (retP Tryd.prog Tryd.f50.results.toList N) 400 [.code (bodyOf Tryd.f50)] ⟨padTo 11 [.int .i64 y], []⟩) = (
(4 : Int) ≠ (0 : Int) ∧
 (100 : Int) ≠ (0 : Int) ∧
  (400 : Int) ≠ (0 : Int) ∧
   N []
    (SV.int IntKind.i64
     (IntKind.wrap IntKind.i64
      (IntKind.wrap IntKind.i64 (IntKind.wrap IntKind.i64 (Int.tdiv y (4 : Int)) - IntKind.wrap IntKind.i64 (Int.tdiv y (100 : Int))) + IntKind.wrap IntKind.i64 (Int.tdiv y (400 : Int)))))) := by kernel_rfl


theorem begins_run (K : List Frm → Sy → Prop) (N : List Ent → SV → Prop) (y : Int) : (run Tryd.prog civ1 false [] K (retP Tryd.prog Tryd.f36.results.toList N) 400 [.code (bodyOf Tryd.f36)] ⟨padTo 12 [.int .i64 y], []⟩) = (
true = true ∧
 ((0 : Int) ≤ IntKind.wrap IntKind.i64 (y - (1 : Int)) ∧ IntKind.wrap IntKind.i64 (y - (1 : Int)) ≤ (1000000 : Int)) ∧
  true = true ∧
   ((0 : Int) ≤ (1969 : Int) ∧ (1969 : Int) ≤ (1000000 : Int)) ∧
    N []
     (SV.int IntKind.i64
      (IntKind.wrap IntKind.i64
       (IntKind.wrap IntKind.i64 (IntKind.wrap IntKind.i64 ((365 : Int) * IntKind.wrap IntKind.i64 (y - (1970 : Int))) + leapsI (IntKind.wrap IntKind.i64 (y - (1 : Int)))) - (477 : Int))))) := by kernel_rfl


theorem length_run (K : List Frm → Sy → Prop) (N : List Ent → SV → Prop) (y m : Int) : (run Tryd.prog civ1 false [] K (retP Tryd.prog Tryd.f37.results.toList N) 400 [.code (bodyOf Tryd.f37)] ⟨padTo 29 [.int .i64 y, .int .i64 m], []⟩) = (
match decide (y < (1970 : Int)) with
| true => N [] (SV.int IntKind.i64 (0 : Int))
| false =>
 match decide (y > (2200 : Int)) with
 | true => N [] (SV.int IntKind.i64 (0 : Int))
 | false =>
  match decide (m < (1 : Int)) with
  | true => N [] (SV.int IntKind.i64 (0 : Int))
  | false =>
   match decide (m > (12 : Int)) with
   | true => N [] (SV.int IntKind.i64 (0 : Int))
   | false =>
    match m == (2 : Int) with
    | true =>
     true = true ∧
      (0 : Int) ≤ y ∧
       match leapB y with
       | true => N [] (SV.int IntKind.i64 (29 : Int))
       | false => N [] (SV.int IntKind.i64 (28 : Int))
    | false =>
     match m == (4 : Int) with
     | true => N [] (SV.int IntKind.i64 (30 : Int))
     | false =>
      match m == (6 : Int) with
      | true => N [] (SV.int IntKind.i64 (30 : Int))
      | false =>
       match m == (9 : Int) with
       | true => N [] (SV.int IntKind.i64 (30 : Int))
       | false =>
        match m == (11 : Int) with
        | true => N [] (SV.int IntKind.i64 (30 : Int))
        | false => N [] (SV.int IntKind.i64 (31 : Int))) := by kernel_rfl


theorem in_run (K : List Frm → Sy → Prop) (N : List Ent → SV → Prop) (n b : Int) : (run Tryd.prog [] false [] K (retP Tryd.prog Tryd.f33.results.toList N) 400 [.code (bodyOf Tryd.f33)] ⟨padTo 12 [.int .i64 n, .int .i64 b], []⟩) = (
match decide (n ≥ (0 : Int)) with
| true => N [] (SV.bool (decide (n < b)))
| false => N [] (SV.bool false)) := by kernel_rfl


theorem weekday_run (K : List Frm → Sy → Prop) (N : List Ent → SV → Prop) (n : Int) : (run Tryd.prog [] false [] K (retP Tryd.prog Tryd.f15.results.toList N) 400 [.code (bodyOf Tryd.f15)] ⟨padTo 9 [.int .i64 n], []⟩) = (
(7 : Int) ≠ (0 : Int) ∧
 (7 : Int) ≠ (0 : Int) ∧
  (7 : Int) ≠ (0 : Int) ∧ N [] (SV.int IntKind.i64 (Int.tmod (IntKind.wrap IntKind.i64 (Int.tmod (IntKind.wrap IntKind.i64 (Int.tmod n (7 : Int) + (7 : Int))) (7 : Int) + (3 : Int))) (7 : Int)))) := by kernel_rfl


theorem is_run (K : List Frm → Sy → Prop) (N : List Ent → SV → Prop) (y m d : Int) : (run Tryd.prog civ2 true [] K (retP Tryd.prog Tryd.f13.results.toList N) 400 [.code (bodyOf Tryd.f13)] ⟨padTo 16 [.agg [.int .i64 y, .int .i64 m, .int .i64 d]], []⟩) = (
true = true ∧
 ∀ (b : Nat),
  b = b ∧
   match decide (d ≥ (1 : Int)) with
   | true =>
    b = b ∧
     b = b ∧
      b = b ∧
       true = true ∧
        (Ent.mk (Loc.blk b) (SObj.cells [SV.int IntKind.i64 y, SV.int IntKind.i64 m, SV.int IntKind.i64 d] 23) =
         Ent.mk (Loc.blk b) (SObj.cells [SV.int IntKind.i64 y, SV.int IntKind.i64 m, SV.int IntKind.i64 d] 23) ∧
         True) ∧
         N [Ent.mk (Loc.blk b) (SObj.cells [SV.int IntKind.i64 y, SV.int IntKind.i64 m, SV.int IntKind.i64 d] 23)] (SV.bool (decide (d ≤ lenI y m)))
   | false =>
    (Ent.mk (Loc.blk b) (SObj.cells [SV.int IntKind.i64 y, SV.int IntKind.i64 m, SV.int IntKind.i64 d] 23) =
     Ent.mk (Loc.blk b) (SObj.cells [SV.int IntKind.i64 y, SV.int IntKind.i64 m, SV.int IntKind.i64 d] 23) ∧
     True) ∧
     N [Ent.mk (Loc.blk b) (SObj.cells [SV.int IntKind.i64 y, SV.int IntKind.i64 m, SV.int IntKind.i64 d] 23)] (SV.bool false)) := by kernel_rfl


theorem days_run (K : List Frm → Sy → Prop) (N : List Ent → SV → Prop) (y m d : Int) : (run Tryd.prog civ3 true [] K (retP Tryd.prog Tryd.f11.results.toList N) 400 [.code (bodyOf Tryd.f11)] ⟨padTo 29 [.agg [.int .i64 y, .int .i64 m, .int .i64 d]], []⟩) = (
true = true ∧
 ∀ (b : Nat),
  (b = b ∧ 3 = 3) ∧
   true = true ∧
    match !isB y m d with
    | true =>
     N [Ent.mk (Loc.blk b) (SObj.cells [SV.int IntKind.i64 y, SV.int IntKind.i64 m, SV.int IntKind.i64 d] 23)] (SV.tuple [SV.int IntKind.i64 (0 : Int), SV.int IntKind.i64 (20 : Int)])
    | false =>
     b = b ∧
      b = b ∧
       true = true ∧
        ((1 : Int) ≤ y ∧ y ≤ (1000000 : Int)) ∧
         (Ent.mk (Loc.blk b) (SObj.cells [SV.int IntKind.i64 y, SV.int IntKind.i64 m, SV.int IntKind.i64 d] 23) =
          Ent.mk (Loc.blk b) (SObj.cells [SV.int IntKind.i64 y, SV.int IntKind.i64 m, SV.int IntKind.i64 d] 23) ∧
          True) ∧
          K (frm [] (bodyOf Tryd.f11) [1, 1, 1, 0, 1, 0] [])
           (Sy.mk (SV.agg [SV.int IntKind.i64 y, SV.int IntKind.i64 m, SV.int IntKind.i64 d] :: (SV.ptr 0 b 0 :: (SV.int IntKind.i64 (0 : Int) :: (SV.int IntKind.i64 (0 : Int) :: (SV.int IntKind.i64 (IntKind.wrap IntKind.i64 (IntKind.wrap IntKind.i64 (beginsI y + d) - (1 : Int))) :: (SV.int IntKind.i64 (1 : Int) :: (SV.agg [SV.int IntKind.i64 y, SV.int IntKind.i64 m, SV.int IntKind.i64 d] :: (SV.bool (isB y m d) :: (SV.bool false :: (SV.ptr 0 b 0 :: (SV.int IntKind.i64 y :: (SV.int IntKind.i64 (beginsI y) :: (SV.ptr 0 b 2 :: (SV.int IntKind.i64 d :: (SV.int IntKind.i64 (IntKind.wrap IntKind.i64 (beginsI y + d)) :: (SV.int IntKind.i64 (IntKind.wrap IntKind.i64 (IntKind.wrap IntKind.i64 (beginsI y + d) - (1 : Int))) :: (rawE [] 13)))))))))))))))))
            [Ent.mk (Loc.blk b) (SObj.cells [SV.int IntKind.i64 y, SV.int IntKind.i64 m, SV.int IntKind.i64 d] 23)])) := by kernel_rfl


theorem date_run (K : List Frm → Sy → Prop) (N : List Ent → SV → Prop) (n : Int) : (run Tryd.prog civ3 true [] K (retP Tryd.prog Tryd.f18.results.toList N) 400 [.code (bodyOf Tryd.f18)] ⟨padTo 54 [.int .i64 n], []⟩) = (
∀ (b : Nat),
 match decide (n < (0 : Int)) with
 | true =>
  (true = true ∧ true = true) ∧
   (b = b ∧ true = true ∧ 3 = 3 ∧ 3 ≤ 3) ∧
    (b = b ∧ 3 = 3) ∧
     N [Ent.mk (Loc.blk b) (SObj.cells [SV.int IntKind.i64 (0 : Int), SV.int IntKind.i64 (0 : Int), SV.int IntKind.i64 (0 : Int)] 23)]
      (SV.tuple [SV.agg [SV.int IntKind.i64 (0 : Int), SV.int IntKind.i64 (0 : Int), SV.int IntKind.i64 (0 : Int)], SV.int IntKind.i64 (20 : Int)])
 | false =>
  true = true ∧
   ((1 : Int) ≤ (2201 : Int) ∧ (2201 : Int) ≤ (1000000 : Int)) ∧
    match decide (n ≥ (84371 : Int)) with
    | true =>
     (true = true ∧ true = true) ∧
      (b = b ∧ true = true ∧ 3 = 3 ∧ 3 ≤ 3) ∧
       (b = b ∧ 3 = 3) ∧
        N [Ent.mk (Loc.blk b) (SObj.cells [SV.int IntKind.i64 (0 : Int), SV.int IntKind.i64 (0 : Int), SV.int IntKind.i64 (0 : Int)] 23)]
         (SV.tuple [SV.agg [SV.int IntKind.i64 (0 : Int), SV.int IntKind.i64 (0 : Int), SV.int IntKind.i64 (0 : Int)], SV.int IntKind.i64 (20 : Int)])
    | false =>
     (366 : Int) ≠ (0 : Int) ∧
      (true = true ∧ true = true) ∧
       ∀ (b_1 : Nat),
        (b_1 = b_1 ∧ true = true ∧ 3 = 3 ∧ 3 ≤ 3) ∧
         K (frm [] (bodyOf Tryd.f18) [1, 1, 1, 0, 0] [])
          (Sy.mk (SV.int IntKind.i64 n :: (SV.raw (Value.tuple #[]) :: (SV.ptr 0 b 0 :: (SV.int IntKind.i64 (0 : Int) :: (SV.ptr 1 b_1 0 :: (SV.int IntKind.i64 n :: (SV.bool (decide (n < (0 : Int))) :: (SV.bool false :: (SV.int IntKind.i64 n :: (SV.int IntKind.i64 (84371 : Int) :: (SV.bool (decide (n ≥ (84371 : Int))) :: (SV.bool false :: (SV.raw (Value.tuple #[]) :: (SV.int IntKind.i64 n :: (SV.int IntKind.i64 (IntKind.wrap IntKind.i64 (Int.tdiv n (366 : Int))) :: (SV.int IntKind.i64 (IntKind.wrap IntKind.i64 ((1970 : Int) + IntKind.wrap IntKind.i64 (Int.tdiv n (366 : Int)))) :: (SV.agg [SV.int IntKind.i64 (IntKind.wrap IntKind.i64 ((1970 : Int) + IntKind.wrap IntKind.i64 (Int.tdiv n (366 : Int)))), SV.int IntKind.i64 (1 : Int), SV.int IntKind.i64 (0 : Int)] :: (rawE [] 37))))))))))))))))))
           [Ent.mk (Loc.blk b) (SObj.cells [SV.int IntKind.i64 (0 : Int), SV.int IntKind.i64 (0 : Int), SV.int IntKind.i64 (0 : Int)] 23),
            Ent.mk (Loc.blk b_1)
             (SObj.cells
              [SV.int IntKind.i64 (IntKind.wrap IntKind.i64 ((1970 : Int) + IntKind.wrap IntKind.i64 (Int.tdiv n (366 : Int)))), SV.int IntKind.i64 (1 : Int),
               SV.int IntKind.i64 (0 : Int)]
              23)])) := by kernel_rfl


theorem days_loop (K : List Frm → Sy → Prop) (N : List Ent → SV → Prop) (J : Act → World → Prop) (u : Nat → Value) (b : Nat) (y m d n i : Int) : (run Tryd.prog civ3 true [] K (retP Tryd.prog Tryd.f11.results.toList N) 400 (frm [J] (bodyOf Tryd.f11) [1, 1, 1, 0, 1, 0, 0] []) ⟨mkT u 29 0 [(1, .ptr 0 b 0), (2, .int .i64 0), (3, .int .i64 0), (4, .int .i64 n), (5, .int .i64 i)], [⟨.blk b, .cells [.int .i64 y, .int .i64 m, .int .i64 d] 23⟩]⟩) = (
b = b ∧
 match decide (i < m) with
 | true =>
  b = b ∧
   true = true ∧
    K (Frm.loop J :: Frm.blk 0 :: frm [] (bodyOf Tryd.f11) [1, 1, 1, 1] [])
     (Sy.mk (SV.raw (u 0) :: (SV.ptr 0 b 0 :: (SV.int IntKind.i64 (0 : Int) :: (SV.int IntKind.i64 (0 : Int) :: (SV.int IntKind.i64 (IntKind.wrap IntKind.i64 (n + lenI y i)) :: (SV.int IntKind.i64 (IntKind.wrap IntKind.i64 (i + (1 : Int))) :: (rawR u 6 (SV.int IntKind.i64 i :: (SV.ptr 0 b 1 :: (SV.int IntKind.i64 m :: (SV.bool true :: (SV.int IntKind.i64 i :: (SV.int IntKind.i64 (IntKind.wrap IntKind.i64 (i + (1 : Int))) :: (SV.int IntKind.i64 n :: (SV.ptr 0 b 0 :: (SV.int IntKind.i64 y :: (SV.int IntKind.i64 i :: (SV.int IntKind.i64 (lenI y i) :: (SV.int IntKind.i64 (IntKind.wrap IntKind.i64 (n + lenI y i)) :: (SV.raw (u 28) :: []))))))))))))) 10)))))))
      [Ent.mk (Loc.blk b) (SObj.cells [SV.int IntKind.i64 y, SV.int IntKind.i64 m, SV.int IntKind.i64 d] (23 : TypeId))])
 | false => N [Ent.mk (Loc.blk b) (SObj.cells [SV.int IntKind.i64 y, SV.int IntKind.i64 m, SV.int IntKind.i64 d] (23 : TypeId))] (SV.tuple [SV.int IntKind.i64 n, SV.int IntKind.i64 (0 : Int)])) := by kernel_rfl


theorem date_loop1 (K : List Frm → Sy → Prop) (N : List Ent → SV → Prop) (J : Act → World → Prop) (u : Nat → Value) (a b : Nat) (n y m : Int) : (run Tryd.prog civ3 true [] K (retP Tryd.prog Tryd.f18.results.toList N) 400 (frm [J] (bodyOf Tryd.f18) [1, 1, 1, 0, 0, 0] []) ⟨mkT u 54 0 [(0, .int .i64 n), (2, .ptr 0 a 0), (3, .int .i64 0), (4, .ptr 1 b 0)], [⟨.blk a, .cells [.int .i64 0, .int .i64 0, .int .i64 0] 23⟩, ⟨.blk b, .cells [.int .i64 y, .int .i64 m, .int .i64 0] 23⟩]⟩) = (
b = b ∧
 true = true ∧
  ((1 : Int) ≤ IntKind.wrap IntKind.i64 (y + (1 : Int)) ∧ IntKind.wrap IntKind.i64 (y + (1 : Int)) ≤ (1000000 : Int)) ∧
   match decide (n ≥ beginsI (IntKind.wrap IntKind.i64 (y + (1 : Int)))) with
   | true =>
    b = b ∧
     (b = b ∧ true = true ∧ 1 = 1 ∧ 1 ≤ 3) ∧
      K (Frm.loop J :: Frm.blk 0 :: frm [] (bodyOf Tryd.f18) [1, 1, 1, 1] [])
       (Sy.mk (SV.int IntKind.i64 n :: (SV.raw (u 1) :: (SV.ptr 0 a 0 :: (SV.int IntKind.i64 (0 : Int) :: (SV.ptr 1 b 0 :: (rawR u 5 (SV.int IntKind.i64 n :: (SV.ptr 1 b 0 :: (SV.int IntKind.i64 y :: (SV.int IntKind.i64 (IntKind.wrap IntKind.i64 (y + (1 : Int))) :: (SV.int IntKind.i64 (beginsI (IntKind.wrap IntKind.i64 (y + (1 : Int)))) :: (SV.bool true :: (SV.ptr 1 b 0 :: (SV.int IntKind.i64 y :: (SV.int IntKind.i64 (IntKind.wrap IntKind.i64 (y + (1 : Int))) :: (SV.ptr 1 b 0 :: (rawR u 27 [] 27))))))))))) 12))))))
        [Ent.mk (Loc.blk a) (SObj.cells [SV.int IntKind.i64 (0 : Int), SV.int IntKind.i64 (0 : Int), SV.int IntKind.i64 (0 : Int)] (23 : TypeId)),
         Ent.mk (Loc.blk b) (SObj.cells [SV.int IntKind.i64 (IntKind.wrap IntKind.i64 (y + (1 : Int))), SV.int IntKind.i64 m, SV.int IntKind.i64 (0 : Int)] (23 : TypeId))])
   | false =>
    b = b ∧
     true = true ∧
      ((1 : Int) ≤ y ∧ y ≤ (1000000 : Int)) ∧
       K (frm [] (bodyOf Tryd.f18) [1, 1, 1, 1, 1, 0, 0] [])
        (Sy.mk (SV.int IntKind.i64 (IntKind.wrap IntKind.i64 (n - beginsI y)) :: (SV.raw (u 1) :: (SV.ptr 0 a 0 :: (SV.int IntKind.i64 (0 : Int) :: (SV.ptr 1 b 0 :: (rawR u 5 (SV.int IntKind.i64 n :: (SV.ptr 1 b 0 :: (SV.int IntKind.i64 y :: (SV.int IntKind.i64 (IntKind.wrap IntKind.i64 (y + (1 : Int))) :: (SV.int IntKind.i64 (beginsI (IntKind.wrap IntKind.i64 (y + (1 : Int)))) :: (SV.bool false :: (rawR u 23 (SV.int IntKind.i64 n :: (SV.ptr 1 b 0 :: (SV.int IntKind.i64 y :: (SV.int IntKind.i64 (beginsI y) :: (SV.int IntKind.i64 (IntKind.wrap IntKind.i64 (n - beginsI y)) :: (rawR u 32 [] 22)))))) 4))))))) 12))))))
         [Ent.mk (Loc.blk a) (SObj.cells [SV.int IntKind.i64 (0 : Int), SV.int IntKind.i64 (0 : Int), SV.int IntKind.i64 (0 : Int)] (23 : TypeId)),
          Ent.mk (Loc.blk b) (SObj.cells [SV.int IntKind.i64 y, SV.int IntKind.i64 m, SV.int IntKind.i64 (0 : Int)] (23 : TypeId))])) := by kernel_rfl


theorem date_loop2 (K : List Frm → Sy → Prop) (N : List Ent → SV → Prop) (J : Act → World → Prop) (u : Nat → Value) (a b : Nat) (n y m : Int) : (run Tryd.prog civ3 true [] K (retP Tryd.prog Tryd.f18.results.toList N) 400 (frm [J] (bodyOf Tryd.f18) [1, 1, 1, 1, 1, 0, 0, 0] []) ⟨mkT u 54 0 [(0, .int .i64 n), (2, .ptr 0 a 0), (3, .int .i64 0), (4, .ptr 1 b 0)], [⟨.blk a, .cells [.int .i64 0, .int .i64 0, .int .i64 0] 23⟩, ⟨.blk b, .cells [.int .i64 y, .int .i64 m, .int .i64 0] 23⟩]⟩) = (
b = b ∧
 b = b ∧
  true = true ∧
   match decide (n ≥ lenI y m) with
   | true =>
    b = b ∧
     b = b ∧
      true = true ∧
       b = b ∧
        (b = b ∧ true = true ∧ 1 = 1 ∧ 2 ≤ 3) ∧
         K (Frm.loop J :: Frm.blk 2 :: frm [] (bodyOf Tryd.f18) [1, 1, 1, 1, 1, 1] [])
          (Sy.mk (SV.int IntKind.i64 (IntKind.wrap IntKind.i64 (n - lenI y m)) :: (SV.raw (u 1) :: (SV.ptr 0 a 0 :: (SV.int IntKind.i64 (0 : Int) :: (SV.ptr 1 b 0 :: (rawR u 5 (SV.int IntKind.i64 n :: (SV.ptr 1 b 0 :: (SV.int IntKind.i64 y :: (SV.ptr 1 b 1 :: (SV.int IntKind.i64 m :: (SV.int IntKind.i64 (lenI y m) :: (SV.bool true :: (SV.int IntKind.i64 n :: (SV.ptr 1 b 0 :: (SV.int IntKind.i64 y :: (SV.ptr 1 b 1 :: (SV.int IntKind.i64 m :: (SV.int IntKind.i64 (lenI y m) :: (SV.int IntKind.i64 (IntKind.wrap IntKind.i64 (n - lenI y m)) :: (SV.ptr 1 b 1 :: (SV.int IntKind.i64 m :: (SV.int IntKind.i64 (IntKind.wrap IntKind.i64 (m + (1 : Int))) :: (SV.ptr 1 b 1 :: (rawR u 50 [] 4))))))))))))))))))) 27))))))
           [Ent.mk (Loc.blk a) (SObj.cells [SV.int IntKind.i64 (0 : Int), SV.int IntKind.i64 (0 : Int), SV.int IntKind.i64 (0 : Int)] (23 : TypeId)),
            Ent.mk (Loc.blk b) (SObj.cells [SV.int IntKind.i64 y, SV.int IntKind.i64 (IntKind.wrap IntKind.i64 (m + (1 : Int))), SV.int IntKind.i64 (0 : Int)] (23 : TypeId))])
   | false =>
    (b = b ∧ true = true ∧ 1 = 1 ∧ 3 ≤ 3) ∧
     (b = b ∧ 3 = 3) ∧
      (a = a ∧ true = true ∧ 3 = 3 ∧ 3 ≤ 3) ∧
       (a = a ∧ 3 = 3) ∧
        N
         [Ent.mk (Loc.blk a) (SObj.cells [SV.int IntKind.i64 y, SV.int IntKind.i64 m, SV.int IntKind.i64 (IntKind.wrap IntKind.i64 (n + (1 : Int)))] (23 : TypeId)),
          Ent.mk (Loc.blk b) (SObj.cells [SV.int IntKind.i64 y, SV.int IntKind.i64 m, SV.int IntKind.i64 (IntKind.wrap IntKind.i64 (n + (1 : Int)))] (23 : TypeId))]
         (SV.tuple [SV.agg [SV.int IntKind.i64 y, SV.int IntKind.i64 m, SV.int IntKind.i64 (IntKind.wrap IntKind.i64 (n + (1 : Int)))], SV.int IntKind.i64 (0 : Int)])) := by kernel_rfl
end Go.Proofs.YtjnkfgigpapeaaaDoor

/- civil: the contracts hold. -/
namespace Go.Proofs.YtjnkfgigpapeaaaDoor
open Go Go.RowKit

theorem hm : Tryd.prog.follows .mixedOrders = true := by kernel_rfl

theorem leap_ok : CtrOk Tryd.prog 51 leapC := by
  intro args hs N h
  unfold leapC at h
  split at h
  · rename_i y
    refine Spec.pure (Cs := []) (kc := false) (ss := []) 400 16 trivial hm Tryd.func51 (by kernel_rfl) (by kernel_rfl) rfl h.2 fun K => ?_
    rw [leap_run]
    have h0 := h.1
    unfold leapB
    refine ⟨by decide, ?_⟩
    rw [Int.tmod_eq_emod_of_nonneg h0, Int.tmod_eq_emod_of_nonneg h0, Int.tmod_eq_emod_of_nonneg h0]
    cases y % 4 == 0 <;> cases y % 100 != 0 <;> simp
  · exact h.elim

theorem leaps_ok : CtrOk Tryd.prog 50 leapsC := by
  intro args hs N h
  unfold leapsC at h
  split at h
  · rename_i y
    refine Spec.pure (Cs := []) (kc := false) (ss := []) 400 11 trivial hm Tryd.func50 (by kernel_rfl) (by kernel_rfl) rfl h.2 fun K => ?_
    rw [leaps_run]
    obtain ⟨⟨h0, h1⟩, -⟩ := h
    refine ⟨by decide, by decide, by decide, ?_⟩
    unfold leapsI
    rw [Int.tdiv_eq_ediv_of_nonneg h0, Int.tdiv_eq_ediv_of_nonneg h0, Int.tdiv_eq_ediv_of_nonneg h0]
    simp (disch := omega) only [IntWalk.i64_in]
  · exact h.elim

theorem civ1_ok : AllOk Tryd.prog civ1 := ⟨leap_ok, leaps_ok, trivial⟩

theorem begins_ok : CtrOk Tryd.prog 36 beginsC := by
  intro args hs N h
  unfold beginsC at h
  split at h
  · rename_i y
    refine Spec.pure (Cs := civ1) (kc := false) (ss := []) 400 12 civ1_ok hm Tryd.func36 (by kernel_rfl) (by kernel_rfl) rfl h.2 fun K => ?_
    rw [begins_run]
    obtain ⟨⟨h0, h1⟩, -⟩ := h
    have e1 : IntKind.i64.wrap (y - 1) = y - 1 := IntWalk.i64_in _ (by omega)
    rw [e1]
    refine ⟨rfl, ⟨by omega, by omega⟩, rfl, by decide, ?_⟩
    unfold beginsI leapsI
    simp (disch := omega) only [IntWalk.i64_in]
    congr 1
  · exact h.elim

theorem length_ok : CtrOk Tryd.prog 37 lengthC := by
  intro args hs N h
  unfold lengthC at h
  split at h
  · rename_i y m
    refine Spec.pure (Cs := civ1) (kc := false) (ss := []) 400 29 civ1_ok hm Tryd.func37 (by kernel_rfl) (by kernel_rfl) rfl h fun K => ?_
    rw [length_run]
    clear h
    unfold lenI
    repeat' split
    all_goals simp_all
    all_goals omega
  · exact h.elim

theorem in_ok : CtrOk Tryd.prog 33 inC := by
  intro args hs N h
  unfold inC at h
  split at h
  · rename_i n b
    refine Spec.pure (Cs := []) (kc := false) (ss := []) 400 12 trivial hm Tryd.func33 (by kernel_rfl) (by kernel_rfl) rfl h fun K => ?_
    rw [in_run]
    clear h
    unfold inB
    cases decide (n ≥ 0) <;> simp
  · exact h.elim

theorem weekday_ok : CtrOk Tryd.prog 15 weekdayC := by
  intro args hs N h
  unfold weekdayC at h
  split at h
  · rename_i n
    refine Spec.pure (Cs := []) (kc := false) (ss := []) 400 9 trivial hm Tryd.func15 (by kernel_rfl) (by kernel_rfl) rfl h.2 fun K => ?_
    rw [weekday_run]
    obtain ⟨⟨h0, h1⟩, -⟩ := h
    refine ⟨by decide, by decide, by decide, ?_⟩
    unfold weekdayI
    have e0 : n.tmod 7 = if 0 ≤ n then n % 7 else -((-n) % 7) := by
      split
      · rename_i h; exact Int.tmod_eq_emod_of_nonneg h
      · rw [← Int.tmod_eq_emod_of_nonneg (a := -n) (by omega), Int.neg_tmod, Int.neg_neg]
    have e1 : -7 < n.tmod 7 ∧ n.tmod 7 < 7 ∧ (n.tmod 7 + 7) % 7 = n % 7 := by rw [e0]; split <;> omega
    obtain ⟨a1, a2, a3⟩ := e1
    rw [IntWalk.i64_in (n.tmod 7 + 7) (by omega), Int.tmod_eq_emod_of_nonneg (a := n.tmod 7 + 7) (by omega), a3, IntWalk.i64_in _ (by omega), Int.tmod_eq_emod_of_nonneg (by omega)]
    congr 1; omega
  · exact h.elim

theorem civ2_ok : AllOk Tryd.prog civ2 := ⟨begins_ok, length_ok, in_ok, weekday_ok, civ1_ok⟩

theorem is_ok : CtrOk Tryd.prog 13 isC := by
  intro args hs N h
  unfold isC at h
  split at h
  · rename_i y m d
    refine Spec.pure (Cs := civ2) (kc := true) (ss := []) 400 16 civ2_ok hm Tryd.func13 (by kernel_rfl) (by kernel_rfl) rfl h fun K => ?_
    rw [is_run]
    clear h
    refine ⟨rfl, fun b => ⟨rfl, ?_⟩⟩
    unfold isB
    cases decide (d ≥ 1) <;> simp
  · exact h.elim

theorem civ3_ok : AllOk Tryd.prog civ3 := ⟨is_ok, civ2_ok⟩

theorem lenI_le (y m : Int) : 0 ≤ lenI y m ∧ lenI y m ≤ 31 := by unfold lenI; repeat' split <;> omega
theorem cumI_le (y : Int) : ∀ k : Nat, 0 ≤ cumI y k ∧ cumI y k ≤ 31 * k
  | 0 => by simp [cumI]
  | k + 1 => by
    have h1 := cumI_le y k
    have h2 := lenI_le y ((k : Int) + 1)
    simp only [cumI]; omega
theorem isB_iff {y m d : Int} : isB y m d = true ↔ 1 ≤ d ∧ d ≤ lenI y m := by simp [isB]
theorem lenI_pos {y m d : Int} (h1 : 1 ≤ d) (h2 : d ≤ lenI y m) : 1970 ≤ y ∧ y ≤ 2200 ∧ 1 ≤ m ∧ m ≤ 12 := by
  unfold lenI at h2; split at h2 <;> omega
theorem beginsI_le {y : Int} (h1 : 1970 ≤ y) (h2 : y ≤ 2201) : 0 ≤ beginsI y ∧ beginsI y ≤ 84371 := by unfold beginsI leapsI; omega

theorem days_ok : CtrOk Tryd.prog 11 daysC := by
  intro args hs N h
  unfold daysC at h
  split at h
  · rename_i y m d
    cases hb : isB y m d with
    | false =>
      rw [hb] at h
      refine Spec.pure (Cs := civ3) (kc := true) (ss := []) 400 29 civ3_ok hm Tryd.func11 (by kernel_rfl) (by kernel_rfl) rfl h fun K => ?_
      rw [days_run]
      simp [hb]
    | true =>
      rw [hb] at h
      refine Spec.pureG 29 Tryd.func11 (by kernel_rfl) (by kernel_rfl) rfl h fun W F => ?_
      refine G_run (Cs := civ3) (kc := true) (ss := []) civ3_ok hm 400 ?_
      rw [days_run]
      obtain ⟨d1, d2⟩ := isB_iff.1 hb
      obtain ⟨y1, y2, m1, m2⟩ := lenI_pos d1 d2
      have hb1 := beginsI_le y1 (by omega : y ≤ 2201)
      have hd3 := lenI_le y m
      refine ⟨rfl, fun b => ⟨⟨rfl, rfl⟩, rfl, ?_⟩⟩
      rw [hb]
      refine ⟨rfl, rfl, rfl, ⟨by omega, by omega⟩, ⟨rfl, trivial⟩, ?_⟩
      have e1 : IntKind.i64.wrap (beginsI y + d) = beginsI y + d := IntWalk.i64_in _ (by omega)
      have e2 : IntKind.i64.wrap (beginsI y + d - 1) = beginsI y + d - 1 := IntWalk.i64_in _ (by omega)
      rw [e1, e2]
      refine G_loopAt (ι := Nat) [] (bodyOf Tryd.f11) [1, 1, 1, 0, 1, 0] 29 (fun k => [(1, .ptr 0 b 0), (2, .int .i64 0), (3, .int .i64 0), (4, .int .i64 (beginsI y + d - 1 + cumI y k)), (5, .int .i64 (k + 1))])
        (fun _ => [⟨.blk b, .cells [.int .i64 y, .int .i64 m, .int .i64 d] 23⟩]) (fun k => (k : Int) + 1 ≤ m) (fun k => 12 - k) 0 (by kernel_rfl) (fun J => by kernel_rfl) (by simpa using m1) rfl ?_ (fun _ h => h) ?_
      · simp [liveOk, nth, den, cumI]
      · intro k hk u
        simp only [List.nil_append, List.cons_append]
        refine G_run (Cs := civ3) (kc := true) (ss := []) civ3_ok hm 400 ?_
        rw [days_loop]
        have hc := cumI_le y k
        have hl := lenI_le y ((k : Int) + 1)
        have e3 : IntKind.i64.wrap (beginsI y + d - 1 + cumI y k + lenI y ((k : Int) + 1)) = beginsI y + d - 1 + cumI y k + lenI y ((k : Int) + 1) := IntWalk.i64_in _ (by omega)
        have e4 : IntKind.i64.wrap ((k : Int) + 1 + 1) = (k : Int) + 1 + 1 := IntWalk.i64_in _ (by omega)
        rw [e3, e4]
        refine ⟨rfl, ?_⟩
        cases hlt : decide ((k : Int) + 1 < m) with
        | true =>
          refine ⟨rfl, rfl, G_back (k + 1) (by simp only [decide_eq_true_eq] at hlt; push_cast; omega) (by simp only [decide_eq_true_eq] at hlt; show 12 - (k + 1) < 12 - k; omega) rfl ?_ (fun _ h => h)⟩
          simp [liveOk, nth, den, cumI, Int.add_assoc]
        | false =>
          simp only [decide_eq_false_iff_not] at hlt
          have : (m - 1).toNat = k := by omega
          simp only [daysI, this]
  · exact h.elim

theorem leap_step {y : Int} (h : 1 ≤ y) : beginsI (y + 1) = beginsI y + (if leapB y then 366 else 365) := by
  unfold beginsI leapsI leapB
  have e : (y % 4 == 0 && (y % 100 != 0 || y % 400 == 0)) = decide (y % 4 = 0 ∧ (y % 100 ≠ 0 ∨ y % 400 = 0)) := by
    rw [Bool.eq_iff_iff]; simp
  rw [e]
  have q : y + 1 - 1 = y := by omega
  rw [q]
  have q1 : (y - 1) / 4 = y / 4 - (if y % 4 = 0 then 1 else 0) := by split <;> omega
  have q2 : (y - 1) / 100 = y / 100 - (if y % 100 = 0 then 1 else 0) := by split <;> omega
  have q3 : (y - 1) / 400 = y / 400 - (if y % 400 = 0 then 1 else 0) := by split <;> omega
  rw [q1, q2, q3]
  have r1 : y % 100 = 0 → y % 4 = 0 := fun h => by omega
  have r2 : y % 400 = 0 → y % 100 = 0 := fun h => by omega
  by_cases h4 : y % 4 = 0 <;> by_cases h100 : y % 100 = 0 <;> by_cases h400 : y % 400 = 0 <;> simp [h4, h100, h400] <;> omega

theorem cum12 {y : Int} (h1 : 1970 ≤ y) (h2 : y ≤ 2200) : cumI y 12 = (if leapB y then 366 else 365) := by
  have hn : ∀ m : Int, (y < 1970 ∨ y > 2200 ∨ m < 1 ∨ m > 12) ↔ (m < 1 ∨ m > 12) := fun m => by omega
  simp only [cumI, lenI, hn]
  cases leapB y <;> decide

theorem begins_next {y : Int} (h1 : 1970 ≤ y) (h2 : y ≤ 2200) : beginsI (y + 1) = beginsI y + cumI y 12 := by rw [cum12 h1 h2, leap_step (by omega)]

theorem cumI_mono (y : Int) (k : Nat) : ∀ n : Nat, cumI y k ≤ cumI y (k + n)
  | 0 => Int.le_refl _
  | n + 1 => by
    have h1 := cumI_mono y k n
    have h2 := lenI_le y (((k + n : Nat) : Int) + 1)
    show _ ≤ cumI y (k + n) + lenI y (((k + n : Nat) : Int) + 1)
    omega

theorem date_ok : CtrOk Tryd.prog 18 dateC := by
  intro args hs N h
  unfold dateC at h
  split at h
  · rename_i n
    cases hr : decide (0 ≤ n) && decide (n < 84371) with
    | false =>
      rw [hr] at h
      refine Spec.pure (Cs := civ3) (kc := true) (ss := []) 400 54 civ3_ok hm Tryd.func18 (by kernel_rfl) (by kernel_rfl) rfl h fun K => ?_
      rw [date_run]
      intro b
      simp only [Bool.and_eq_false_iff, decide_eq_false_iff_not] at hr
      cases h0 : decide (n < 0) with
      | true => simp
      | false =>
        simp only [decide_eq_false_iff_not] at h0
        have h1 : decide (n ≥ 84371) = true := by simp; omega
        rw [h1]; simp
    | true =>
      rw [hr] at h
      simp only [Bool.and_eq_true, decide_eq_true_eq] at hr
      obtain ⟨hr0, hr1⟩ := hr
      refine Spec.lift (Φ := fun r => ∃ y m d, dateP n y m d ∧ r = .tuple [.agg [.int .i64 y, .int .i64 m, .int .i64 d], .int .i64 0]) ?_ (by rintro _ ⟨y, m, d, hd, rfl⟩; exact h y m d hd)
      refine Spec.of_G 54 Tryd.func18 (c := bodyOf Tryd.f18) (by kernel_rfl) (by kernel_rfl) (by simp [lenN]) fun W F => ?_
      refine G_run (Cs := civ3) (kc := true) (ss := []) civ3_ok hm 400 ?_
      rw [date_run]
      intro a
      have h0 : decide (n < 0) = false := by simp; omega
      have h1 : decide (n ≥ 84371) = false := by simp; omega
      rw [h0, h1]
      refine ⟨rfl, by decide, by decide, ⟨rfl, rfl⟩, fun b => ⟨⟨rfl, rfl, rfl, by decide⟩, ?_⟩⟩
      have e1 : IntKind.i64.wrap (n.tdiv 366) = n / 366 := by rw [Int.tdiv_eq_ediv_of_nonneg hr0]; exact IntWalk.i64_in _ (by omega)
      have e2 : IntKind.i64.wrap (1970 + n / 366) = 1970 + n / 366 := IntWalk.i64_in _ (by omega)
      rw [e1, e2]
      refine G_loopAt (ι := Nat) [] (bodyOf Tryd.f18) [1, 1, 1, 0, 0] 54 (fun k => [(0, .int .i64 n), (2, .ptr 0 a 0), (3, .int .i64 0), (4, .ptr 1 b 0)])
        (fun k => [⟨.blk a, .cells [.int .i64 0, .int .i64 0, .int .i64 0] 23⟩, ⟨.blk b, .cells [.int .i64 (1970 + n / 366 + k), .int .i64 1, .int .i64 0] 23⟩])
        (fun k => beginsI (1970 + n / 366 + k) ≤ n) (fun k => 300 - k) 0 (by kernel_rfl) (fun J => by kernel_rfl) ?_ rfl ?_ ?_ ?_
      · show beginsI (1970 + n / 366 + ((0 : Nat) : Int)) ≤ n
        unfold beginsI leapsI; omega
      · simp [liveOk, nth, den]
      · intro w hw; simpa using hw
      · intro k hk u
        have hk2 : (1970 + n / 366 + k) ≤ 2200 := by
          unfold beginsI leapsI at hk; omega
        generalize hy : 1970 + n / 366 + (k : Int) = y at *
        simp only [List.nil_append, List.cons_append]
        refine G_run (Cs := civ3) (kc := true) (ss := []) civ3_ok hm 400 ?_
        rw [date_loop1]
        have e3 : IntKind.i64.wrap (y + 1) = y + 1 := IntWalk.i64_in _ (by omega)
        rw [e3]
        refine ⟨rfl, rfl, ⟨by omega, by omega⟩, ?_⟩
        cases hlt : decide (n ≥ beginsI (y + 1)) with
        | true =>
          simp only [decide_eq_true_eq] at hlt
          refine ⟨rfl, ⟨rfl, rfl, rfl, by decide⟩, G_back (k + 1) ?_ ?_ rfl ?_ ?_⟩
          · have : 1970 + n / 366 + ((k + 1 : Nat) : Int) = y + 1 := by push_cast; omega
            rw [this]; exact hlt
          · show 300 - (k + 1) < 300 - k; omega
          · simp [liveOk, nth, den]
          · intro w hw
            have : 1970 + n / 366 + ((k + 1 : Nat) : Int) = y + 1 := by push_cast; omega
            rw [this]; exact hw
        | false =>
          simp only [decide_eq_false_iff_not, Int.not_le, ge_iff_le] at hlt
          refine ⟨rfl, rfl, ⟨by omega, by omega⟩, ?_⟩
          have hb := beginsI_le (y := y) (by omega) (by omega)
          rw [begins_next (by omega) hk2] at hlt
          have e4 : IntKind.i64.wrap (n - beginsI y) = n - beginsI y := IntWalk.i64_in _ (by omega)
          rw [e4]
          refine G_loopAt (ι := Nat) [] (bodyOf Tryd.f18) [1, 1, 1, 1, 1, 0, 0] 54 (fun j => [(0, .int .i64 (n - beginsI y - cumI y j)), (2, .ptr 0 a 0), (3, .int .i64 0), (4, .ptr 1 b 0)])
            (fun j => [⟨.blk a, .cells [.int .i64 0, .int .i64 0, .int .i64 0] 23⟩, ⟨.blk b, .cells [.int .i64 y, .int .i64 (j + 1), .int .i64 0] 23⟩])
            (fun j => cumI y j ≤ n - beginsI y ∧ j ≤ 11) (fun j => 12 - j) 0 (by kernel_rfl) (fun J => by kernel_rfl) ⟨by simp only [cumI]; omega, by decide⟩ rfl ?_ ?_ ?_
          · simp [liveOk, nth, den, cumI]
          · intro w hw; simpa using hw
          · rintro j ⟨hj, hj2⟩ u
            simp only [List.nil_append, List.cons_append]
            refine G_run (Cs := civ3) (kc := true) (ss := []) civ3_ok hm 400 ?_
            rw [date_loop2]
            have hc := cumI_le y j
            have hl := lenI_le y ((j : Int) + 1)
            have e5 : IntKind.i64.wrap (n - beginsI y - cumI y j - lenI y ((j : Int) + 1)) = n - beginsI y - cumI y j - lenI y ((j : Int) + 1) := IntWalk.i64_in _ (by omega)
            have e6 : IntKind.i64.wrap ((j : Int) + 1 + 1) = (j : Int) + 1 + 1 := IntWalk.i64_in _ (by omega)
            have e7 : IntKind.i64.wrap (n - beginsI y - cumI y j + 1) = n - beginsI y - cumI y j + 1 := IntWalk.i64_in _ (by omega)
            rw [e5, e6, e7]
            refine ⟨rfl, rfl, rfl, ?_⟩
            cases hlt2 : decide (n - beginsI y - cumI y j ≥ lenI y ((j : Int) + 1)) with
            | true =>
              simp only [decide_eq_true_eq] at hlt2
              have hstep : cumI y (j + 1) = cumI y j + lenI y ((j : Int) + 1) := rfl
              have hj3 : j + 1 ≤ 11 := by
                rcases Nat.lt_or_ge j 11 with h3 | h3
                · omega
                · have : j = 11 := by omega
                  subst this
                  have : cumI y 12 = cumI y 11 + lenI y ((11 : Nat) + 1) := rfl
                  omega
              refine ⟨rfl, rfl, rfl, rfl, ⟨rfl, rfl, rfl, by decide⟩, G_back (j + 1) ⟨by rw [hstep]; omega, hj3⟩ ?_ rfl ?_ ?_⟩
              · show 12 - (j + 1) < 12 - j; omega
              · have : n - beginsI y - cumI y (j + 1) = n - beginsI y - cumI y j - lenI y ((j : Int) + 1) := by rw [hstep]; omega
                simp [liveOk, nth, den, this]
              · intro w hw; simpa using hw
            | false =>
              simp only [decide_eq_false_iff_not, Int.not_le, ge_iff_le] at hlt2
              refine ⟨⟨rfl, rfl, rfl, by decide⟩, ⟨rfl, rfl⟩, ⟨rfl, rfl, rfl, by decide⟩, ⟨rfl, rfl⟩, y, (j : Int) + 1, n - beginsI y - cumI y j + 1, ?_, rfl⟩
              refine ⟨by omega, hk2, by omega, by omega, by omega, by omega, ?_⟩
              have : ((j : Int) + 1 - 1).toNat = j := by omega
              simp only [daysI, this]; omega
  · exact h.elim

theorem civ4_ok : AllOk Tryd.prog civ4 := ⟨days_ok, date_ok, civ3_ok⟩
end Go.Proofs.YtjnkfgigpapeaaaDoor

/- Dates: digits, and what stands alone. -/
namespace Go.Proofs.YtjnkfgigpapeaaaDoor
open Go Go.RowKit
open Go.Lib
theorem ba_app (a b : List UInt8) : (⟨a.toArray⟩ : ByteArray) ++ ⟨b.toArray⟩ = ⟨(a ++ b).toArray⟩ := by
  apply ByteArray.ext
  simp [ByteArray.data_append]
theorem ba_size (a : List UInt8) : (⟨a.toArray⟩ : ByteArray).size = a.length := by simp [ByteArray.size]
theorem dec_small {u : Nat} (h : u < 10) : decDigits u = [UInt8.ofNat (48 + u)] := by rw [decDigits, dif_pos h]
theorem dec_big {u : Nat} (h : ¬ u < 10) : decDigits u = decDigits (u / 10) ++ [UInt8.ofNat (48 + u % 10)] := by rw [decDigits, dif_neg h]
theorem dec_two {u : Nat} (h : 10 ≤ u) (h2 : u < 100) : decDigits u = [UInt8.ofNat (48 + u / 10), UInt8.ofNat (48 + u % 10)] := by
  rw [dec_big (by omega), dec_small (u := u / 10) (by omega)]; rfl
theorem dec_four {u : Nat} (h : 1000 ≤ u) (h2 : u < 10000) : decDigits u = [UInt8.ofNat (48 + u / 1000), UInt8.ofNat (48 + u / 100 % 10), UInt8.ofNat (48 + u / 10 % 10), UInt8.ofNat (48 + u % 10)] := by
  rw [dec_big (by omega), dec_big (u := u / 10) (by omega), dec_two (u := u / 10 / 10) (by omega) (by omega)]
  have e1 : u / 10 / 10 / 10 = u / 1000 := by omega
  have e2 : u / 10 / 10 % 10 = u / 100 % 10 := by omega
  rw [e1, e2]; rfl
theorem dec_len {u : Nat} (h : u < 10000) : (decDigits u).length ≤ 4 := by
  by_cases h1 : u < 10
  · rw [dec_small h1]; simp
  rw [dec_big h1]
  by_cases h2 : u / 10 < 10
  · rw [dec_small h2]; simp
  rw [dec_big h2]
  by_cases h3 : u / 10 / 10 < 10
  · rw [dec_small h3]; simp
  rw [dec_big h3, dec_small (by omega)]; simp
def two8 (n : Nat) : List UInt8 := [UInt8.ofNat (48 + n / 10), UInt8.ofNat (48 + n % 10)]
def four8 (n : Nat) : List UInt8 := [UInt8.ofNat (48 + n / 1000), UInt8.ofNat (48 + n / 100 % 10), UInt8.ofNat (48 + n / 10 % 10), UInt8.ofNat (48 + n % 10)]
theorem twoB_eq {n : Int} (h0 : 0 ≤ n) (h1 : n < 100) : twoB n = ⟨(two8 n.toNat).toArray⟩ := by
  unfold twoB dgB two8
  cases hd : decide (n < 10) with
  | true =>
    simp only [decide_eq_true_eq] at hd
    have e1 : n.toNat / 10 = 0 := by omega
    have e2 : n.toNat % 10 = n.toNat := by omega
    rw [dec_small (by omega), e1, e2]
    exact ba_app [48] _
  | false =>
    simp only [decide_eq_false_iff_not] at hd
    rw [dec_two (by omega) (by omega)]
theorem padB_two {n : Int} (h0 : 0 ≤ n) (h1 : n < 100) : padB n 2 = twoB n := by
  rw [twoB_eq h0 h1]
  unfold padB two8
  by_cases hd : n < 10
  · have e1 : n.toNat / 10 = 0 := by omega
    have e2 : n.toNat % 10 = n.toNat := by omega
    rw [dec_small (by omega), e1, e2]; rfl
  · rw [dec_two (by omega) (by omega)]; rfl
theorem padB_four {n : Int} (h0 : 1000 ≤ n) (h1 : n < 10000) : padB n 4 = dgB n := by
  unfold padB dgB
  rw [dec_four (by omega) (by omega)]; rfl
theorem dgB_four {n : Int} (h0 : 1000 ≤ n) (h1 : n < 10000) : dgB n = ⟨(four8 n.toNat).toArray⟩ := by
  unfold dgB four8
  rw [dec_four (by omega) (by omega)]
theorem inB_iff' {n b : Int} : inB n b = true ↔ 0 ≤ n ∧ n < b := by simp [inB]
theorem isMomB_iff {y m d h mi s : Int} : isMomB y m d h mi s = true ↔ (1970 ≤ y ∧ y ≤ 2200 ∧ 1 ≤ m ∧ m ≤ 12 ∧ 1 ≤ d ∧ d ≤ lenI y m) ∧ (0 ≤ h ∧ h < 24) ∧ (0 ≤ mi ∧ mi < 60) ∧ (0 ≤ s ∧ s < 60) := by
  unfold isMomB
  simp only [Bool.and_eq_true, inB_iff', isB_iff]
  constructor
  · rintro ⟨⟨h1, h2⟩, h3, h4, h5⟩
    obtain ⟨a, b, c, e⟩ := lenI_pos h1 h2
    exact ⟨⟨a, b, c, e, h1, h2⟩, h3, h4, h5⟩
  · rintro ⟨⟨_, _, _, _, h1, h2⟩, h3, h4, h5⟩
    exact ⟨⟨h1, h2⟩, h3, h4, h5⟩
theorem print_same {y m d h mi s : Int} (hm : isMomB y m d h mi s = true) : printB y m d h mi s = print2B y m d h mi s := by
  obtain ⟨⟨a1, a2, a3, a4, a5, a6⟩, ⟨b1, b2⟩, ⟨c1, c2⟩, d1, d2⟩ := isMomB_iff.1 hm
  have hl := (lenI_le y m).2
  unfold printB print2B
  rw [padB_four (by omega) (by omega), padB_two (n := m) (by omega) (by omega), padB_two (n := d) (by omega) (by omega), padB_two (n := h) (by omega) (by omega), padB_two (n := mi) (by omega) (by omega), padB_two (n := s) (by omega) (by omega)]
theorem len_cum (y : Int) (k : Nat) : cumI y (k + 1) = cumI y k + lenI y ((k : Int) + 1) := rfl
theorem dateP_bounds {n y m d : Int} (h : dateP n y m d) : ∃ k : Nat, m = (k : Int) + 1 ∧ k ≤ 11 ∧ n = beginsI y + cumI y k + (d - 1) ∧ cumI y (k + 1) = cumI y k + lenI y m ∧ cumI y (k + 1) ≤ cumI y 12 := by
  obtain ⟨y1, y2, m1, m2, d1, d2, e⟩ := h
  refine ⟨(m - 1).toNat, by omega, by omega, ?_, ?_, ?_⟩
  · rw [← e]; unfold daysI; omega
  · rw [len_cum]; congr 2; omega
  · have := cumI_mono y ((m - 1).toNat + 1) (11 - (m - 1).toNat)
    have e2 : (m - 1).toNat + 1 + (11 - (m - 1).toNat) = 12 := by omega
    rw [e2] at this; exact this

theorem begins_mono {y y' : Int} (h1 : 1970 ≤ y) (h : y + 1 ≤ y') (h2 : y' ≤ 2300) : beginsI (y + 1) ≤ beginsI y' := by
  unfold beginsI leapsI; omega

theorem dateP_unique {n y m d y' m' d' : Int} (h : dateP n y m d) (h' : dateP n y' m' d') : y = y' ∧ m = m' ∧ d = d' := by
  obtain ⟨k, e1, k1, e2, e3, e4⟩ := dateP_bounds h
  obtain ⟨k', f1, k1', f2, f3, f4⟩ := dateP_bounds h'
  obtain ⟨y1, y2, m1, m2, d1, d2, -⟩ := h
  obtain ⟨y1', y2', m1', m2', d1', d2', -⟩ := h'
  have c := cumI_le y k
  have c' := cumI_le y' k'
  have hy : y = y' := by
    rcases Int.lt_trichotomy y y' with h | h | h
    · have := begins_mono y1 (by omega : y + 1 ≤ y') (by omega)
      rw [begins_next y1 y2] at this; omega
    · exact h
    · have := begins_mono y1' (by omega : y' + 1 ≤ y) (by omega)
      rw [begins_next y1' y2'] at this; omega
  subst hy
  have hk : k = k' := by
    rcases Nat.lt_trichotomy k k' with h | h | h
    · have := cumI_mono y (k + 1) (k' - (k + 1))
      rw [show k + 1 + (k' - (k + 1)) = k' by omega] at this; omega
    · exact h
    · have := cumI_mono y (k' + 1) (k - (k' + 1))
      rw [show k' + 1 + (k - (k' + 1)) = k by omega] at this; omega
  subst hk
  exact ⟨rfl, by omega, by omega⟩

end Go.Proofs.YtjnkfgigpapeaaaDoor

