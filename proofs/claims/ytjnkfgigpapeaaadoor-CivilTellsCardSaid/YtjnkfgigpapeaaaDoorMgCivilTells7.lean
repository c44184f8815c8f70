import Derived.Test.YtjnkfgigpapeaaaDoorMgCivilTells4
import Derived.Test.YtjnkfgigpapeaaaDoorMgCivilTells6
import Derived.Shelf.Strconv.Itoa3
import Derived.Ground.NamesProg
import Derived.Test.YtjnkfgigpapeaaaDoorProg
set_option linter.unusedVariables false
set_option linter.unusedSimpArgs false
set_option linter.unnecessarySimpa false
set_option maxHeartbeats 0
set_option maxRecDepth 100000
namespace Go.Proofs.YtjnkfgigpapeaaaDoor
open Go Go.RowKit

theorem days2_l2 (K : List Frm → Sy → Prop) (N : List Ent → SV → Prop) (J : Act → World → Prop) (b : Nat) (y m d n k : Int) (u : Nat → Value) : (run Tryd.prog r2T2 true [] K (retP Tryd.prog Tryd.f12.results.toList N) 600 (frm [J] (bodyOf Tryd.f12) [1, 1, 1, 1, 0, 1, 0, 0] []) ⟨mkT u 36 0 [(1, .ptr 0 b 0), (2, .int .i64 0), (3, .int .i64 0), (4, .int .i64 n), (6, .int .i64 k)], [⟨.blk b, .cells [.int .i64 y, .int .i64 m, .int .i64 d] 23⟩]⟩) = (
b = b ∧
 match decide (k < m) with
 | true =>
  b = b ∧
   true = true ∧
    ((1970 : Int) ≤ y ∧ y ≤ (2200 : Int) ∧ (1 : Int) ≤ k ∧ k ≤ (12 : Int)) ∧
     K (Frm.loop J :: Frm.blk 2 :: frm [] (bodyOf Tryd.f12) [1, 1, 1, 1, 1] [])
      (Sy.mk (SV.raw (u 0) :: (SV.ptr 0 b 0 :: (SV.int IntKind.i64 (0 : Int) :: (SV.int IntKind.i64 (0 : Int) :: (SV.int IntKind.i64 (IntKind.wrap IntKind.i64 (n + lenI y k)) :: (SV.raw (u 5) :: (SV.int IntKind.i64 (IntKind.wrap IntKind.i64 (k + (1 : Int))) :: (rawR u 7 (SV.int IntKind.i64 k :: (SV.ptr 0 b 1 :: (SV.int IntKind.i64 m :: (SV.bool true :: (SV.int IntKind.i64 k :: (SV.int IntKind.i64 (IntKind.wrap IntKind.i64 (k + (1 : Int))) :: (SV.int IntKind.i64 n :: (SV.ptr 0 b 0 :: (SV.int IntKind.i64 y :: (SV.int IntKind.i64 k :: (SV.int IntKind.i64 (lenI y k) :: (SV.int IntKind.i64 (IntKind.wrap IntKind.i64 (n + lenI y k)) :: (SV.raw (u 35) :: []))))))))))))) 16))))))))
       [Ent.mk (Loc.blk b) (SObj.cells [SV.int IntKind.i64 y, SV.int IntKind.i64 m, SV.int IntKind.i64 d] (23 : TypeId))])
 | false => N [Ent.mk (Loc.blk b) (SObj.cells [SV.int IntKind.i64 y, SV.int IntKind.i64 m, SV.int IntKind.i64 d] (23 : TypeId))] (SV.tuple [SV.int IntKind.i64 n, SV.int IntKind.i64 (0 : Int)])) := by kernel_rfl


theorem date2_l2 (K : List Frm → Sy → Prop) (N : List Ent → SV → Prop) (J0 J1 : Act → World → Prop) (b : Nat) (n y k : Int) (u : Nat → Value) : (run Tryd.prog r2T2 true [] K (retP Tryd.prog Tryd.f19.results.toList N) 600 (frm [J0, J1] (bodyOf Tryd.f19) [1, 1, 0, 1, 0, 0, 1, 0, 0, 1, 1, 0, 0, 0] []) ⟨mkT u 39 0 [(0, .int .i64 n), (2, .ptr 0 b 0), (3, .int .i64 0), (4, .int .i64 y), (5, .int .i64 k)], [⟨.blk b, .cells [.int .i64 0, .int .i64 0, .int .i64 0] 23⟩]⟩) = (
true = true ∧
 ((1970 : Int) ≤ y ∧ y ≤ (2200 : Int) ∧ (1 : Int) ≤ k ∧ k ≤ (12 : Int)) ∧
  match decide (n ≥ lenI y k) with
  | true =>
   true = true ∧
    ((1970 : Int) ≤ y ∧ y ≤ (2200 : Int) ∧ (1 : Int) ≤ k ∧ k ≤ (12 : Int)) ∧
     K
      (Frm.loop J1 ::
       Frm.blk 2 :: frm [J0] (bodyOf Tryd.f19) [1, 1, 0, 1, 0, 0, 1, 0, 0, 1, 1, 1] [])
      (Sy.mk (SV.int IntKind.i64 (IntKind.wrap IntKind.i64 (n - lenI y k)) :: (SV.raw (u 1) :: (SV.ptr 0 b 0 :: (SV.int IntKind.i64 (0 : Int) :: (SV.int IntKind.i64 y :: (SV.int IntKind.i64 (IntKind.wrap IntKind.i64 (k + (1 : Int))) :: (rawR u 6 (SV.int IntKind.i64 n :: (SV.int IntKind.i64 y :: (SV.int IntKind.i64 k :: (SV.int IntKind.i64 (lenI y k) :: (SV.bool true :: (SV.int IntKind.i64 n :: (SV.int IntKind.i64 y :: (SV.int IntKind.i64 k :: (SV.int IntKind.i64 (lenI y k) :: (SV.int IntKind.i64 (IntKind.wrap IntKind.i64 (n - lenI y k)) :: (SV.int IntKind.i64 k :: (SV.int IntKind.i64 (IntKind.wrap IntKind.i64 (k + (1 : Int))) :: (rawR u 33 [] 6))))))))))))) 15)))))))
       [Ent.mk (Loc.blk b) (SObj.cells [SV.int IntKind.i64 (0 : Int), SV.int IntKind.i64 (0 : Int), SV.int IntKind.i64 (0 : Int)] (23 : TypeId))])
  | false =>
   (true = true ∧ true = true) ∧
    (b = b ∧ true = true ∧ 3 = 3 ∧ 3 ≤ 3) ∧
     (b = b ∧ 3 = 3) ∧
      N [Ent.mk (Loc.blk b) (SObj.cells [SV.int IntKind.i64 y, SV.int IntKind.i64 k, SV.int IntKind.i64 (IntKind.wrap IntKind.i64 (n + (1 : Int)))] (23 : TypeId))]
       (SV.tuple [SV.agg [SV.int IntKind.i64 y, SV.int IntKind.i64 k, SV.int IntKind.i64 (IntKind.wrap IntKind.i64 (n + (1 : Int)))], SV.int IntKind.i64 (0 : Int)])) := by kernel_rfl


theorem two_run (K : List Frm → Sy → Prop) (N : List Ent → SV → Prop) (n : Int) : (run Tryd.prog [(34, itoaC)] true [] K (retP Tryd.prog Tryd.f35.results.toList N) 600 [.code (bodyOf Tryd.f35)] ⟨padTo 10 [.int .i64 n], [itoaE]⟩) = (
match decide (n < (10 : Int)) with
| true =>
 true = true ∧
  ((0 : Int) ≤ n ∧ n ≤ (9223372036854775807 : Int)) ∧
   some (Ent.mk (Loc.blk 0) (SObj.pred fun (W : World) (c : Ch) ↦ c = [] ∧ Lib.TabIs Tryd.prog W "internal/strconv.uint64pow10" IntKind.u64 Lib.pow10Tab)) =
    some (Ent.mk (Loc.blk 0) (SObj.pred fun (W : World) (c : Ch) ↦ c = [] ∧ Lib.TabIs Tryd.prog W "internal/strconv.uint64pow10" IntKind.u64 Lib.pow10Tab)) ∧
    1 + ByteArray.size (dgB n) ≤ 9223372036854775807 ∧
     N [Ent.mk (Loc.blk 0) (SObj.pred fun (W : World) (c : Ch) ↦ c = [] ∧ Lib.TabIs Tryd.prog W "internal/strconv.uint64pow10" IntKind.u64 Lib.pow10Tab)]
      (SV.str (ByteArray.mk #[(48 : UInt8)] ++ dgB n))
| false =>
 true = true ∧
  ((0 : Int) ≤ n ∧ n ≤ (9223372036854775807 : Int)) ∧
   some (Ent.mk (Loc.blk 0) (SObj.pred fun (W : World) (c : Ch) ↦ c = [] ∧ Lib.TabIs Tryd.prog W "internal/strconv.uint64pow10" IntKind.u64 Lib.pow10Tab)) =
    some (Ent.mk (Loc.blk 0) (SObj.pred fun (W : World) (c : Ch) ↦ c = [] ∧ Lib.TabIs Tryd.prog W "internal/strconv.uint64pow10" IntKind.u64 Lib.pow10Tab)) ∧
    N [Ent.mk (Loc.blk 0) (SObj.pred fun (W : World) (c : Ch) ↦ c = [] ∧ Lib.TabIs Tryd.prog W "internal/strconv.uint64pow10" IntKind.u64 Lib.pow10Tab)] (SV.str (dgB n))) := by kernel_rfl


theorem pr_run (K : List Frm → Sy → Prop) (N : List Ent → SV → Prop) (y m d h mi s : Int) : (run Tryd.prog prT true [] K (retP Tryd.prog Tryd.f10.results.toList N) 900 [.code (bodyOf Tryd.f10)] ⟨padTo 43 [.agg [.int .i64 y, .int .i64 m, .int .i64 d, .int .i64 h, .int .i64 mi, .int .i64 s]], [itoaE]⟩) = (
true = true ∧
 ∀ (b : Nat),
  (b = b ∧ 6 = 6) ∧
   true = true ∧
    match isB y m d && (inB h (24 : Int) && (inB mi (60 : Int) && inB s (60 : Int))) with
    | true =>
     b = b ∧
      b = b ∧
       b = b ∧
        b = b ∧
         b = b ∧
          b = b ∧
           true = true ∧
            ((0 : Int) ≤ y ∧ y ≤ (9223372036854775807 : Int)) ∧
             some (Ent.mk (Loc.blk 0) (SObj.pred fun (W : World) (c : Ch) ↦ c = [] ∧ Lib.TabIs Tryd.prog W "internal/strconv.uint64pow10" IntKind.u64 Lib.pow10Tab)) =
              some (Ent.mk (Loc.blk 0) (SObj.pred fun (W : World) (c : Ch) ↦ c = [] ∧ Lib.TabIs Tryd.prog W "internal/strconv.uint64pow10" IntKind.u64 Lib.pow10Tab)) ∧
              (Ent.mk (Loc.blk 0) (SObj.pred fun (W : World) (c : Ch) ↦ c = [] ∧ Lib.TabIs Tryd.prog W "internal/strconv.uint64pow10" IntKind.u64 Lib.pow10Tab) =
               Ent.mk (Loc.blk 0) (SObj.pred fun (W : World) (c : Ch) ↦ c = [] ∧ Lib.TabIs Tryd.prog W "internal/strconv.uint64pow10" IntKind.u64 Lib.pow10Tab) ∧
               Ent.mk (Loc.blk b)
                (SObj.cells [SV.int IntKind.i64 y, SV.int IntKind.i64 m, SV.int IntKind.i64 d, SV.int IntKind.i64 h, SV.int IntKind.i64 mi, SV.int IntKind.i64 s] 25) =
                Ent.mk (Loc.blk b)
                 (SObj.cells [SV.int IntKind.i64 y, SV.int IntKind.i64 m, SV.int IntKind.i64 d, SV.int IntKind.i64 h, SV.int IntKind.i64 mi, SV.int IntKind.i64 s] 25) ∧
                True) ∧
               ByteArray.size (dgB y) + 1 ≤ 9223372036854775807 ∧
                true = true ∧
                 ((0 : Int) ≤ m ∧ m < (100 : Int)) ∧
                  some (Ent.mk (Loc.blk 0) (SObj.pred fun (W : World) (c : Ch) ↦ c = [] ∧ Lib.TabIs Tryd.prog W "internal/strconv.uint64pow10" IntKind.u64 Lib.pow10Tab)) =
                   some
                    (Ent.mk (Loc.blk 0) (SObj.pred fun (W : World) (c : Ch) ↦ c = [] ∧ Lib.TabIs Tryd.prog W "internal/strconv.uint64pow10" IntKind.u64 Lib.pow10Tab)) ∧
                   (Ent.mk (Loc.blk 0) (SObj.pred fun (W : World) (c : Ch) ↦ c = [] ∧ Lib.TabIs Tryd.prog W "internal/strconv.uint64pow10" IntKind.u64 Lib.pow10Tab) =
                    Ent.mk (Loc.blk 0) (SObj.pred fun (W : World) (c : Ch) ↦ c = [] ∧ Lib.TabIs Tryd.prog W "internal/strconv.uint64pow10" IntKind.u64 Lib.pow10Tab) ∧
                    Ent.mk (Loc.blk b)
                     (SObj.cells [SV.int IntKind.i64 y, SV.int IntKind.i64 m, SV.int IntKind.i64 d, SV.int IntKind.i64 h, SV.int IntKind.i64 mi, SV.int IntKind.i64 s]
                      25) =
                     Ent.mk (Loc.blk b)
                      (SObj.cells [SV.int IntKind.i64 y, SV.int IntKind.i64 m, SV.int IntKind.i64 d, SV.int IntKind.i64 h, SV.int IntKind.i64 mi, SV.int IntKind.i64 s]
                       25) ∧
                     True) ∧
                    ByteArray.size (dgB y ++ ByteArray.mk #[(45 : UInt8)]) + ByteArray.size (twoB m) ≤ 9223372036854775807 ∧
                     ByteArray.size (dgB y ++ ByteArray.mk #[(45 : UInt8)] ++ twoB m) + 1 ≤ 9223372036854775807 ∧
                      true = true ∧
                       ((0 : Int) ≤ d ∧ d < (100 : Int)) ∧
                        some
                         (Ent.mk (Loc.blk 0)
                          (SObj.pred fun (W : World) (c : Ch) ↦ c = [] ∧ Lib.TabIs Tryd.prog W "internal/strconv.uint64pow10" IntKind.u64 Lib.pow10Tab)) =
                         some
                          (Ent.mk (Loc.blk 0)
                           (SObj.pred fun (W : World) (c : Ch) ↦ c = [] ∧ Lib.TabIs Tryd.prog W "internal/strconv.uint64pow10" IntKind.u64 Lib.pow10Tab)) ∧
                         (Ent.mk (Loc.blk 0)
                          (SObj.pred fun (W : World) (c : Ch) ↦ c = [] ∧ Lib.TabIs Tryd.prog W "internal/strconv.uint64pow10" IntKind.u64 Lib.pow10Tab) =
                          Ent.mk (Loc.blk 0)
                           (SObj.pred fun (W : World) (c : Ch) ↦ c = [] ∧ Lib.TabIs Tryd.prog W "internal/strconv.uint64pow10" IntKind.u64 Lib.pow10Tab) ∧
                          Ent.mk (Loc.blk b)
                           (SObj.cells
                            [SV.int IntKind.i64 y, SV.int IntKind.i64 m, SV.int IntKind.i64 d, SV.int IntKind.i64 h, SV.int IntKind.i64 mi, SV.int IntKind.i64 s]
                            25) =
                           Ent.mk (Loc.blk b)
                            (SObj.cells
                             [SV.int IntKind.i64 y, SV.int IntKind.i64 m, SV.int IntKind.i64 d, SV.int IntKind.i64 h, SV.int IntKind.i64 mi, SV.int IntKind.i64 s]
                             25) ∧
                           True) ∧
                          ByteArray.size (dgB y ++ ByteArray.mk #[(45 : UInt8)] ++ twoB m ++ ByteArray.mk #[(45 : UInt8)]) + ByteArray.size (twoB d) ≤
                           9223372036854775807 ∧
                           ByteArray.size (dgB y ++ ByteArray.mk #[(45 : UInt8)] ++ twoB m ++ ByteArray.mk #[(45 : UInt8)] ++ twoB d) + 1 ≤
                            9223372036854775807 ∧
                            true = true ∧
                             ((0 : Int) ≤ h ∧ h < (100 : Int)) ∧
                              some
                               (Ent.mk (Loc.blk 0)
                                (SObj.pred fun (W : World) (c : Ch) ↦ c = [] ∧ Lib.TabIs Tryd.prog W "internal/strconv.uint64pow10" IntKind.u64 Lib.pow10Tab)) =
                               some
                                (Ent.mk (Loc.blk 0)
                                 (SObj.pred fun (W : World) (c : Ch) ↦ c = [] ∧ Lib.TabIs Tryd.prog W "internal/strconv.uint64pow10" IntKind.u64 Lib.pow10Tab)) ∧
                               (Ent.mk (Loc.blk 0)
                                (SObj.pred fun (W : World) (c : Ch) ↦ c = [] ∧ Lib.TabIs Tryd.prog W "internal/strconv.uint64pow10" IntKind.u64 Lib.pow10Tab) =
                                Ent.mk (Loc.blk 0)
                                 (SObj.pred fun (W : World) (c : Ch) ↦ c = [] ∧ Lib.TabIs Tryd.prog W "internal/strconv.uint64pow10" IntKind.u64 Lib.pow10Tab) ∧
                                Ent.mk (Loc.blk b)
                                 (SObj.cells
                                  [SV.int IntKind.i64 y, SV.int IntKind.i64 m, SV.int IntKind.i64 d, SV.int IntKind.i64 h, SV.int IntKind.i64 mi,
                                   SV.int IntKind.i64 s]
                                  25) =
                                 Ent.mk (Loc.blk b)
                                  (SObj.cells
                                   [SV.int IntKind.i64 y, SV.int IntKind.i64 m, SV.int IntKind.i64 d, SV.int IntKind.i64 h, SV.int IntKind.i64 mi,
                                    SV.int IntKind.i64 s]
                                   25) ∧
                                 True) ∧
                                ByteArray.size
                                 (dgB y ++ ByteArray.mk #[(45 : UInt8)] ++ twoB m ++ ByteArray.mk #[(45 : UInt8)] ++ twoB d ++ ByteArray.mk #[(32 : UInt8)]) +
                                 ByteArray.size (twoB h) ≤
                                 9223372036854775807 ∧
                                 ByteArray.size
                                  (dgB y ++ ByteArray.mk #[(45 : UInt8)] ++ twoB m ++ ByteArray.mk #[(45 : UInt8)] ++ twoB d ++ ByteArray.mk #[(32 : UInt8)] ++
                                   twoB h) +
                                  1 ≤
                                  9223372036854775807 ∧
                                  true = true ∧
                                   ((0 : Int) ≤ mi ∧ mi < (100 : Int)) ∧
                                    some
                                     (Ent.mk (Loc.blk 0)
                                      (SObj.pred fun (W : World) (c : Ch) ↦
                                       c = [] ∧ Lib.TabIs Tryd.prog W "internal/strconv.uint64pow10" IntKind.u64 Lib.pow10Tab)) =
                                     some
                                      (Ent.mk (Loc.blk 0)
                                       (SObj.pred fun (W : World) (c : Ch) ↦
                                        c = [] ∧ Lib.TabIs Tryd.prog W "internal/strconv.uint64pow10" IntKind.u64 Lib.pow10Tab)) ∧
                                     (Ent.mk (Loc.blk 0)
                                      (SObj.pred fun (W : World) (c : Ch) ↦
                                       c = [] ∧ Lib.TabIs Tryd.prog W "internal/strconv.uint64pow10" IntKind.u64 Lib.pow10Tab) =
                                      Ent.mk (Loc.blk 0)
                                       (SObj.pred fun (W : World) (c : Ch) ↦
                                        c = [] ∧ Lib.TabIs Tryd.prog W "internal/strconv.uint64pow10" IntKind.u64 Lib.pow10Tab) ∧
                                      Ent.mk (Loc.blk b)
                                       (SObj.cells
                                        [SV.int IntKind.i64 y, SV.int IntKind.i64 m, SV.int IntKind.i64 d, SV.int IntKind.i64 h, SV.int IntKind.i64 mi,
                                         SV.int IntKind.i64 s]
                                        25) =
                                       Ent.mk (Loc.blk b)
                                        (SObj.cells
                                         [SV.int IntKind.i64 y, SV.int IntKind.i64 m, SV.int IntKind.i64 d, SV.int IntKind.i64 h, SV.int IntKind.i64 mi,
                                          SV.int IntKind.i64 s]
                                         25) ∧
                                       True) ∧
                                      ByteArray.size
                                       (dgB y ++ ByteArray.mk #[(45 : UInt8)] ++ twoB m ++ ByteArray.mk #[(45 : UInt8)] ++ twoB d ++
                                        ByteArray.mk #[(32 : UInt8)] ++
                                        twoB h ++
                                        ByteArray.mk #[(58 : UInt8)]) +
                                       ByteArray.size (twoB mi) ≤
                                       9223372036854775807 ∧
                                       ByteArray.size
                                        (dgB y ++ ByteArray.mk #[(45 : UInt8)] ++ twoB m ++ ByteArray.mk #[(45 : UInt8)] ++ twoB d ++
                                         ByteArray.mk #[(32 : UInt8)] ++
                                         twoB h ++
                                         ByteArray.mk #[(58 : UInt8)] ++
                                         twoB mi) +
                                        1 ≤
                                        9223372036854775807 ∧
                                        true = true ∧
                                         ((0 : Int) ≤ s ∧ s < (100 : Int)) ∧
                                          some
                                           (Ent.mk (Loc.blk 0)
                                            (SObj.pred fun (W : World) (c : Ch) ↦
                                             c = [] ∧ Lib.TabIs Tryd.prog W "internal/strconv.uint64pow10" IntKind.u64 Lib.pow10Tab)) =
                                           some
                                            (Ent.mk (Loc.blk 0)
                                             (SObj.pred fun (W : World) (c : Ch) ↦
                                              c = [] ∧ Lib.TabIs Tryd.prog W "internal/strconv.uint64pow10" IntKind.u64 Lib.pow10Tab)) ∧
                                           (Ent.mk (Loc.blk 0)
                                            (SObj.pred fun (W : World) (c : Ch) ↦
                                             c = [] ∧ Lib.TabIs Tryd.prog W "internal/strconv.uint64pow10" IntKind.u64 Lib.pow10Tab) =
                                            Ent.mk (Loc.blk 0)
                                             (SObj.pred fun (W : World) (c : Ch) ↦
                                              c = [] ∧ Lib.TabIs Tryd.prog W "internal/strconv.uint64pow10" IntKind.u64 Lib.pow10Tab) ∧
                                            Ent.mk (Loc.blk b)
                                             (SObj.cells
                                              [SV.int IntKind.i64 y, SV.int IntKind.i64 m, SV.int IntKind.i64 d, SV.int IntKind.i64 h,
                                               SV.int IntKind.i64 mi, SV.int IntKind.i64 s]
                                              25) =
                                             Ent.mk (Loc.blk b)
                                              (SObj.cells
                                               [SV.int IntKind.i64 y, SV.int IntKind.i64 m, SV.int IntKind.i64 d, SV.int IntKind.i64 h,
                                                SV.int IntKind.i64 mi, SV.int IntKind.i64 s]
                                               25) ∧
                                             True) ∧
                                            ByteArray.size
                                             (dgB y ++ ByteArray.mk #[(45 : UInt8)] ++ twoB m ++ ByteArray.mk #[(45 : UInt8)] ++ twoB d ++
                                              ByteArray.mk #[(32 : UInt8)] ++
                                              twoB h ++
                                              ByteArray.mk #[(58 : UInt8)] ++
                                              twoB mi ++
                                              ByteArray.mk #[(58 : UInt8)]) +
                                             ByteArray.size (twoB s) ≤
                                             9223372036854775807 ∧
                                             N
                                              [Ent.mk (Loc.blk 0)
                                               (SObj.pred fun (W : World) (c : Ch) ↦
                                                c = [] ∧ Lib.TabIs Tryd.prog W "internal/strconv.uint64pow10" IntKind.u64 Lib.pow10Tab),
                                               Ent.mk (Loc.blk b)
                                                (SObj.cells
                                                 [SV.int IntKind.i64 y, SV.int IntKind.i64 m, SV.int IntKind.i64 d, SV.int IntKind.i64 h,
                                                  SV.int IntKind.i64 mi, SV.int IntKind.i64 s]
                                                 25)]
                                              (SV.str
                                               (dgB y ++ ByteArray.mk #[(45 : UInt8)] ++ twoB m ++ ByteArray.mk #[(45 : UInt8)] ++ twoB d ++
                                                ByteArray.mk #[(32 : UInt8)] ++
                                                twoB h ++
                                                ByteArray.mk #[(58 : UInt8)] ++
                                                twoB mi ++
                                                ByteArray.mk #[(58 : UInt8)] ++
                                                twoB s))
    | false =>
     N
      [Ent.mk (Loc.blk 0) (SObj.pred fun (W : World) (c : Ch) ↦ c = [] ∧ Lib.TabIs Tryd.prog W "internal/strconv.uint64pow10" IntKind.u64 Lib.pow10Tab),
       Ent.mk (Loc.blk b) (SObj.cells [SV.int IntKind.i64 y, SV.int IntKind.i64 m, SV.int IntKind.i64 d, SV.int IntKind.i64 h, SV.int IntKind.i64 mi, SV.int IntKind.i64 s] 25)]
      (SV.str (ByteArray.mk #[]))) := by kernel_rfl


theorem pad_start (K : List Frm → Sy → Prop) (N : List Ent → SV → Prop) (n w : Int) : (run Tryd.prog [(53, digitsC)] true [] K (retP Tryd.prog Tryd.f41.results.toList N) 600 [.code (bodyOf Tryd.f41)] ⟨padTo 15 [.int .i64 n, .int .i64 w], []⟩) = (
true = true ∧
 ((0 : Int) ≤ n ∧ n ≤ (9223372036854775807 : Int)) ∧
  K (frm [] (bodyOf Tryd.f41) [1, 1, 0, 0] [])
   (Sy.mk (SV.int IntKind.i64 n :: (SV.int IntKind.i64 w :: (SV.raw (Value.tuple #[]) :: (SV.raw (Value.tuple #[]) :: (SV.str (ByteArray.mk #[]) :: (SV.str (dgB n) :: (SV.int IntKind.i64 n :: (SV.str (dgB n) :: (rawE [] 7)))))))))
    [])) := by kernel_rfl


theorem pad_l (K : List Frm → Sy → Prop) (N : List Ent → SV → Prop) (J : Act → World → Prop) (w : Int) (s : ByteArray) (u : Nat → Value) : (run Tryd.prog [(53, digitsC)] true [] K (retP Tryd.prog Tryd.f41.results.toList N) 900 (frm [J] (bodyOf Tryd.f41) [1, 1, 0, 0, 0] []) ⟨mkT u 15 0 [(1, .int .i64 w), (5, .str s)], []⟩) = (
match decide ((↑(ByteArray.size s) : Int) < w) with
| true =>
 1 + ByteArray.size s ≤ 9223372036854775807 ∧
  K (Frm.loop J :: Frm.blk 0 :: frm [] (bodyOf Tryd.f41) [1, 1, 1] [])
   (Sy.mk (SV.raw (u 0) :: (SV.int IntKind.i64 w :: (rawR u 2 (SV.str (ByteArray.mk #[(48 : UInt8)] ++ s) :: (SV.raw (u 6) :: (SV.raw (u 7) :: (SV.str s :: (SV.int IntKind.i64 (↑(ByteArray.size s) : Int) :: (SV.int IntKind.i64 w :: (SV.bool true :: (SV.str s :: (SV.str (ByteArray.mk #[(48 : UInt8)] ++ s) :: (SV.raw (u 14) :: [])))))))))) 3)))
    [])
| false => N [] (SV.str s)) := by kernel_rfl


theorem pr2_run (K : List Frm → Sy → Prop) (N : List Ent → SV → Prop) (y m d h mi s : Int) : (run Tryd.prog pr2T true [] K (retP Tryd.prog Tryd.f17.results.toList N) 900 [.code (bodyOf Tryd.f17)] ⟨padTo 37 [.agg [.int .i64 y, .int .i64 m, .int .i64 d, .int .i64 h, .int .i64 mi, .int .i64 s]], []⟩) = (
true = true ∧
 ∀ (b : Nat),
  (b = b ∧ 6 = 6) ∧
   true = true ∧
    match !isMomB y m d h mi s with
    | true =>
     N [Ent.mk (Loc.blk b) (SObj.cells [SV.int IntKind.i64 y, SV.int IntKind.i64 m, SV.int IntKind.i64 d, SV.int IntKind.i64 h, SV.int IntKind.i64 mi, SV.int IntKind.i64 s] 25)]
      (SV.str (ByteArray.mk #[]))
    | false =>
     b = b ∧
      b = b ∧
       b = b ∧
        b = b ∧
         b = b ∧
          b = b ∧
           true = true ∧
            ((0 : Int) ≤ y ∧ y < (10000 : Int) ∧ (0 : Int) ≤ (4 : Int) ∧ (4 : Int) ≤ (4 : Int)) ∧
             (Ent.mk (Loc.blk b)
              (SObj.cells [SV.int IntKind.i64 y, SV.int IntKind.i64 m, SV.int IntKind.i64 d, SV.int IntKind.i64 h, SV.int IntKind.i64 mi, SV.int IntKind.i64 s] 25) =
              Ent.mk (Loc.blk b)
               (SObj.cells [SV.int IntKind.i64 y, SV.int IntKind.i64 m, SV.int IntKind.i64 d, SV.int IntKind.i64 h, SV.int IntKind.i64 mi, SV.int IntKind.i64 s] 25) ∧
              True) ∧
              ByteArray.size (padB y (4 : Int)) + 1 ≤ 9223372036854775807 ∧
               true = true ∧
                ((0 : Int) ≤ m ∧ m < (10000 : Int) ∧ (0 : Int) ≤ (2 : Int) ∧ (2 : Int) ≤ (4 : Int)) ∧
                 (Ent.mk (Loc.blk b)
                  (SObj.cells [SV.int IntKind.i64 y, SV.int IntKind.i64 m, SV.int IntKind.i64 d, SV.int IntKind.i64 h, SV.int IntKind.i64 mi, SV.int IntKind.i64 s]
                   25) =
                  Ent.mk (Loc.blk b)
                   (SObj.cells [SV.int IntKind.i64 y, SV.int IntKind.i64 m, SV.int IntKind.i64 d, SV.int IntKind.i64 h, SV.int IntKind.i64 mi, SV.int IntKind.i64 s]
                    25) ∧
                  True) ∧
                  ByteArray.size (padB y (4 : Int) ++ ByteArray.mk #[(45 : UInt8)]) + ByteArray.size (padB m (2 : Int)) ≤ 9223372036854775807 ∧
                   ByteArray.size (padB y (4 : Int) ++ ByteArray.mk #[(45 : UInt8)] ++ padB m (2 : Int)) + 1 ≤ 9223372036854775807 ∧
                    true = true ∧
                     ((0 : Int) ≤ d ∧ d < (10000 : Int) ∧ (0 : Int) ≤ (2 : Int) ∧ (2 : Int) ≤ (4 : Int)) ∧
                      (Ent.mk (Loc.blk b)
                       (SObj.cells [SV.int IntKind.i64 y, SV.int IntKind.i64 m, SV.int IntKind.i64 d, SV.int IntKind.i64 h, SV.int IntKind.i64 mi, SV.int IntKind.i64 s]
                        25) =
                       Ent.mk (Loc.blk b)
                        (SObj.cells [SV.int IntKind.i64 y, SV.int IntKind.i64 m, SV.int IntKind.i64 d, SV.int IntKind.i64 h, SV.int IntKind.i64 mi, SV.int IntKind.i64 s]
                         25) ∧
                       True) ∧
                       ByteArray.size (padB y (4 : Int) ++ ByteArray.mk #[(45 : UInt8)] ++ padB m (2 : Int) ++ ByteArray.mk #[(45 : UInt8)]) +
                        ByteArray.size (padB d (2 : Int)) ≤
                        9223372036854775807 ∧
                        ByteArray.size (padB y (4 : Int) ++ ByteArray.mk #[(45 : UInt8)] ++ padB m (2 : Int) ++ ByteArray.mk #[(45 : UInt8)] ++ padB d (2 : Int)) + 1 ≤
                         9223372036854775807 ∧
                         true = true ∧
                          ((0 : Int) ≤ h ∧ h < (10000 : Int) ∧ (0 : Int) ≤ (2 : Int) ∧ (2 : Int) ≤ (4 : Int)) ∧
                           (Ent.mk (Loc.blk b)
                            (SObj.cells
                             [SV.int IntKind.i64 y, SV.int IntKind.i64 m, SV.int IntKind.i64 d, SV.int IntKind.i64 h, SV.int IntKind.i64 mi, SV.int IntKind.i64 s]
                             25) =
                            Ent.mk (Loc.blk b)
                             (SObj.cells
                              [SV.int IntKind.i64 y, SV.int IntKind.i64 m, SV.int IntKind.i64 d, SV.int IntKind.i64 h, SV.int IntKind.i64 mi, SV.int IntKind.i64 s]
                              25) ∧
                            True) ∧
                            ByteArray.size
                             (padB y (4 : Int) ++ ByteArray.mk #[(45 : UInt8)] ++ padB m (2 : Int) ++ ByteArray.mk #[(45 : UInt8)] ++ padB d (2 : Int) ++
                              ByteArray.mk #[(32 : UInt8)]) +
                             ByteArray.size (padB h (2 : Int)) ≤
                             9223372036854775807 ∧
                             ByteArray.size
                              (padB y (4 : Int) ++ ByteArray.mk #[(45 : UInt8)] ++ padB m (2 : Int) ++ ByteArray.mk #[(45 : UInt8)] ++ padB d (2 : Int) ++
                               ByteArray.mk #[(32 : UInt8)] ++
                               padB h (2 : Int)) +
                              1 ≤
                              9223372036854775807 ∧
                              true = true ∧
                               ((0 : Int) ≤ mi ∧ mi < (10000 : Int) ∧ (0 : Int) ≤ (2 : Int) ∧ (2 : Int) ≤ (4 : Int)) ∧
                                (Ent.mk (Loc.blk b)
                                 (SObj.cells
                                  [SV.int IntKind.i64 y, SV.int IntKind.i64 m, SV.int IntKind.i64 d, SV.int IntKind.i64 h, SV.int IntKind.i64 mi,
                                   SV.int IntKind.i64 s]
                                  25) =
                                 Ent.mk (Loc.blk b)
                                  (SObj.cells
                                   [SV.int IntKind.i64 y, SV.int IntKind.i64 m, SV.int IntKind.i64 d, SV.int IntKind.i64 h, SV.int IntKind.i64 mi,
                                    SV.int IntKind.i64 s]
                                   25) ∧
                                 True) ∧
                                 ByteArray.size
                                  (padB y (4 : Int) ++ ByteArray.mk #[(45 : UInt8)] ++ padB m (2 : Int) ++ ByteArray.mk #[(45 : UInt8)] ++ padB d (2 : Int) ++
                                   ByteArray.mk #[(32 : UInt8)] ++
                                   padB h (2 : Int) ++
                                   ByteArray.mk #[(58 : UInt8)]) +
                                  ByteArray.size (padB mi (2 : Int)) ≤
                                  9223372036854775807 ∧
                                  ByteArray.size
                                   (padB y (4 : Int) ++ ByteArray.mk #[(45 : UInt8)] ++ padB m (2 : Int) ++ ByteArray.mk #[(45 : UInt8)] ++ padB d (2 : Int) ++
                                    ByteArray.mk #[(32 : UInt8)] ++
                                    padB h (2 : Int) ++
                                    ByteArray.mk #[(58 : UInt8)] ++
                                    padB mi (2 : Int)) +
                                   1 ≤
                                   9223372036854775807 ∧
                                   true = true ∧
                                    ((0 : Int) ≤ s ∧ s < (10000 : Int) ∧ (0 : Int) ≤ (2 : Int) ∧ (2 : Int) ≤ (4 : Int)) ∧
                                     (Ent.mk (Loc.blk b)
                                      (SObj.cells
                                       [SV.int IntKind.i64 y, SV.int IntKind.i64 m, SV.int IntKind.i64 d, SV.int IntKind.i64 h, SV.int IntKind.i64 mi,
                                        SV.int IntKind.i64 s]
                                       25) =
                                      Ent.mk (Loc.blk b)
                                       (SObj.cells
                                        [SV.int IntKind.i64 y, SV.int IntKind.i64 m, SV.int IntKind.i64 d, SV.int IntKind.i64 h, SV.int IntKind.i64 mi,
                                         SV.int IntKind.i64 s]
                                        25) ∧
                                      True) ∧
                                      ByteArray.size
                                       (padB y (4 : Int) ++ ByteArray.mk #[(45 : UInt8)] ++ padB m (2 : Int) ++ ByteArray.mk #[(45 : UInt8)] ++
                                        padB d (2 : Int) ++
                                        ByteArray.mk #[(32 : UInt8)] ++
                                        padB h (2 : Int) ++
                                        ByteArray.mk #[(58 : UInt8)] ++
                                        padB mi (2 : Int) ++
                                        ByteArray.mk #[(58 : UInt8)]) +
                                       ByteArray.size (padB s (2 : Int)) ≤
                                       9223372036854775807 ∧
                                       N
                                        [Ent.mk (Loc.blk b)
                                         (SObj.cells
                                          [SV.int IntKind.i64 y, SV.int IntKind.i64 m, SV.int IntKind.i64 d, SV.int IntKind.i64 h, SV.int IntKind.i64 mi,
                                           SV.int IntKind.i64 s]
                                          25)]
                                        (SV.str
                                         (padB y (4 : Int) ++ ByteArray.mk #[(45 : UInt8)] ++ padB m (2 : Int) ++ ByteArray.mk #[(45 : UInt8)] ++
                                          padB d (2 : Int) ++
                                          ByteArray.mk #[(32 : UInt8)] ++
                                          padB h (2 : Int) ++
                                          ByteArray.mk #[(58 : UInt8)] ++
                                          padB mi (2 : Int) ++
                                          ByteArray.mk #[(58 : UInt8)] ++
                                          padB s (2 : Int)))) := by kernel_rfl


theorem unix2_run (K : List Frm → Sy → Prop) (N : List Ent → SV → Prop) (y m d h mi s : Int) : (run Tryd.prog r2T3 true [] K (retP Tryd.prog Tryd.f20.results.toList N) 900 [.code (bodyOf Tryd.f20)] ⟨padTo 28 [.agg [.int .i64 y, .int .i64 m, .int .i64 d, .int .i64 h, .int .i64 mi, .int .i64 s]], []⟩) = (
true = true ∧
 ∀ (b : Nat),
  (b = b ∧ 6 = 6) ∧
   true = true ∧
    match !isMomB y m d h mi s with
    | true =>
     N [Ent.mk (Loc.blk b) (SObj.cells [SV.int IntKind.i64 y, SV.int IntKind.i64 m, SV.int IntKind.i64 d, SV.int IntKind.i64 h, SV.int IntKind.i64 mi, SV.int IntKind.i64 s] 25)]
      (SV.tuple [SV.int IntKind.i64 (0 : Int), SV.int IntKind.i64 (20 : Int)])
    | false =>
     (b = b ∧ 3 = 3) ∧
      true = true ∧
       match isB y m d with
       | true =>
        b = b ∧
         b = b ∧
          b = b ∧
           N
            [Ent.mk (Loc.blk b)
             (SObj.cells [SV.int IntKind.i64 y, SV.int IntKind.i64 m, SV.int IntKind.i64 d, SV.int IntKind.i64 h, SV.int IntKind.i64 mi, SV.int IntKind.i64 s] 25)]
            (SV.tuple
             [SV.int IntKind.i64
              (IntKind.wrap IntKind.i64
               (IntKind.wrap IntKind.i64 (daysI y m d * (86400 : Int)) +
                IntKind.wrap IntKind.i64 (IntKind.wrap IntKind.i64 (IntKind.wrap IntKind.i64 (h * (3600 : Int)) + IntKind.wrap IntKind.i64 (mi * (60 : Int))) + s))),
              SV.int IntKind.i64 (0 : Int)])
       | false =>
        b = b ∧
         b = b ∧
          b = b ∧
           N
            [Ent.mk (Loc.blk b)
             (SObj.cells [SV.int IntKind.i64 y, SV.int IntKind.i64 m, SV.int IntKind.i64 d, SV.int IntKind.i64 h, SV.int IntKind.i64 mi, SV.int IntKind.i64 s] 25)]
            (SV.tuple
             [SV.int IntKind.i64
              (IntKind.wrap IntKind.i64
               ((0 : Int) + IntKind.wrap IntKind.i64 (IntKind.wrap IntKind.i64 (IntKind.wrap IntKind.i64 (h * (3600 : Int)) + IntKind.wrap IntKind.i64 (mi * (60 : Int))) + s))),
              SV.int IntKind.i64 (0 : Int)])) := by kernel_rfl


theorem mom2_run (K : List Frm → Sy → Prop) (N : List Ent → SV → Prop) (t : Int) : (run Tryd.prog r2T3 true [] K (retP Tryd.prog Tryd.f22.results.toList N) 900 [.code (bodyOf Tryd.f22)] ⟨padTo 36 [.int .i64 t], []⟩) = (
∀ (b : Nat),
 match decide (t < (0 : Int)) with
 | true =>
  (true = true ∧ true = true) ∧
   (b = b ∧ true = true ∧ 6 = 6 ∧ 6 ≤ 6) ∧
    (b = b ∧ 6 = 6) ∧
     N
      [Ent.mk (Loc.blk b)
       (SObj.cells
        [SV.int IntKind.i64 (0 : Int), SV.int IntKind.i64 (0 : Int), SV.int IntKind.i64 (0 : Int), SV.int IntKind.i64 (0 : Int), SV.int IntKind.i64 (0 : Int), SV.int IntKind.i64 (0 : Int)]
        25)]
      (SV.tuple
       [SV.agg
        [SV.int IntKind.i64 (0 : Int), SV.int IntKind.i64 (0 : Int), SV.int IntKind.i64 (0 : Int), SV.int IntKind.i64 (0 : Int), SV.int IntKind.i64 (0 : Int), SV.int IntKind.i64 (0 : Int)],
        SV.int IntKind.i64 (20 : Int)])
 | false =>
  (86400 : Int) ≠ (0 : Int) ∧
   match decide (IntKind.wrap IntKind.i64 (Int.tdiv t (86400 : Int)) > (200000 : Int)) with
   | true =>
    (true = true ∧ true = true) ∧
     (b = b ∧ true = true ∧ 6 = 6 ∧ 6 ≤ 6) ∧
      (b = b ∧ 6 = 6) ∧
       N
        [Ent.mk (Loc.blk b)
         (SObj.cells
          [SV.int IntKind.i64 (0 : Int), SV.int IntKind.i64 (0 : Int), SV.int IntKind.i64 (0 : Int), SV.int IntKind.i64 (0 : Int), SV.int IntKind.i64 (0 : Int),
           SV.int IntKind.i64 (0 : Int)]
          25)]
        (SV.tuple
         [SV.agg
          [SV.int IntKind.i64 (0 : Int), SV.int IntKind.i64 (0 : Int), SV.int IntKind.i64 (0 : Int), SV.int IntKind.i64 (0 : Int), SV.int IntKind.i64 (0 : Int),
           SV.int IntKind.i64 (0 : Int)],
          SV.int IntKind.i64 (20 : Int)])
   | false =>
    (86400 : Int) ≠ (0 : Int) ∧
     true = true ∧
      IntKind.wrap IntKind.i64 (Int.tdiv t (86400 : Int)) ≤ (9223372036854775807 : Int) ∧
       match decide ((0 : Int) ≤ IntKind.wrap IntKind.i64 (Int.tdiv t (86400 : Int))) && decide (IntKind.wrap IntKind.i64 (Int.tdiv t (86400 : Int)) < (84371 : Int)) with
       | true =>
        ∀ (y m d : Int),
         dateP (IntKind.wrap IntKind.i64 (Int.tdiv t (86400 : Int))) y m d →
          ∀ (b_1 : Nat),
           (b_1 = b_1 ∧ true = true ∧ 3 = 3 ∧ 3 ≤ 3) ∧
            (86400 : Int) ≠ (0 : Int) ∧
             (b_1 = b_1 ∧ 3 = 3) ∧
              (3600 : Int) ≠ (0 : Int) ∧
               (60 : Int) ≠ (0 : Int) ∧
                (60 : Int) ≠ (0 : Int) ∧
                 (60 : Int) ≠ (0 : Int) ∧
                  (true = true ∧ true = true) ∧
                   (b = b ∧ true = true ∧ 6 = 6 ∧ 6 ≤ 6) ∧
                    (b = b ∧ 6 = 6) ∧
                     N
                      [Ent.mk (Loc.blk b)
                       (SObj.cells
                        [SV.int IntKind.i64 y, SV.int IntKind.i64 m, SV.int IntKind.i64 d,
                         SV.int IntKind.i64 (IntKind.wrap IntKind.i64 (Int.tdiv (Int.tmod t (86400 : Int)) (3600 : Int))),
                         SV.int IntKind.i64 (Int.tmod (IntKind.wrap IntKind.i64 (Int.tdiv (Int.tmod t (86400 : Int)) (60 : Int))) (60 : Int)),
                         SV.int IntKind.i64 (Int.tmod (Int.tmod t (86400 : Int)) (60 : Int))]
                        25),
                       Ent.mk (Loc.blk b_1) (SObj.cells [SV.int IntKind.i64 y, SV.int IntKind.i64 m, SV.int IntKind.i64 d] 23)]
                      (SV.tuple
                       [SV.agg
                        [SV.int IntKind.i64 y, SV.int IntKind.i64 m, SV.int IntKind.i64 d,
                         SV.int IntKind.i64 (IntKind.wrap IntKind.i64 (Int.tdiv (Int.tmod t (86400 : Int)) (3600 : Int))),
                         SV.int IntKind.i64 (Int.tmod (IntKind.wrap IntKind.i64 (Int.tdiv (Int.tmod t (86400 : Int)) (60 : Int))) (60 : Int)),
                         SV.int IntKind.i64 (Int.tmod (Int.tmod t (86400 : Int)) (60 : Int))],
                        SV.int IntKind.i64 (0 : Int)])
       | false =>
        ∀ (b_1 : Nat),
         (b_1 = b_1 ∧ true = true ∧ 3 = 3 ∧ 3 ≤ 3) ∧
          (true = true ∧ true = true) ∧
           (b = b ∧ true = true ∧ 6 = 6 ∧ 6 ≤ 6) ∧
            (b = b ∧ 6 = 6) ∧
             N
              [Ent.mk (Loc.blk b)
               (SObj.cells
                [SV.int IntKind.i64 (0 : Int), SV.int IntKind.i64 (0 : Int), SV.int IntKind.i64 (0 : Int), SV.int IntKind.i64 (0 : Int), SV.int IntKind.i64 (0 : Int),
                 SV.int IntKind.i64 (0 : Int)]
                25),
               Ent.mk (Loc.blk b_1) (SObj.cells [SV.int IntKind.i64 (0 : Int), SV.int IntKind.i64 (0 : Int), SV.int IntKind.i64 (0 : Int)] 23)]
              (SV.tuple
               [SV.agg
                [SV.int IntKind.i64 (0 : Int), SV.int IntKind.i64 (0 : Int), SV.int IntKind.i64 (0 : Int), SV.int IntKind.i64 (0 : Int), SV.int IntKind.i64 (0 : Int),
                 SV.int IntKind.i64 (0 : Int)],
                SV.int IntKind.i64 (20 : Int)])) := by kernel_rfl


theorem kn2_run (K : List Frm → Sy → Prop) (N : List Ent → SV → Prop) : (run Tryd.prog [(11, daysC), (15, wdC)] true [] K (retP Tryd.prog Tryd.f8.results.toList N) 600 [.code (bodyOf Tryd.f8)] ⟨padTo 30 [], []⟩) = (
(true = true ∧ true = true) ∧
 true = true ∧
  (true = true ∧ true = true) ∧
   true = true ∧
    true = true ∧
     ((-9223372036854775808 : Int) ≤ (19782 : Int) ∧ (19782 : Int) ≤ (9223372036854775807 : Int)) ∧
      true = true ∧ ((-9223372036854775808 : Int) ≤ (-1 : Int) ∧ (-1 : Int) ≤ (9223372036854775807 : Int)) ∧ N [] (SV.bool true)) := by kernel_rfl
end Go.Proofs.YtjnkfgigpapeaaaDoor

namespace Go.Proofs.YtjnkfgigpapeaaaDoor
open Go Go.RowKit

theorem moment_run (K : List Frm → Sy → Prop) (N : List Ent → SV → Prop) (t : Int) : (run Tryd.prog civ4 true [] K (retP Tryd.prog Tryd.f21.results.toList N) 600 [.code (bodyOf Tryd.f21)] ⟨padTo 34 [.int .i64 t], []⟩) = (
∀ (b : Nat),
 match decide (t < (0 : Int)) with
 | true =>
  (true = true ∧ true = true) ∧
   (b = b ∧ true = true ∧ 6 = 6 ∧ 6 ≤ 6) ∧
    (b = b ∧ 6 = 6) ∧
     N
      [Ent.mk (Loc.blk b)
       (SObj.cells
        [SV.int IntKind.i64 (0 : Int), SV.int IntKind.i64 (0 : Int), SV.int IntKind.i64 (0 : Int), SV.int IntKind.i64 (0 : Int), SV.int IntKind.i64 (0 : Int), SV.int IntKind.i64 (0 : Int)]
        25)]
      (SV.tuple
       [SV.agg
        [SV.int IntKind.i64 (0 : Int), SV.int IntKind.i64 (0 : Int), SV.int IntKind.i64 (0 : Int), SV.int IntKind.i64 (0 : Int), SV.int IntKind.i64 (0 : Int), SV.int IntKind.i64 (0 : Int)],
        SV.int IntKind.i64 (20 : Int)])
 | false =>
  (86400 : Int) ≠ (0 : Int) ∧
   true = true ∧
    ((1 : Int) ≤ (2201 : Int) ∧ (2201 : Int) ≤ (1000000 : Int)) ∧
     match decide (IntKind.wrap IntKind.i64 (Int.tdiv t (86400 : Int)) ≥ (84371 : Int)) with
     | true =>
      (true = true ∧ true = true) ∧
       (b = b ∧ true = true ∧ 6 = 6 ∧ 6 ≤ 6) ∧
        (b = b ∧ 6 = 6) ∧
         N
          [Ent.mk (Loc.blk b)
           (SObj.cells
            [SV.int IntKind.i64 (0 : Int), SV.int IntKind.i64 (0 : Int), SV.int IntKind.i64 (0 : Int), SV.int IntKind.i64 (0 : Int), SV.int IntKind.i64 (0 : Int),
             SV.int IntKind.i64 (0 : Int)]
            25)]
          (SV.tuple
           [SV.agg
            [SV.int IntKind.i64 (0 : Int), SV.int IntKind.i64 (0 : Int), SV.int IntKind.i64 (0 : Int), SV.int IntKind.i64 (0 : Int), SV.int IntKind.i64 (0 : Int),
             SV.int IntKind.i64 (0 : Int)],
            SV.int IntKind.i64 (20 : Int)])
     | false =>
      (86400 : Int) ≠ (0 : Int) ∧
       true = true ∧
        match decide ((0 : Int) ≤ IntKind.wrap IntKind.i64 (Int.tdiv t (86400 : Int))) && decide (IntKind.wrap IntKind.i64 (Int.tdiv t (86400 : Int)) < (84371 : Int)) with
        | true =>
         ∀ (y m d : Int),
          dateP (IntKind.wrap IntKind.i64 (Int.tdiv t (86400 : Int))) y m d →
           ∀ (b_1 : Nat),
            (b_1 = b_1 ∧ true = true ∧ 3 = 3 ∧ 3 ≤ 3) ∧
             (86400 : Int) ≠ (0 : Int) ∧
              (b_1 = b_1 ∧ 3 = 3) ∧
               (3600 : Int) ≠ (0 : Int) ∧
                (60 : Int) ≠ (0 : Int) ∧
                 (60 : Int) ≠ (0 : Int) ∧
                  (60 : Int) ≠ (0 : Int) ∧
                   (true = true ∧ true = true) ∧
                    (b = b ∧ true = true ∧ 6 = 6 ∧ 6 ≤ 6) ∧
                     (b = b ∧ 6 = 6) ∧
                      N
                       [Ent.mk (Loc.blk b)
                        (SObj.cells
                         [SV.int IntKind.i64 y, SV.int IntKind.i64 m, SV.int IntKind.i64 d,
                          SV.int IntKind.i64 (IntKind.wrap IntKind.i64 (Int.tdiv (Int.tmod t (86400 : Int)) (3600 : Int))),
                          SV.int IntKind.i64 (Int.tmod (IntKind.wrap IntKind.i64 (Int.tdiv (Int.tmod t (86400 : Int)) (60 : Int))) (60 : Int)),
                          SV.int IntKind.i64 (Int.tmod (Int.tmod t (86400 : Int)) (60 : Int))]
                         25),
                        Ent.mk (Loc.blk b_1) (SObj.cells [SV.int IntKind.i64 y, SV.int IntKind.i64 m, SV.int IntKind.i64 d] 23)]
                       (SV.tuple
                        [SV.agg
                         [SV.int IntKind.i64 y, SV.int IntKind.i64 m, SV.int IntKind.i64 d,
                          SV.int IntKind.i64 (IntKind.wrap IntKind.i64 (Int.tdiv (Int.tmod t (86400 : Int)) (3600 : Int))),
                          SV.int IntKind.i64 (Int.tmod (IntKind.wrap IntKind.i64 (Int.tdiv (Int.tmod t (86400 : Int)) (60 : Int))) (60 : Int)),
                          SV.int IntKind.i64 (Int.tmod (Int.tmod t (86400 : Int)) (60 : Int))],
                         SV.int IntKind.i64 (0 : Int)])
        | false =>
         ∀ (b_1 : Nat),
          (b_1 = b_1 ∧ true = true ∧ 3 = 3 ∧ 3 ≤ 3) ∧
           (86400 : Int) ≠ (0 : Int) ∧
            (b_1 = b_1 ∧ 3 = 3) ∧
             (3600 : Int) ≠ (0 : Int) ∧
              (60 : Int) ≠ (0 : Int) ∧
               (60 : Int) ≠ (0 : Int) ∧
                (60 : Int) ≠ (0 : Int) ∧
                 (true = true ∧ true = true) ∧
                  (b = b ∧ true = true ∧ 6 = 6 ∧ 6 ≤ 6) ∧
                   (b = b ∧ 6 = 6) ∧
                    N
                     [Ent.mk (Loc.blk b)
                      (SObj.cells
                       [SV.int IntKind.i64 (0 : Int), SV.int IntKind.i64 (0 : Int), SV.int IntKind.i64 (0 : Int),
                        SV.int IntKind.i64 (IntKind.wrap IntKind.i64 (Int.tdiv (Int.tmod t (86400 : Int)) (3600 : Int))),
                        SV.int IntKind.i64 (Int.tmod (IntKind.wrap IntKind.i64 (Int.tdiv (Int.tmod t (86400 : Int)) (60 : Int))) (60 : Int)),
                        SV.int IntKind.i64 (Int.tmod (Int.tmod t (86400 : Int)) (60 : Int))]
                       25),
                      Ent.mk (Loc.blk b_1) (SObj.cells [SV.int IntKind.i64 (0 : Int), SV.int IntKind.i64 (0 : Int), SV.int IntKind.i64 (0 : Int)] 23)]
                     (SV.tuple
                      [SV.agg
                       [SV.int IntKind.i64 (0 : Int), SV.int IntKind.i64 (0 : Int), SV.int IntKind.i64 (0 : Int),
                        SV.int IntKind.i64 (IntKind.wrap IntKind.i64 (Int.tdiv (Int.tmod t (86400 : Int)) (3600 : Int))),
                        SV.int IntKind.i64 (Int.tmod (IntKind.wrap IntKind.i64 (Int.tdiv (Int.tmod t (86400 : Int)) (60 : Int))) (60 : Int)),
                        SV.int IntKind.i64 (Int.tmod (Int.tmod t (86400 : Int)) (60 : Int))],
                       SV.int IntKind.i64 (20 : Int)])) := by kernel_rfl


theorem unix_run (K : List Frm → Sy → Prop) (N : List Ent → SV → Prop) (y m d h mi s : Int) : (run Tryd.prog civ4 true [] K (retP Tryd.prog Tryd.f9.results.toList N) 600 [.code (bodyOf Tryd.f9)] ⟨padTo 45 [.agg [.int .i64 y, .int .i64 m, .int .i64 d, .int .i64 h, .int .i64 mi, .int .i64 s]], []⟩) = (
true = true ∧
 ∀ (b : Nat),
  (b = b ∧ 3 = 3) ∧
   true = true ∧
    match isB y m d with
    | true =>
     b = b ∧
      true = true ∧
       match !inB h (24 : Int) with
       | true =>
        N [Ent.mk (Loc.blk b) (SObj.cells [SV.int IntKind.i64 y, SV.int IntKind.i64 m, SV.int IntKind.i64 d, SV.int IntKind.i64 h, SV.int IntKind.i64 mi, SV.int IntKind.i64 s] 25)]
         (SV.tuple [SV.int IntKind.i64 (0 : Int), SV.int IntKind.i64 (20 : Int)])
       | false =>
        b = b ∧
         true = true ∧
          match !inB mi (60 : Int) with
          | true =>
           N
            [Ent.mk (Loc.blk b)
             (SObj.cells [SV.int IntKind.i64 y, SV.int IntKind.i64 m, SV.int IntKind.i64 d, SV.int IntKind.i64 h, SV.int IntKind.i64 mi, SV.int IntKind.i64 s] 25)]
            (SV.tuple [SV.int IntKind.i64 (0 : Int), SV.int IntKind.i64 (20 : Int)])
          | false =>
           b = b ∧
            true = true ∧
             match !inB s (60 : Int) with
             | true =>
              N
               [Ent.mk (Loc.blk b)
                (SObj.cells [SV.int IntKind.i64 y, SV.int IntKind.i64 m, SV.int IntKind.i64 d, SV.int IntKind.i64 h, SV.int IntKind.i64 mi, SV.int IntKind.i64 s] 25)]
               (SV.tuple [SV.int IntKind.i64 (0 : Int), SV.int IntKind.i64 (20 : Int)])
             | false =>
              b = b ∧
               b = b ∧
                b = b ∧
                 N
                  [Ent.mk (Loc.blk b)
                   (SObj.cells [SV.int IntKind.i64 y, SV.int IntKind.i64 m, SV.int IntKind.i64 d, SV.int IntKind.i64 h, SV.int IntKind.i64 mi, SV.int IntKind.i64 s] 25)]
                  (SV.tuple
                   [SV.int IntKind.i64
                    (IntKind.wrap IntKind.i64
                     (IntKind.wrap IntKind.i64 (daysI y m d * (86400 : Int)) +
                      IntKind.wrap IntKind.i64 (IntKind.wrap IntKind.i64 (IntKind.wrap IntKind.i64 (IntKind.wrap IntKind.i64 (h * (60 : Int)) + mi) * (60 : Int)) + s))),
                    SV.int IntKind.i64 (0 : Int)])
    | false =>
     N [Ent.mk (Loc.blk b) (SObj.cells [SV.int IntKind.i64 y, SV.int IntKind.i64 m, SV.int IntKind.i64 d, SV.int IntKind.i64 h, SV.int IntKind.i64 mi, SV.int IntKind.i64 s] 25)]
      (SV.tuple [SV.int IntKind.i64 (0 : Int), SV.int IntKind.i64 (20 : Int)])) := by kernel_rfl
end Go.Proofs.YtjnkfgigpapeaaaDoor

/- civil: Moment and Unix. -/
namespace Go.Proofs.YtjnkfgigpapeaaaDoor
open Go Go.RowKit

theorem moment_ok : CtrOk Tryd.prog 21 momentC := by
  intro args hs N h
  unfold momentC at h
  split at h
  · rename_i t
    obtain ⟨ht, h⟩ := h
    cases hr : decide (0 ≤ t) && decide (t < 7289654400) with
    | false =>
      rw [hr] at h
      refine Spec.pure (Cs := civ4) (kc := true) (ss := []) 600 34 civ4_ok hm Tryd.func21 (by kernel_rfl) (by kernel_rfl) rfl h fun K => ?_
      rw [moment_run]
      intro b
      simp only [Bool.and_eq_false_iff, decide_eq_false_iff_not] at hr
      cases h0 : decide (t < 0) with
      | true => simp
      | false =>
        simp only [decide_eq_false_iff_not] at h0
        have h1 : decide (IntKind.i64.wrap (t.tdiv 86400) ≥ 84371) = true := by
          have h2 : ¬ t < 7289654400 := by rcases hr with hr | hr <;> omega
          rw [Int.tdiv_eq_ediv_of_nonneg (by omega), IntWalk.i64_in _ (by omega)]
          simp; omega
        rw [h1]; simp
    | true =>
      rw [hr] at h
      simp only [Bool.and_eq_true, decide_eq_true_eq] at hr
      obtain ⟨hr0, hr1⟩ := hr
      refine Spec.lift (Φ := fun r => ∃ y m d, dateP (t / 86400) y m d ∧ r = .tuple [.agg [.int .i64 y, .int .i64 m, .int .i64 d, .int .i64 (t % 86400 / 3600), .int .i64 (t % 86400 / 60 % 60), .int .i64 (t % 86400 % 60)], .int .i64 0]) ?_ (by rintro _ ⟨y, m, d, hd, rfl⟩; exact h y m d hd)
      refine Spec.of_G 34 Tryd.func21 (c := bodyOf Tryd.f21) (by kernel_rfl) (by kernel_rfl) (by simp [lenN]) fun W F => ?_
      refine G_run (Cs := civ4) (kc := true) (ss := []) civ4_ok hm 600 ?_
      rw [moment_run]
      intro b
      have h0 : decide (t < 0) = false := by simp; omega
      have e1 : IntKind.i64.wrap (t.tdiv 86400) = t / 86400 := by rw [Int.tdiv_eq_ediv_of_nonneg hr0]; exact IntWalk.i64_in _ (by omega)
      have e2 : t.tmod 86400 = t % 86400 := Int.tmod_eq_emod_of_nonneg hr0
      have hq : 0 ≤ t % 86400 ∧ t % 86400 < 86400 := by omega
      have e3 : IntKind.i64.wrap ((t % 86400).tdiv 3600) = t % 86400 / 3600 := by rw [Int.tdiv_eq_ediv_of_nonneg hq.1]; exact IntWalk.i64_in _ (by omega)
      have e4 : IntKind.i64.wrap ((t % 86400).tdiv 60) = t % 86400 / 60 := by rw [Int.tdiv_eq_ediv_of_nonneg hq.1]; exact IntWalk.i64_in _ (by omega)
      have e5 : (t % 86400 / 60).tmod 60 = t % 86400 / 60 % 60 := Int.tmod_eq_emod_of_nonneg (by omega)
      have e6 : (t % 86400).tmod 60 = t % 86400 % 60 := Int.tmod_eq_emod_of_nonneg hq.1
      have h1 : decide (t / 86400 ≥ 84371) = false := by simp; omega
      have h2 : decide (0 ≤ t / 86400) = true := by simp; omega
      have h3 : decide (t / 86400 < 84371) = true := by simp; omega
      rw [e1, e2, e3, e4, e5, e6, h0, h1, h2, h3]
      refine ⟨by decide, rfl, by decide, by decide, rfl, fun y m d hd b1 => ?_⟩
      refine ⟨⟨rfl, rfl, rfl, by decide⟩, by decide, ⟨rfl, rfl⟩, by decide, by decide, by decide, by decide, ⟨rfl, rfl⟩, ⟨rfl, rfl, rfl, by decide⟩, ⟨rfl, rfl⟩, y, m, d, hd, rfl⟩
  · exact h.elim

theorem daysI_le {y m d : Int} (h : isB y m d = true) : 0 ≤ daysI y m d ∧ daysI y m d ≤ 90000 := by
  obtain ⟨d1, d2⟩ := isB_iff.1 h
  obtain ⟨y1, y2, m1, m2⟩ := lenI_pos d1 d2
  have h1 := beginsI_le y1 (by omega : y ≤ 2201)
  have h2 := lenI_le y m
  have h3 := cumI_le y (m - 1).toNat
  unfold daysI; omega

theorem inB_iff {n b : Int} : inB n b = true ↔ 0 ≤ n ∧ n < b := by simp [inB]

theorem unix_ok : CtrOk Tryd.prog 9 unixC := by
  intro args hs N h
  unfold unixC at h
  split at h
  · rename_i y m d hh mi s
    cases hr : isB y m d && (inB hh 24 && (inB mi 60 && inB s 60)) with
    | false =>
      rw [hr] at h
      refine Spec.pure (Cs := civ4) (kc := true) (ss := []) 600 45 civ4_ok hm Tryd.func9 (by kernel_rfl) (by kernel_rfl) rfl h fun K => ?_
      rw [unix_run]
      refine ⟨rfl, fun b => ⟨⟨rfl, rfl⟩, rfl, ?_⟩⟩
      cases h1 : isB y m d <;> cases h2 : inB hh 24 <;> cases h3 : inB mi 60 <;> cases h4 : inB s 60 <;> simp_all
    | true =>
      rw [hr] at h
      refine Spec.pure (Cs := civ4) (kc := true) (ss := []) 600 45 civ4_ok hm Tryd.func9 (by kernel_rfl) (by kernel_rfl) rfl h fun K => ?_
      rw [unix_run]
      simp only [Bool.and_eq_true] at hr
      obtain ⟨h1, h2, h3, h4⟩ := hr
      have hd := daysI_le h1
      have g2 := inB_iff.1 h2
      have g3 := inB_iff.1 h3
      have g4 := inB_iff.1 h4
      rw [h1, h2, h3, h4]
      refine ⟨rfl, fun b => ⟨⟨rfl, rfl⟩, rfl, rfl, rfl, rfl, rfl, rfl, rfl, rfl, rfl, rfl, ?_⟩⟩
      simp (disch := omega) only [IntWalk.i64_in]
  · exact h.elim

theorem civ5_ok : AllOk Tryd.prog civ5 := ⟨moment_ok, unix_ok, civ4_ok⟩
end Go.Proofs.YtjnkfgigpapeaaaDoor

/- The document's dates. -/
namespace Go.Proofs.YtjnkfgigpapeaaaDoor
open Go Go.RowKit
theorem leap2_ok : CtrOk Tryd.prog 52 leapC := by
  intro args hs N h
  unfold leapC at h
  split at h
  case h_2 => exact h.elim
  rename_i y
  refine Spec.pure (Cs := []) (kc := false) (ss := []) 600 16 trivial hm Tryd.func52 (by kernel_rfl) (by kernel_rfl) rfl h.2 fun K => ?_
  rw [leap2_run]
  have h0 := h.1
  unfold leapB
  refine ⟨by decide, ?_⟩
  rw [Int.tmod_eq_emod_of_nonneg h0, Int.tmod_eq_emod_of_nonneg h0, Int.tmod_eq_emod_of_nonneg h0]
  cases y % 4 == 0 <;> cases y % 100 != 0 <;> simp
theorem r2T1_ok : AllOk Tryd.prog r2T1 := ⟨leap2_ok, trivial⟩
theorem yd_ok : CtrOk Tryd.prog 38 yearDaysC := by
  intro args hs N h
  unfold yearDaysC at h
  split at h
  case h_2 => exact h.elim
  rename_i y
  refine Spec.pure (Cs := r2T1) (kc := false) (ss := []) 600 5 r2T1_ok hm Tryd.func38 (by kernel_rfl) (by kernel_rfl) rfl h.2 fun K => ?_
  rw [yd_run]
  unfold yearDaysI
  refine ⟨rfl, h.1, ?_⟩
  cases leapB y <;> rfl
theorem len2_ok : CtrOk Tryd.prog 39 lengthC2 := by
  intro args hs N h
  unfold lengthC2 at h
  split at h
  case h_2 => exact h.elim
  rename_i y m
  obtain ⟨⟨h1, h2, h3, h4⟩, h⟩ := h
  have hm : m = 1 ∨ m = 2 ∨ m = 3 ∨ m = 4 ∨ m = 5 ∨ m = 6 ∨ m = 7 ∨ m = 8 ∨ m = 9 ∨ m = 10 ∨ m = 11 ∨ m = 12 := by omega
  rcases hm with rfl | rfl | rfl | rfl | rfl | rfl | rfl | rfl | rfl | rfl | rfl | rfl
  · have e : lenI y 1 = 31 := by unfold lenI; rw [if_neg (by omega), if_neg (by omega)]; rfl
    rw [e] at h
    refine Spec.pure (Cs := r2T1) (kc := true) (ss := []) 600 16 r2T1_ok hm Tryd.func39 (by kernel_rfl) (by kernel_rfl) rfl h fun K => ?_
    rw [len2_1]
    exact ⟨⟨rfl, rfl⟩, fun b => ⟨⟨rfl, rfl, rfl, Nat.le_refl _⟩, ⟨by decide, by decide⟩, rfl, rfl⟩⟩
  · cases hl : leapB y with
    | true =>
      have e : lenI y 2 = 29 := by unfold lenI; rw [if_neg (by omega), if_pos rfl, hl]; rfl
      rw [e] at h
      refine Spec.pure (Cs := r2T1) (kc := true) (ss := []) 600 16 r2T1_ok hm Tryd.func39 (by kernel_rfl) (by kernel_rfl) rfl h fun K => ?_
      rw [len2_2, hl]
      exact ⟨⟨rfl, rfl⟩, fun b => ⟨⟨rfl, rfl, rfl, Nat.le_refl _⟩, rfl, by omega, rfl⟩⟩
    | false =>
      have e : lenI y 2 = 28 := by unfold lenI; rw [if_neg (by omega), if_pos rfl, hl]; rfl
      rw [e] at h
      refine Spec.pure (Cs := r2T1) (kc := true) (ss := []) 600 16 r2T1_ok hm Tryd.func39 (by kernel_rfl) (by kernel_rfl) rfl h fun K => ?_
      rw [len2_2, hl]
      exact ⟨⟨rfl, rfl⟩, fun b => ⟨⟨rfl, rfl, rfl, Nat.le_refl _⟩, rfl, by omega, ⟨by decide, by decide⟩, rfl, rfl⟩⟩
  · have e : lenI y 3 = 31 := by unfold lenI; rw [if_neg (by omega), if_neg (by omega)]; rfl
    rw [e] at h
    refine Spec.pure (Cs := r2T1) (kc := true) (ss := []) 600 16 r2T1_ok hm Tryd.func39 (by kernel_rfl) (by kernel_rfl) rfl h fun K => ?_
    rw [len2_3]
    exact ⟨⟨rfl, rfl⟩, fun b => ⟨⟨rfl, rfl, rfl, Nat.le_refl _⟩, ⟨by decide, by decide⟩, rfl, rfl⟩⟩
  · have e : lenI y 4 = 30 := by unfold lenI; rw [if_neg (by omega), if_neg (by omega)]; rfl
    rw [e] at h
    refine Spec.pure (Cs := r2T1) (kc := true) (ss := []) 600 16 r2T1_ok hm Tryd.func39 (by kernel_rfl) (by kernel_rfl) rfl h fun K => ?_
    rw [len2_4]
    exact ⟨⟨rfl, rfl⟩, fun b => ⟨⟨rfl, rfl, rfl, Nat.le_refl _⟩, ⟨by decide, by decide⟩, rfl, rfl⟩⟩
  · have e : lenI y 5 = 31 := by unfold lenI; rw [if_neg (by omega), if_neg (by omega)]; rfl
    rw [e] at h
    refine Spec.pure (Cs := r2T1) (kc := true) (ss := []) 600 16 r2T1_ok hm Tryd.func39 (by kernel_rfl) (by kernel_rfl) rfl h fun K => ?_
    rw [len2_5]
    exact ⟨⟨rfl, rfl⟩, fun b => ⟨⟨rfl, rfl, rfl, Nat.le_refl _⟩, ⟨by decide, by decide⟩, rfl, rfl⟩⟩
  · have e : lenI y 6 = 30 := by unfold lenI; rw [if_neg (by omega), if_neg (by omega)]; rfl
    rw [e] at h
    refine Spec.pure (Cs := r2T1) (kc := true) (ss := []) 600 16 r2T1_ok hm Tryd.func39 (by kernel_rfl) (by kernel_rfl) rfl h fun K => ?_
    rw [len2_6]
    exact ⟨⟨rfl, rfl⟩, fun b => ⟨⟨rfl, rfl, rfl, Nat.le_refl _⟩, ⟨by decide, by decide⟩, rfl, rfl⟩⟩
  · have e : lenI y 7 = 31 := by unfold lenI; rw [if_neg (by omega), if_neg (by omega)]; rfl
    rw [e] at h
    refine Spec.pure (Cs := r2T1) (kc := true) (ss := []) 600 16 r2T1_ok hm Tryd.func39 (by kernel_rfl) (by kernel_rfl) rfl h fun K => ?_
    rw [len2_7]
    exact ⟨⟨rfl, rfl⟩, fun b => ⟨⟨rfl, rfl, rfl, Nat.le_refl _⟩, ⟨by decide, by decide⟩, rfl, rfl⟩⟩
  · have e : lenI y 8 = 31 := by unfold lenI; rw [if_neg (by omega), if_neg (by omega)]; rfl
    rw [e] at h
    refine Spec.pure (Cs := r2T1) (kc := true) (ss := []) 600 16 r2T1_ok hm Tryd.func39 (by kernel_rfl) (by kernel_rfl) rfl h fun K => ?_
    rw [len2_8]
    exact ⟨⟨rfl, rfl⟩, fun b => ⟨⟨rfl, rfl, rfl, Nat.le_refl _⟩, ⟨by decide, by decide⟩, rfl, rfl⟩⟩
  · have e : lenI y 9 = 30 := by unfold lenI; rw [if_neg (by omega), if_neg (by omega)]; rfl
    rw [e] at h
    refine Spec.pure (Cs := r2T1) (kc := true) (ss := []) 600 16 r2T1_ok hm Tryd.func39 (by kernel_rfl) (by kernel_rfl) rfl h fun K => ?_
    rw [len2_9]
    exact ⟨⟨rfl, rfl⟩, fun b => ⟨⟨rfl, rfl, rfl, Nat.le_refl _⟩, ⟨by decide, by decide⟩, rfl, rfl⟩⟩
  · have e : lenI y 10 = 31 := by unfold lenI; rw [if_neg (by omega), if_neg (by omega)]; rfl
    rw [e] at h
    refine Spec.pure (Cs := r2T1) (kc := true) (ss := []) 600 16 r2T1_ok hm Tryd.func39 (by kernel_rfl) (by kernel_rfl) rfl h fun K => ?_
    rw [len2_10]
    exact ⟨⟨rfl, rfl⟩, fun b => ⟨⟨rfl, rfl, rfl, Nat.le_refl _⟩, ⟨by decide, by decide⟩, rfl, rfl⟩⟩
  · have e : lenI y 11 = 30 := by unfold lenI; rw [if_neg (by omega), if_neg (by omega)]; rfl
    rw [e] at h
    refine Spec.pure (Cs := r2T1) (kc := true) (ss := []) 600 16 r2T1_ok hm Tryd.func39 (by kernel_rfl) (by kernel_rfl) rfl h fun K => ?_
    rw [len2_11]
    exact ⟨⟨rfl, rfl⟩, fun b => ⟨⟨rfl, rfl, rfl, Nat.le_refl _⟩, ⟨by decide, by decide⟩, rfl, rfl⟩⟩
  · have e : lenI y 12 = 31 := by unfold lenI; rw [if_neg (by omega), if_neg (by omega)]; rfl
    rw [e] at h
    refine Spec.pure (Cs := r2T1) (kc := true) (ss := []) 600 16 r2T1_ok hm Tryd.func39 (by kernel_rfl) (by kernel_rfl) rfl h fun K => ?_
    rw [len2_12]
    exact ⟨⟨rfl, rfl⟩, fun b => ⟨⟨rfl, rfl, rfl, Nat.le_refl _⟩, ⟨by decide, by decide⟩, rfl, rfl⟩⟩
theorem is2_ok : CtrOk Tryd.prog 14 isC := by
  intro args hs N h
  unfold isC at h
  split at h
  case h_2 => exact h.elim
  rename_i y m d
  refine Spec.pure (Cs := [(39, lengthC2)]) (kc := true) (ss := []) 600 36 ⟨len2_ok, trivial⟩ hm Tryd.func14 (by kernel_rfl) (by kernel_rfl) rfl h fun K => ?_
  rw [is2_run]
  clear h
  refine ⟨rfl, fun b => ⟨rfl, ?_⟩⟩
  have hz : (y < 1970 ∨ y > 2200 ∨ m < 1 ∨ m > 12) → (decide (d ≥ 1) && decide (d ≤ lenI y m)) = false := fun hh => by
    unfold lenI; rw [if_pos hh]
    simp; omega
  unfold isB
  by_cases a1 : y ≥ 1970
  · by_cases a2 : y ≤ 2200
    · by_cases a3 : m ≥ 1
      · by_cases a4 : m ≤ 12
        · by_cases a5 : d ≥ 1
          · rw [decide_eq_true a1, decide_eq_true a2, decide_eq_true a3, decide_eq_true a4, decide_eq_true a5]
            exact ⟨rfl, rfl, rfl, rfl, rfl, rfl, rfl, rfl, ⟨a1, a2, a3, a4⟩, ⟨rfl, trivial⟩, rfl⟩
          · rw [decide_eq_true a1, decide_eq_true a2, decide_eq_true a3, decide_eq_true a4, decide_eq_false a5]
            exact ⟨rfl, rfl, rfl, rfl, ⟨rfl, trivial⟩, rfl⟩
        · rw [hz (by omega), decide_eq_true a1, decide_eq_true a2, decide_eq_true a3, decide_eq_false a4]
          exact ⟨rfl, rfl, rfl, ⟨rfl, trivial⟩, rfl⟩
      · rw [hz (by omega), decide_eq_true a1, decide_eq_true a2, decide_eq_false a3]
        exact ⟨rfl, rfl, ⟨rfl, trivial⟩, rfl⟩
    · rw [hz (by omega), decide_eq_true a1, decide_eq_false a2]
      exact ⟨rfl, ⟨rfl, trivial⟩, rfl⟩
  · rw [hz (by omega), decide_eq_false a1]
    exact ⟨⟨rfl, trivial⟩, rfl⟩
theorem r2T2_ok : AllOk Tryd.prog r2T2 := ⟨len2_ok, yd_ok, is2_ok, trivial⟩
theorem tmod7 (n : Int) : -7 < n.tmod 7 ∧ n.tmod 7 < 7 ∧ (n.tmod 7 + 7) % 7 = n % 7 := by
  have e0 : n.tmod 7 = if 0 ≤ n then n % 7 else -((-n) % 7) := by
    split
    · rename_i h; exact Int.tmod_eq_emod_of_nonneg h
    · rw [← Int.tmod_eq_emod_of_nonneg (a := -n) (by omega), Int.neg_tmod, Int.neg_neg]
  rw [e0]; split <;> omega
theorem wd_ok : CtrOk Tryd.prog 15 wdC := by
  intro args hs N h
  unfold wdC at h
  split at h
  case h_2 => exact h.elim
  rename_i n
  refine Spec.pure (Cs := []) (kc := false) (ss := []) 600 9 trivial hm Tryd.func15 (by kernel_rfl) (by kernel_rfl) rfl h.2 fun K => ?_
  rw [wd_run]
  refine ⟨by decide, by decide, by decide, ?_⟩
  obtain ⟨a1, a2, a3⟩ := tmod7 n
  rw [IntWalk.i64_in (n.tmod 7 + 7) (by omega), Int.tmod_eq_emod_of_nonneg (a := n.tmod 7 + 7) (by omega), a3, IntWalk.i64_in _ (by omega), Int.tmod_eq_emod_of_nonneg (by omega)]
  congr 1; omega
theorem wd2_ok : CtrOk Tryd.prog 16 wdC := by
  intro args hs N h
  unfold wdC at h
  split at h
  case h_2 => exact h.elim
  rename_i n
  refine Spec.pure (Cs := []) (kc := false) (ss := []) 600 9 trivial hm Tryd.func16 (by kernel_rfl) (by kernel_rfl) rfl h.2 fun K => ?_
  rw [wd2_run]
  refine ⟨by decide, by decide, by decide, ?_⟩
  obtain ⟨a1, a2, a3⟩ := tmod7 n
  obtain ⟨b1, b2, b3⟩ := tmod7 (n.tmod 7 + 3)
  rw [IntWalk.i64_in (n.tmod 7 + 3) (by omega), IntWalk.i64_in _ (by omega), Int.tmod_eq_emod_of_nonneg (by omega), b3]
  congr 1; omega
theorem im_ok : CtrOk Tryd.prog 40 isMomC := by
  intro args hs N h
  unfold isMomC at h
  split at h
  case h_2 => exact h.elim
  rename_i y m d hh mi s
  refine Spec.pure (Cs := r2T2) (kc := true) (ss := []) 600 36 r2T2_ok hm Tryd.func40 (by kernel_rfl) (by kernel_rfl) rfl h fun K => ?_
  rw [im_run]
  clear h
  have q1 : decide (hh ≤ 23) = decide (hh < 24) := by rw [decide_eq_decide]; omega
  have q2 : decide (mi ≤ 59) = decide (mi < 60) := by rw [decide_eq_decide]; omega
  have q3 : decide (s ≤ 59) = decide (s < 60) := by rw [decide_eq_decide]; omega
  refine ⟨rfl, fun b => ⟨⟨rfl, rfl⟩, rfl, ?_⟩⟩
  unfold isMomB inB
  rw [q1, q2, q3]
  cases isB y m d <;> cases decide (hh ≥ 0) <;> cases decide (hh < 24) <;> cases decide (mi ≥ 0) <;> cases decide (mi < 60) <;> cases decide (s ≥ 0) <;> cases decide (s < 60) <;> (repeat' first | exact rfl | apply And.intro | fail)
theorem begins_yd {y : Int} (h : 1 ≤ y) : beginsI (y + 1) = beginsI y + yearDaysI y := by
  rw [leap_step h]
  unfold yearDaysI
  cases leapB y <;> rfl
theorem days2_ok : CtrOk Tryd.prog 12 daysC := by
  intro args hs N h
  unfold daysC at h
  split at h
  case h_2 => exact h.elim
  rename_i y m d
  cases hb : isB y m d with
  | false =>
    rw [hb] at h
    refine Spec.pure (Cs := r2T2) (kc := true) (ss := []) 600 36 r2T2_ok hm Tryd.func12 (by kernel_rfl) (by kernel_rfl) rfl h fun K => ?_
    rw [days2_start, hb]
    exact ⟨rfl, fun b => ⟨⟨rfl, rfl⟩, rfl, rfl⟩⟩
  | true =>
    rw [hb] at h
    refine Spec.pureG 36 Tryd.func12 (by kernel_rfl) (by kernel_rfl) rfl h fun W F => ?_
    refine G_run (Cs := r2T2) (kc := true) (ss := []) r2T2_ok hm 600 ?_
    rw [days2_start, hb]
    obtain ⟨d1, d2⟩ := isB_iff.1 hb
    obtain ⟨y1, y2, m1, m2⟩ := lenI_pos d1 d2
    have hd3 := lenI_le y m
    have e0 : IntKind.i64.wrap (d - 1) = d - 1 := IntWalk.i64_in _ (by omega)
    rw [e0]
    refine ⟨rfl, fun b => ⟨⟨rfl, rfl⟩, rfl, rfl, ?_⟩⟩
    refine G_loopAt (ι := Nat) [] (bodyOf Tryd.f12) [1, 1, 1, 0, 1, 0] 36 (fun k => [(1, .ptr 0 b 0), (2, .int .i64 0), (3, .int .i64 0), (4, .int .i64 (d - 1 + beginsI (1970 + k))), (5, .int .i64 (1970 + k))])
      (fun _ => [⟨.blk b, .cells [.int .i64 y, .int .i64 m, .int .i64 d] 23⟩]) (fun k => (1970 : Int) + k ≤ y) (fun k => 300 - k) 0 (by kernel_rfl) (fun J => by kernel_rfl) (by simpa using y1) rfl ?_ (fun _ h => h) ?_
    · have h70 : beginsI 1970 = 0 := by decide
      simp [liveOk, nth, den, h70]
    intro k hk u
    simp only [List.nil_append, List.cons_append]
    refine G_run (Cs := r2T2) (kc := true) (ss := []) r2T2_ok hm 600 ?_
    rw [days2_l1]
    have hb1 := beginsI_le (y := 1970 + k) (by omega) (by omega)
    have hb2 := beginsI_le (y := 1970 + k + 1) (by omega) (by omega)
    have hby := begins_yd (y := 1970 + k) (by omega)
    have e1 : IntKind.i64.wrap (d - 1 + beginsI (1970 + k) + yearDaysI (1970 + k)) = d - 1 + beginsI (1970 + k + 1) := by rw [hby, ← Int.add_assoc]; exact IntWalk.i64_in _ (by omega)
    have e2 : IntKind.i64.wrap (1970 + (k : Int) + 1) = 1970 + (k : Int) + 1 := IntWalk.i64_in _ (by omega)
    rw [e1, e2]
    have e3 : (1970 : Int) + ((k + 1 : Nat) : Int) = 1970 + k + 1 := by push_cast; omega
    refine ⟨rfl, ?_⟩
    cases hlt : decide (1970 + (k : Int) < y) with
    | true =>
      simp only [decide_eq_true_eq] at hlt
      refine ⟨rfl, by omega, G_back (k + 1) (by rw [e3]; omega) (by omega) rfl ⟨rfl, rfl, rfl, ?_, ?_, trivial⟩ (fun _ h => h)⟩
      · show Value.int .i64 _ = Value.int .i64 _; rw [e3]
      · show Value.int .i64 _ = Value.int .i64 _; rw [e3]
    | false =>
      simp only [decide_eq_false_iff_not] at hlt
      have hky : 1970 + (k : Int) = y := by omega
      rw [hky] at hb1 ⊢
      refine G_loopAt (ι := Nat) [] (bodyOf Tryd.f12) [1, 1, 1, 1, 0, 1, 0] 36 (fun k => [(1, .ptr 0 b 0), (2, .int .i64 0), (3, .int .i64 0), (4, .int .i64 (d - 1 + beginsI y + cumI y k)), (6, .int .i64 (k + 1))])
        (fun _ => [⟨.blk b, .cells [.int .i64 y, .int .i64 m, .int .i64 d] 23⟩]) (fun k => (k : Int) + 1 ≤ m) (fun k => 12 - k) 0 (by kernel_rfl) (fun J => by kernel_rfl) (by simpa using m1) rfl ?_ (fun _ h => h) ?_
      · simp [liveOk, nth, den, cumI]
      intro k hk u
      simp only [List.nil_append, List.cons_append]
      refine G_run (Cs := r2T2) (kc := true) (ss := []) r2T2_ok hm 600 ?_
      rw [days2_l2]
      have hc := cumI_le y k
      have hl := lenI_le y ((k : Int) + 1)
      have e3 : IntKind.i64.wrap (d - 1 + beginsI y + cumI y k + lenI y ((k : Int) + 1)) = d - 1 + beginsI y + cumI y k + lenI y ((k : Int) + 1) := IntWalk.i64_in _ (by omega)
      have e4 : IntKind.i64.wrap ((k : Int) + 1 + 1) = (k : Int) + 1 + 1 := IntWalk.i64_in _ (by omega)
      rw [e3, e4]
      refine ⟨rfl, ?_⟩
      cases hlt : decide ((k : Int) + 1 < m) with
      | true =>
        simp only [decide_eq_true_eq] at hlt
        refine ⟨rfl, rfl, ⟨y1, y2, by omega, by omega⟩, G_back (k + 1) (by push_cast; omega) (by show 12 - (k + 1) < 12 - k; omega) rfl ?_ (fun _ h => h)⟩
        simp [liveOk, nth, den, cumI, Int.add_assoc]
      | false =>
        simp only [decide_eq_false_iff_not] at hlt
        have e5 : (m - 1).toNat = k := by omega
        have e6 : daysI y m d = d - 1 + beginsI y + cumI y k := by simp only [daysI, e5]; omega
        show SV.tuple _ = SV.tuple _
        rw [e6]
theorem date2_ok : CtrOk Tryd.prog 19 dateC2 := by
  intro args hs N h
  unfold dateC2 at h
  split at h
  case h_2 => exact h.elim
  rename_i n
  obtain ⟨hmax, h⟩ := h
  cases h0 : decide (n < 0) with
  | true =>
    simp only [decide_eq_true_eq] at h0
    have hr : (decide (0 ≤ n) && decide (n < 84371)) = false := by simp; omega
    rw [hr] at h
    refine Spec.pure (Cs := r2T2) (kc := true) (ss := []) 600 39 r2T2_ok hm Tryd.func19 (by kernel_rfl) (by kernel_rfl) rfl h fun K => ?_
    rw [date2_start, decide_eq_true h0]
    exact fun b => ⟨⟨rfl, rfl⟩, ⟨rfl, rfl, rfl, Nat.le_refl _⟩, ⟨rfl, rfl⟩, rfl⟩
  | false =>
    simp only [decide_eq_false_iff_not] at h0
    refine Spec.lift (Φ := fun r => (n < 84371 ∧ ∃ y m d, dateP n y m d ∧ r = .tuple [.agg [.int .i64 y, .int .i64 m, .int .i64 d], .int .i64 0]) ∨ (¬ n < 84371 ∧ r = .tuple [.agg [.int .i64 0, .int .i64 0, .int .i64 0], .int .i64 20])) ?_ ?_
    · refine Spec.of_G 39 Tryd.func19 (c := bodyOf Tryd.f19) (by kernel_rfl) (by kernel_rfl) (by simp [lenN]) fun W F => ?_
      refine G_run (Cs := r2T2) (kc := true) (ss := []) r2T2_ok hm 600 ?_
      rw [date2_start, decide_eq_false h0]
      intro b
      refine G_loopAt (ι := Nat) [] (bodyOf Tryd.f19) [1, 1, 0, 1, 0] 39 (fun k => [(0, .int .i64 (n - beginsI (1970 + k))), (2, .ptr 0 b 0), (3, .int .i64 0), (4, .int .i64 (1970 + k))])
        (fun _ => [⟨.blk b, .cells [.int .i64 0, .int .i64 0, .int .i64 0] 23⟩]) (fun k => k ≤ 231 ∧ beginsI (1970 + k) ≤ n) (fun k => 300 - k) 0 (by kernel_rfl) (fun J => by kernel_rfl) ?_ rfl ?_ (fun _ h => h) ?_
      · have : beginsI (1970 + ((0 : Nat) : Int)) = 0 := by decide
        rw [this]; exact ⟨Nat.zero_le _, by omega⟩
      · have h70 : beginsI 1970 = 0 := by decide
        simp [liveOk, nth, den, h70]
      rintro k ⟨hk, hbk⟩ u
      simp only [List.nil_append, List.cons_append]
      refine G_run (Cs := r2T2) (kc := true) (ss := []) r2T2_ok hm 600 ?_
      rw [date2_l1]
      have hb1 := beginsI_le (y := 1970 + k) (by omega) (by omega)
      have hby := begins_yd (y := 1970 + k) (by omega)
      have hyd : 365 ≤ yearDaysI (1970 + k) ∧ yearDaysI (1970 + k) ≤ 366 := by unfold yearDaysI; cases leapB (1970 + k) <;> decide
      have e2 : IntKind.i64.wrap (1970 + (k : Int) + 1) = 1970 + (k : Int) + 1 := IntWalk.i64_in _ (by omega)
      rw [e2]
      have e3 : (1970 : Int) + ((k + 1 : Nat) : Int) = 1970 + k + 1 := by push_cast; omega
      cases hk2 : decide (1970 + (k : Int) ≤ 2200) with
      | false =>
        simp only [decide_eq_false_iff_not] at hk2
        have hk3 : k = 231 := by omega
        subst hk3
        have : beginsI (1970 + ((231 : Nat) : Int)) = 84371 := by decide
        exact ⟨⟨rfl, rfl⟩, ⟨rfl, rfl, rfl, Nat.le_refl _⟩, ⟨rfl, rfl⟩, .inr ⟨by omega, rfl⟩⟩
      | true =>
        simp only [decide_eq_true_eq] at hk2
        refine ⟨rfl, by omega, ?_⟩
        cases hge : decide (n - beginsI (1970 + k) ≥ yearDaysI (1970 + k)) with
        | true =>
          simp only [decide_eq_true_eq] at hge
          have e1 : n - beginsI (1970 + k) - yearDaysI (1970 + k) = n - beginsI (1970 + k + 1) := by rw [hby]; omega
          rw [e1]
          refine ⟨rfl, by omega, ?_⟩
          refine G_back (k + 1) ⟨by omega, by rw [e3, hby]; omega⟩ (by omega) rfl ⟨?_, rfl, rfl, ?_, trivial⟩ (fun _ h => h)
          · show Value.int .i64 (IntKind.i64.wrap _) = Value.int .i64 _
            rw [e3, IntWalk.i64_in _ (by rw [hby]; omega)]
          · show Value.int .i64 _ = Value.int .i64 _; rw [e3]
        | false =>
          simp only [decide_eq_false_iff_not, Int.not_le, ge_iff_le] at hge
          have hy1 : (1970 : Int) ≤ 1970 + k := by omega
          generalize hy : 1970 + (k : Int) = y at *
          have hlt : n - beginsI y < cumI y 12 := by
            have := begins_next (y := y) (by omega) hk2
            omega
          have hn : n < 84371 := by
            have h1 := begins_next (y := y) (by omega) hk2
            have h2 := beginsI_le (y := y + 1) (by omega) (by omega)
            omega
          refine G_loopAt (ι := Nat) [(Back W F 39 (fun k : Nat => [(0, .int .i64 (n - beginsI (1970 + k))), (2, .ptr 0 b 0), (3, .int .i64 0), (4, .int .i64 (1970 + k))]) (fun _ => [⟨.blk b, .cells [.int .i64 0, .int .i64 0, .int .i64 0] 23⟩]) (fun k => k ≤ 231 ∧ beginsI (1970 + k) ≤ n) (fun k => 300 - k) (300 - k))] (bodyOf Tryd.f19) [1, 1, 0, 1, 0, 0, 1, 0, 0, 1, 1, 0, 0] 39 (fun j => [(0, .int .i64 (n - beginsI y - cumI y j)), (2, .ptr 0 b 0), (3, .int .i64 0), (4, .int .i64 y), (5, .int .i64 (j + 1))])
            (fun j => [⟨.blk b, .cells [.int .i64 0, .int .i64 0, .int .i64 0] 23⟩]) (fun j => cumI y j ≤ n - beginsI y ∧ j ≤ 11) (fun j => 12 - j) 0 (by kernel_rfl) (fun J => by kernel_rfl) ⟨by simp only [cumI]; omega, by decide⟩ rfl ?_ (fun _ h => h) ?_
          · simp [liveOk, nth, den, cumI]
          rintro j ⟨hj, hj2⟩ u
          simp only [List.nil_append, List.cons_append]
          refine G_run (Cs := r2T2) (kc := true) (ss := []) r2T2_ok hm 600 ?_
          rw [date2_l2]
          have hc := cumI_le y j
          have hl := lenI_le y ((j : Int) + 1)
          have e5 : IntKind.i64.wrap (n - beginsI y - cumI y j - lenI y ((j : Int) + 1)) = n - beginsI y - cumI y j - lenI y ((j : Int) + 1) := IntWalk.i64_in _ (by omega)
          have e6 : IntKind.i64.wrap ((j : Int) + 1 + 1) = (j : Int) + 1 + 1 := IntWalk.i64_in _ (by omega)
          have e7 : IntKind.i64.wrap (n - beginsI y - cumI y j + 1) = n - beginsI y - cumI y j + 1 := IntWalk.i64_in _ (by omega)
          rw [e5, e6, e7]
          refine ⟨rfl, ⟨by omega, hk2, by omega, by omega⟩, ?_⟩
          cases hlt2 : decide (n - beginsI y - cumI y j ≥ lenI y ((j : Int) + 1)) with
          | true =>
            simp only [decide_eq_true_eq] at hlt2
            have hstep : cumI y (j + 1) = cumI y j + lenI y ((j : Int) + 1) := rfl
            have hj3 : j + 1 ≤ 11 := by
              rcases Nat.lt_or_ge j 11 with h3 | h3
              · omega
              · have : j = 11 := by omega
                subst this
                have : cumI y 12 = cumI y 11 + lenI y ((11 : Nat) + 1) := rfl
                omega
            refine ⟨rfl, ⟨by omega, hk2, by omega, by omega⟩, G_back (j + 1) ⟨by rw [hstep]; omega, hj3⟩ ?_ rfl ?_ (fun _ h => h)⟩
            · show 12 - (j + 1) < 12 - j; omega
            · have : n - beginsI y - cumI y (j + 1) = n - beginsI y - cumI y j - lenI y ((j : Int) + 1) := by rw [hstep]; omega
              simp [liveOk, nth, den, this]
          | false =>
            simp only [decide_eq_false_iff_not, Int.not_le, ge_iff_le] at hlt2
            refine ⟨⟨rfl, rfl⟩, ⟨rfl, rfl, rfl, Nat.le_refl _⟩, ⟨rfl, rfl⟩, .inl ⟨hn, y, (j : Int) + 1, n - beginsI y - cumI y j + 1, ?_, rfl⟩⟩
            refine ⟨by omega, hk2, by omega, by omega, by omega, by omega, ?_⟩
            have : ((j : Int) + 1 - 1).toNat = j := by omega
            simp only [daysI, this]; omega
    · rintro r (⟨hn, y, m, d, hd, rfl⟩ | ⟨hn, rfl⟩)
      · have hr : (decide (0 ≤ n) && decide (n < 84371)) = true := by simp; omega
        rw [hr] at h
        exact h y m d hd
      · have hr : (decide (0 ≤ n) && decide (n < 84371)) = false := by simp; omega
        rw [hr] at h
        exact h
end Go.Proofs.YtjnkfgigpapeaaaDoor

/- Layings of the kit's contracts for slices.Sorted and maps.Keys at this program, in plain words. -/
namespace Go.Proofs.YtjnkfgigpapeaaaDoor
open Go.Shelf
def laysItoa_ren : Go.Shelf.Ren := ⟨fun | 171 => 34 | 243 => 49 | 246 => 61 | 283 => 68 | 284 => 69 | 285 => 70 | 286 => 71 | 129 => 77 | 317 => 76 | 318 => 78 | 319 => 79 | 320 => 80 | 337 => 84 | 338 => 85 | n => n, fun | 3 => 3 | 9 => 9 | 2 => 2 | 4 => 4 | 171 => 94 | 0 => 0 | 53 => 92 | 37 => 55 | 5 => 5 | 173 => 97 | 212 => 101 | 51 => 102 | 20 => 20 | 213 => 103 | 46 => 104 | 232 => 110 | 233 => 111 | n => n, fun | 17 => 1 | 18 => 2 | 19 => 3 | n => n⟩
theorem laysItoa : Go.Proofs.LaysM.n171 Tryd.prog laysItoa_ren := {
  mixed := by kernel_rfl
  f129 := Tryd.func77.trans (congrArg some (by kernel_rfl))
  f171 := Tryd.func34.trans (congrArg some (by kernel_rfl))
  f243 := Tryd.func49.trans (congrArg some (by kernel_rfl))
  f246 := Tryd.func61.trans (congrArg some (by kernel_rfl))
  f283 := Tryd.func68.trans (congrArg some (by kernel_rfl))
  f284 := Tryd.func69.trans (congrArg some (by kernel_rfl))
  f285 := Tryd.func70.trans (congrArg some (by kernel_rfl))
  f286 := Tryd.func71.trans (congrArg some (by kernel_rfl))
  f317 := Tryd.func76.trans (congrArg some (by kernel_rfl))
  f318 := Tryd.func78.trans (congrArg some (by kernel_rfl))
  f319 := Tryd.func79.trans (congrArg some (by kernel_rfl))
  f320 := Tryd.func80.trans (congrArg some (by kernel_rfl))
  f337 := Tryd.func84.trans (congrArg some (by kernel_rfl))
  f338 := Tryd.func85.trans (congrArg some (by kernel_rfl))
  t0 := Tryd.underlying0
  a0 := Tryd.isAgg0
  z0 := Tryd.sizeOf0
  v0 := Tryd.zeroValue0
  t2 := Tryd.underlying2
  a2 := Tryd.isAgg2
  z2 := Tryd.sizeOf2
  v2 := Tryd.zeroValue2
  t3 := Tryd.underlying3
  a3 := Tryd.isAgg3
  z3 := Tryd.sizeOf3
  v3 := Tryd.zeroValue3
  t4 := Tryd.underlying4
  a4 := Tryd.isAgg4
  z4 := Tryd.sizeOf4
  v4 := Tryd.zeroValue4
  t5 := Tryd.underlying5
  a5 := Tryd.isAgg5
  z5 := Tryd.sizeOf5
  v5 := Tryd.zeroValue5
  t9 := Tryd.underlying9
  a9 := Tryd.isAgg9
  z9 := Tryd.sizeOf9
  v9 := Tryd.zeroValue9
  t20 := Tryd.underlying20
  a20 := Tryd.isAgg20
  z20 := Tryd.sizeOf20
  v20 := Tryd.zeroValue20
  t37 := Tryd.underlying55
  a37 := Tryd.isAgg55
  z37 := Tryd.sizeOf55
  v37 := Tryd.zeroValue55
  t46 := Tryd.underlying104
  a46 := Tryd.isAgg104
  z46 := Tryd.sizeOf104
  v46 := Tryd.zeroValue104
  t51 := Tryd.underlying102
  a51 := Tryd.isAgg102
  z51 := Tryd.sizeOf102
  v51 := Tryd.zeroValue102
  t53 := Tryd.underlying92
  a53 := Tryd.isAgg92
  z53 := Tryd.sizeOf92
  v53 := Tryd.zeroValue92
  t171 := Tryd.underlying94
  a171 := Tryd.isAgg94
  z171 := Tryd.sizeOf94
  v171 := Tryd.zeroValue94
  t173 := Tryd.underlying97
  a173 := Tryd.isAgg97
  z173 := Tryd.sizeOf97
  v173 := Tryd.zeroValue97
  t212 := Tryd.underlying101
  a212 := Tryd.isAgg101
  z212 := Tryd.sizeOf101
  v212 := Tryd.zeroValue101
  t213 := Tryd.underlying103
  a213 := Tryd.isAgg103
  z213 := Tryd.sizeOf103
  t232 := Tryd.underlying110
  a232 := Tryd.isAgg110
  z232 := Tryd.sizeOf110
  v232 := Tryd.zeroValue110
  t233 := Tryd.underlying111
  a233 := Tryd.isAgg111
  z233 := Tryd.sizeOf111
  v233 := Tryd.zeroValue111
  g17 := by kernel_rfl
  g18 := by kernel_rfl
  g19 := by kernel_rfl
  i0 := by kernel_rfl
  i2 := by kernel_rfl
  i3 := by kernel_rfl
  i4 := by kernel_rfl
  i5 := by kernel_rfl
  i9 := by kernel_rfl
  i20 := by kernel_rfl
  i37 := by kernel_rfl
  i46 := by kernel_rfl
  i51 := by kernel_rfl
  i53 := by kernel_rfl
  i171 := by kernel_rfl
  i173 := by kernel_rfl
  i212 := by kernel_rfl
  i232 := by kernel_rfl
  i233 := by kernel_rfl
  m17 := by kernel_rfl
  m18 := by kernel_rfl
  m19 := by kernel_rfl }
end Go.Proofs.YtjnkfgigpapeaaaDoor

