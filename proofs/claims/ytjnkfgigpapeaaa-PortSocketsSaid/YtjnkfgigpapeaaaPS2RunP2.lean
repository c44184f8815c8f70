import Derived.Test.YtjnkfgigpapeaaaPSC
import Derived.Test.YtjnkfgigpapeaaaPSRun
import Derived.Test.YtjnkfgigpapeaaaTab
namespace Go.Proofs.Ytjnkfgigpapeaaa
set_option linter.unusedVariables false
open Go Go.RowKit
set_option maxHeartbeats 0
set_option maxRecDepth 100000
set_option maxRecDepth 100000

theorem ps_a2 (K : List Frm → Sy → Prop) (N : List Ent → SV → Prop) (J : Act → World → Prop) (u : Nat → Value) (c0 : Ch) (cap : Nat) (ao : Option Addr) (bs : List Int) (bn b1 b2 q0 q1 q2 bw : Nat) (x y z : PSL) (i next last : Int) : (run Try.prog port5 false [24] K (retP Try.prog Try.f6.results.toList N) 1500 (frmR [J] (bodyOf Try.f6) 18) ⟨mkT u 144 0 [(0, .vec 0 ao bs.length cap), (2, .bool false), (3, .ptr 1 bn 0), (4, .ptr 3 b2 0), (6, .ptr 7 bw 0), (7, .int .i64 next), (8, .int .i64 i), (9, .int .i64 2)], psHeap c0 ao bs cap bn b1 b2 q0 q1 q2 bw x y z last⟩) = (
(ao = ao ∧ cap = cap ∧ List.length bs = List.length bs ∧ (0 : Int) ≤ i ∧ i < (↑(List.length bs) : Int)) ∧
 (Addr.blkD ao = Addr.blkD ao ∧ Addr.offD ao = Addr.offD ao ∧ 1 = 1 ∧ Int.toNat i < List.length bs) ∧
  (3 : Int) ≠ (0 : Int) ∧
   (2 : Int) ≠ (0 : Int) ∧
    match Int.tmod (IntKind.wrap IntKind.u8 (Int.tdiv (List.getD bs (Int.toNat i) (0 : Int)) (3 : Int))) (2 : Int) == (0 : Int) with
    | true =>
     ((0 : Int) ≤ (2 : Int) ∧ (2 : Int) < (↑3 : Int)) ∧
      bw = bw ∧
       match decide ((↑(List.length z.1) : Int) < (16 : Int)) with
       | true =>
        (((0 : Int) ≤ (2 : Int) ∧ (2 : Int) < (↑3 : Int)) ∧
         bn = bn ∧
          ((0 : Int) ≤ (2 : Int) ∧ (2 : Int) < (↑3 : Int)) ∧
           bn = bn ∧
            true = true ∧
             b2 = b2 ∧
              (b1 = b1 ∧ @none IntKind = @none IntKind ∧ @none IntKind = @none IntKind) ∧
               b2 = b2 ∧
                (true = true ∧ true = true) ∧
                 true = true ∧
                  true = true ∧
                   ∀ (b : Nat),
                    q2 = q2 ∧
                     match decide ((↑(List.length z.cs) : Int) ≥ (16 : Int)) with
                     | true =>
                      N
                       [Ent.mk (Loc.sl ao cap) (SObj.roL c0 1 encByte bs (0 : Int)),
                        Ent.mk (Loc.blk bn)
                         (SObj.cells [SV.str (ByteArray.mk #[(97 : UInt8)]), SV.str (ByteArray.mk #[(98 : UInt8)]), SV.str (ByteArray.mk #[(99 : UInt8)])] (47 : TypeId)),
                        Ent.mk (Loc.blk b1)
                         (SObj.mapV (@none IntKind)
                          [(Key.s (ByteArray.mk #[(97 : UInt8)]), SV.ptr 4 q0 0), (Key.s (ByteArray.mk #[(98 : UInt8)]), SV.ptr 5 q1 0),
                           (Key.s (ByteArray.mk #[(99 : UInt8)]), SV.ptr 6 q2 0)]),
                        Ent.mk (Loc.blk b2) (SObj.cells [SV.map 2 b1, SV.raw (Value.slice (@none Addr) 0 0), SV.int IntKind.i64 last] (120 : TypeId)),
                        Ent.mk (Loc.blk q0) (SObj.cells [SV.vec 11 x.ao2 (List.length x.cs) x.4] (125 : TypeId)),
                        Ent.mk (Loc.blk q1) (SObj.cells [SV.vec 12 y.ao2 (List.length y.cs) y.4] (125 : TypeId)),
                        Ent.mk (Loc.blk q2) (SObj.cells [SV.vec 13 z.ao2 (List.length z.cs) z.4] (125 : TypeId)),
                        Ent.mk (Loc.blk bw)
                         (SObj.cells
                          [SV.vec 8 x.ao1 (List.length x.1) x.3, SV.vec 9 y.ao1 (List.length y.1) y.3, SV.vec 10 z.ao1 (List.length z.1) z.3]
                          (49 : TypeId)),
                        Ent.mk (Loc.sl x.ao1 x.3) (SObj.vecL (3 : TypeId) 1 encInt x.1 (0 : Int)),
                        Ent.mk (Loc.sl y.ao1 y.3) (SObj.vecL (3 : TypeId) 1 encInt y.1 (0 : Int)),
                        Ent.mk (Loc.sl z.ao1 z.3) (SObj.vecL (3 : TypeId) 1 encInt z.1 (0 : Int)),
                        Ent.mk (Loc.sl x.ao2 x.4) (SObj.vecL (52 : TypeId) 2 encDg x.cs ((0 : Int), ByteArray.empty)),
                        Ent.mk (Loc.sl y.ao2 y.4) (SObj.vecL (52 : TypeId) 2 encDg y.cs ((0 : Int), ByteArray.empty)),
                        Ent.mk (Loc.sl z.ao2 z.4) (SObj.vecL (52 : TypeId) 2 encDg z.cs ((0 : Int), ByteArray.empty)),
                        Ent.mk (Loc.blk b) (SObj.cells [SV.int IntKind.i64 (IntKind.wrap IntKind.i64 (last + (1 : Int))), SV.str (ByteArray.mk #[(99 : UInt8)])] 52)]
                       (SV.bool false)
                     | false =>
                      q2 = q2 ∧
                       (b = b ∧ 2 = 2) ∧
                        (true = true ∧ 2 = 2 ∧ 0 < 2 ∧ 2 ≤ 16777216) ∧
                         ∀ (b_1 : Nat),
                          (Ent.mk (Loc.sl ao cap) (SObj.roL c0 1 encByte bs (0 : Int)) = Ent.mk (Loc.sl ao cap) (SObj.roL c0 1 encByte bs (0 : Int)) ∧
                           Ent.mk (Loc.blk bn)
                            (SObj.cells [SV.str (ByteArray.mk #[(97 : UInt8)]), SV.str (ByteArray.mk #[(98 : UInt8)]), SV.str (ByteArray.mk #[(99 : UInt8)])]
                             (47 : TypeId)) =
                            Ent.mk (Loc.blk bn)
                             (SObj.cells [SV.str (ByteArray.mk #[(97 : UInt8)]), SV.str (ByteArray.mk #[(98 : UInt8)]), SV.str (ByteArray.mk #[(99 : UInt8)])]
                              (47 : TypeId)) ∧
                            Ent.mk (Loc.blk b1)
                             (SObj.mapV (@none IntKind)
                              [(Key.s (ByteArray.mk #[(97 : UInt8)]), SV.ptr 4 q0 0),
                               (Key.s (ByteArray.mk #[(98 : UInt8)]), SV.ptr 5 q1 0),
                               (Key.s (ByteArray.mk #[(99 : UInt8)]), SV.ptr 6 q2 0)]) =
                             Ent.mk (Loc.blk b1)
                              (SObj.mapV (@none IntKind)
                               [(Key.s (ByteArray.mk #[(97 : UInt8)]), SV.ptr 4 q0 0),
                                (Key.s (ByteArray.mk #[(98 : UInt8)]), SV.ptr 5 q1 0),
                                (Key.s (ByteArray.mk #[(99 : UInt8)]), SV.ptr 6 q2 0)]) ∧
                             Ent.mk (Loc.blk b2)
                              (SObj.cells [SV.map 2 b1, SV.raw (Value.slice (@none Addr) 0 0), SV.int IntKind.i64 last] (120 : TypeId)) =
                              Ent.mk (Loc.blk b2)
                               (SObj.cells [SV.map 2 b1, SV.raw (Value.slice (@none Addr) 0 0), SV.int IntKind.i64 last] (120 : TypeId)) ∧
                              Ent.mk (Loc.blk q0) (SObj.cells [SV.vec 11 x.ao2 (List.length x.cs) x.4] (125 : TypeId)) =
                               Ent.mk (Loc.blk q0) (SObj.cells [SV.vec 11 x.ao2 (List.length x.cs) x.4] (125 : TypeId)) ∧
                               Ent.mk (Loc.blk q1) (SObj.cells [SV.vec 12 y.ao2 (List.length y.cs) y.4] (125 : TypeId)) =
                                Ent.mk (Loc.blk q1) (SObj.cells [SV.vec 12 y.ao2 (List.length y.cs) y.4] (125 : TypeId)) ∧
                                Ent.mk (Loc.blk q2) (SObj.cells [SV.vec 13 z.ao2 (List.length z.cs) z.4] (125 : TypeId)) =
                                 Ent.mk (Loc.blk q2) (SObj.cells [SV.vec 13 z.ao2 (List.length z.cs) z.4] (125 : TypeId)) ∧
                                 Ent.mk (Loc.blk bw)
                                  (SObj.cells
                                   [SV.vec 8 x.ao1 (List.length x.1) x.3, SV.vec 9 y.ao1 (List.length y.1) y.3,
                                    SV.vec 10 z.ao1 (List.length z.1) z.3]
                                   (49 : TypeId)) =
                                  Ent.mk (Loc.blk bw)
                                   (SObj.cells
                                    [SV.vec 8 x.ao1 (List.length x.1) x.3, SV.vec 9 y.ao1 (List.length y.1) y.3,
                                     SV.vec 10 z.ao1 (List.length z.1) z.3]
                                    (49 : TypeId)) ∧
                                  Ent.mk (Loc.sl x.ao1 x.3) (SObj.vecL (3 : TypeId) 1 encInt x.1 (0 : Int)) =
                                   Ent.mk (Loc.sl x.ao1 x.3) (SObj.vecL (3 : TypeId) 1 encInt x.1 (0 : Int)) ∧
                                   Ent.mk (Loc.sl y.ao1 y.3) (SObj.vecL (3 : TypeId) 1 encInt y.1 (0 : Int)) =
                                    Ent.mk (Loc.sl y.ao1 y.3) (SObj.vecL (3 : TypeId) 1 encInt y.1 (0 : Int)) ∧
                                    Ent.mk (Loc.sl z.ao1 z.3) (SObj.vecL (3 : TypeId) 1 encInt z.1 (0 : Int)) =
                                     Ent.mk (Loc.sl z.ao1 z.3) (SObj.vecL (3 : TypeId) 1 encInt z.1 (0 : Int)) ∧
                                     Ent.mk (Loc.sl x.ao2 x.4) (SObj.vecL (52 : TypeId) 2 encDg x.cs ((0 : Int), ByteArray.empty)) =
                                      Ent.mk (Loc.sl x.ao2 x.4) (SObj.vecL (52 : TypeId) 2 encDg x.cs ((0 : Int), ByteArray.empty)) ∧
                                      Ent.mk (Loc.sl y.ao2 y.4) (SObj.vecL (52 : TypeId) 2 encDg y.cs ((0 : Int), ByteArray.empty)) =
                                       Ent.mk (Loc.sl y.ao2 y.4) (SObj.vecL (52 : TypeId) 2 encDg y.cs ((0 : Int), ByteArray.empty)) ∧
                                       Ent.mk (Loc.sl z.ao2 z.4) (SObj.vecL (52 : TypeId) 2 encDg z.cs ((0 : Int), ByteArray.empty)) =
                                        Ent.mk (Loc.sl z.ao2 z.4) (SObj.vecL (52 : TypeId) 2 encDg z.cs ((0 : Int), ByteArray.empty)) ∧
                                        Ent.mk (Loc.blk b)
                                         (SObj.cells
                                          [SV.int IntKind.i64 (IntKind.wrap IntKind.i64 (last + (1 : Int))), SV.str (ByteArray.mk #[(99 : UInt8)])]
                                          52) =
                                         Ent.mk (Loc.blk b)
                                          (SObj.cells
                                           [SV.int IntKind.i64 (IntKind.wrap IntKind.i64 (last + (1 : Int))), SV.str (ByteArray.mk #[(99 : UInt8)])]
                                           52) ∧
                                         True) ∧
                           (z.ao2 = z.ao2 ∧
                            z.4 = z.4 ∧
                             List.length z.cs = List.length z.cs ∧
                              some (Addr.mk b_1 0 (@none Nat)) = some (Addr.mk b_1 0 (@none Nat)) ∧
                               (52 : TypeId) = 52 ∧
                                2 = 2 ∧
                                 2 = 2 ∧
                                  0 < 1 ∧
                                   true = true ∧
                                    (List.length z.cs + 1) * 24 ≤ 140737488355328 ∧
                                     List.length z.cs + 1 ≤ 9223372036854775807) ∧
                            ∃ (es : List (Int × ByteArray)),
                             List.length es = 1 ∧
                              List.flatMap encDg es = [SV.int IntKind.i64 (IntKind.wrap IntKind.i64 (last + (1 : Int))), SV.str (ByteArray.mk #[(99 : UInt8)])] ∧
                               ∀ (ao2 : Option Addr) (cap2 : Nat),
                                List.length z.cs + 1 ≤ cap2 →
                                 (q2 = q2 ∧ true = true ∧ 1 = 1 ∧ 1 ≤ 1) ∧
                                  b2 = b2 ∧
                                   (b2 = b2 ∧ true = true ∧ 1 = 1 ∧ 3 ≤ 3) ∧
                                    b2 = b2 ∧
                                     match IntKind.wrap IntKind.i64 (last + (1 : Int)) != next with
                                     | true =>
                                      N
                                       [Ent.mk (Loc.sl ao cap) (SObj.roL c0 1 encByte bs (0 : Int)),
                                        Ent.mk (Loc.blk bn)
                                         (SObj.cells
                                          [SV.str (ByteArray.mk #[(97 : UInt8)]), SV.str (ByteArray.mk #[(98 : UInt8)]),
                                           SV.str (ByteArray.mk #[(99 : UInt8)])]
                                          (47 : TypeId)),
                                        Ent.mk (Loc.blk b1)
                                         (SObj.mapV (@none IntKind)
                                          [(Key.s (ByteArray.mk #[(97 : UInt8)]), SV.ptr 4 q0 0),
                                           (Key.s (ByteArray.mk #[(98 : UInt8)]), SV.ptr 5 q1 0),
                                           (Key.s (ByteArray.mk #[(99 : UInt8)]), SV.ptr 6 q2 0)]),
                                        Ent.mk (Loc.blk b2)
                                         (SObj.cells
                                          [SV.map 2 b1, SV.raw (Value.slice (@none Addr) 0 0),
                                           SV.int IntKind.i64 (IntKind.wrap IntKind.i64 (last + (1 : Int)))]
                                          (120 : TypeId)),
                                        Ent.mk (Loc.blk q0) (SObj.cells [SV.vec 11 x.ao2 (List.length x.cs) x.4] (125 : TypeId)),
                                        Ent.mk (Loc.blk q1) (SObj.cells [SV.vec 12 y.ao2 (List.length y.cs) y.4] (125 : TypeId)),
                                        Ent.mk (Loc.blk q2) (SObj.cells [SV.vec 13 ao2 (List.length z.cs + 1) cap2] (125 : TypeId)),
                                        Ent.mk (Loc.blk bw)
                                         (SObj.cells
                                          [SV.vec 8 x.ao1 (List.length x.1) x.3, SV.vec 9 y.ao1 (List.length y.1) y.3,
                                           SV.vec 10 z.ao1 (List.length z.1) z.3]
                                          (49 : TypeId)),
                                        Ent.mk (Loc.sl x.ao1 x.3) (SObj.vecL (3 : TypeId) 1 encInt x.1 (0 : Int)),
                                        Ent.mk (Loc.sl y.ao1 y.3) (SObj.vecL (3 : TypeId) 1 encInt y.1 (0 : Int)),
                                        Ent.mk (Loc.sl z.ao1 z.3) (SObj.vecL (3 : TypeId) 1 encInt z.1 (0 : Int)),
                                        Ent.mk (Loc.sl x.ao2 x.4) (SObj.vecL (52 : TypeId) 2 encDg x.cs ((0 : Int), ByteArray.empty)),
                                        Ent.mk (Loc.sl y.ao2 y.4) (SObj.vecL (52 : TypeId) 2 encDg y.cs ((0 : Int), ByteArray.empty)),
                                        Ent.mk (Loc.sl ao2 cap2) (SObj.vecL (52 : TypeId) 2 encDg (z.cs ++ es) ((0 : Int), ByteArray.empty)),
                                        Ent.mk (Loc.blk b)
                                         (SObj.cells
                                          [SV.int IntKind.i64 (IntKind.wrap IntKind.i64 (last + (1 : Int))), SV.str (ByteArray.mk #[(99 : UInt8)])]
                                          52),
                                        Ent.mk (Loc.blk b_1)
                                         (SObj.cells
                                          [SV.int IntKind.i64 (IntKind.wrap IntKind.i64 (last + (1 : Int))), SV.str (ByteArray.mk #[(99 : UInt8)])]
                                          52)]
                                       (SV.bool false)
                                     | false =>
                                      ((0 : Int) ≤ (2 : Int) ∧ (2 : Int) < (↑3 : Int)) ∧
                                       bw = bw ∧
                                        (true = true ∧ 1 = 1 ∧ 0 < 1 ∧ 1 ≤ 16777216) ∧
                                         ∀ (b_2 : Nat),
                                          (z.ao1 = z.ao1 ∧
                                           z.3 = z.3 ∧
                                            List.length z.1 = List.length z.1 ∧
                                             some (Addr.mk b_2 0 (@none Nat)) = some (Addr.mk b_2 0 (@none Nat)) ∧
                                              (3 : TypeId) = 3 ∧
                                               1 = 1 ∧
                                                1 = 1 ∧
                                                 0 < 1 ∧
                                                  true = true ∧
                                                   (List.length z.1 + 1) * 8 ≤ 140737488355328 ∧
                                                    List.length z.1 + 1 ≤ 9223372036854775807) ∧
                                           ∃ (es_1 : List Int),
                                            List.length es_1 = 1 ∧
                                             List.flatMap encInt es_1 = [SV.int IntKind.i64 (IntKind.wrap IntKind.i64 (last + (1 : Int)))] ∧
                                              ∀ (ao2_1 : Option Addr) (cap2_1 : Nat),
                                               List.length z.1 + 1 ≤ cap2_1 →
                                                ((0 : Int) ≤ (2 : Int) ∧ (2 : Int) < (↑3 : Int)) ∧
                                                 (bw = bw ∧ true = true ∧ 1 = 1 ∧ 3 ≤ 3) ∧
                                                  K (frmR [J] (bodyOf Try.f6) 24)
                                                   (Sy.mk
                                                    [SV.vec 0 ao (List.length bs) cap, SV.raw (u 1), SV.bool false,
                                                     SV.ptr 1 bn 0, SV.ptr 3 b2 0, SV.raw (u 5),
                                                     SV.ptr 7 bw 0,
                                                     SV.int IntKind.i64 (IntKind.wrap IntKind.i64 (next + (1 : Int))), SV.int IntKind.i64 i,
                                                     SV.int IntKind.i64 (2 : Int),
                                                     SV.int IntKind.i64 (IntKind.wrap IntKind.i64 (last + (1 : Int))),
                                                     SV.int IntKind.i64 (0 : Int), SV.raw (u 12), SV.raw (u 13),
                                                     SV.raw (u 14), SV.raw (u 15), SV.raw (u 16), SV.raw (u 17),
                                                     SV.raw (u 18), SV.raw (u 19), SV.raw (u 20), SV.raw (u 21),
                                                     SV.raw (u 22), SV.raw (u 23), SV.raw (u 24), SV.raw (u 25),
                                                     SV.raw (u 26), SV.raw (u 27), SV.raw (u 28), SV.raw (u 29),
                                                     SV.raw (u 30), SV.raw (u 31), SV.raw (u 32), SV.raw (u 33),
                                                     SV.raw (u 34), SV.raw (u 35), SV.raw (u 36), SV.raw (u 37),
                                                     SV.raw (u 38), SV.raw (u 39), SV.raw (u 40), SV.raw (u 41),
                                                     SV.raw (u 42), SV.raw (u 43), SV.vec 0 ao (List.length bs) cap,
                                                     SV.int IntKind.i64 i,
                                                     SV.eptr 0 (Addr.blkD ao) (Addr.offD ao) 1 (Int.toNat i) 0,
                                                     SV.int IntKind.u8 (List.getD bs (Int.toNat i) (0 : Int)),
                                                     SV.int IntKind.u8
                                                      (IntKind.wrap IntKind.u8 (Int.tdiv (List.getD bs (Int.toNat i) (0 : Int)) (3 : Int))),
                                                     SV.int IntKind.u8
                                                      (Int.tmod
                                                       (IntKind.wrap IntKind.u8 (Int.tdiv (List.getD bs (Int.toNat i) (0 : Int)) (3 : Int)))
                                                       (2 : Int)),
                                                     SV.bool
                                                      (Int.tmod
                                                       (IntKind.wrap IntKind.u8 (Int.tdiv (List.getD bs (Int.toNat i) (0 : Int)) (3 : Int)))
                                                       (2 : Int) ==
                                                       (0 : Int)),
                                                     SV.bool true, SV.int IntKind.i64 (2 : Int), SV.ptr 7 bw 2,
                                                     SV.vec 10 z.ao1 (List.length z.1) z.3,
                                                     SV.int IntKind.i64 (↑(List.length z.1) : Int),
                                                     SV.bool (decide ((↑(List.length z.1) : Int) < (16 : Int))), SV.bool true,
                                                     SV.tuple
                                                      [SV.int IntKind.i64 (IntKind.wrap IntKind.i64 (last + (1 : Int))),
                                                       SV.int IntKind.i64 (0 : Int)],
                                                     SV.ptr 3 b2 0, SV.int IntKind.i64 (2 : Int), SV.ptr 1 bn 2,
                                                     SV.str (ByteArray.mk #[(99 : UInt8)]), SV.int IntKind.i64 (2 : Int),
                                                     SV.ptr 1 bn 2, SV.str (ByteArray.mk #[(99 : UInt8)]),
                                                     SV.tuple
                                                      [SV.int IntKind.i64 (IntKind.wrap IntKind.i64 (last + (1 : Int))),
                                                       SV.int IntKind.i64 (0 : Int)],
                                                     SV.int IntKind.i64 (IntKind.wrap IntKind.i64 (last + (1 : Int))),
                                                     SV.int IntKind.i64 (0 : Int), SV.int IntKind.i64 (0 : Int), SV.bool false, SV.bool false,
                                                     SV.int IntKind.i64 (IntKind.wrap IntKind.i64 (last + (1 : Int))), SV.int IntKind.i64 next,
                                                     SV.bool (IntKind.wrap IntKind.i64 (last + (1 : Int)) != next), SV.bool false,
                                                     SV.int IntKind.i64 next, SV.int IntKind.i64 (IntKind.wrap IntKind.i64 (next + (1 : Int))),
                                                     SV.int IntKind.i64 (2 : Int), SV.int IntKind.i64 (2 : Int), SV.ptr 7 bw 2,
                                                     SV.vec 10 z.ao1 (List.length z.1) z.3,
                                                     SV.int IntKind.i64 (IntKind.wrap IntKind.i64 (last + (1 : Int))),
                                                     SV.vec 16 (some (Addr.mk b_2 0 (@none Nat))) 1 1,
                                                     SV.vec 10 ao2_1 (List.length z.1 + 1) cap2_1, SV.ptr 7 bw 2,
                                                     SV.raw (u 86), SV.raw (u 87), SV.raw (u 88), SV.raw (u 89),
                                                     SV.raw (u 90), SV.raw (u 91), SV.raw (u 92), SV.raw (u 93),
                                                     SV.raw (u 94), SV.raw (u 95), SV.raw (u 96), SV.raw (u 97),
                                                     SV.raw (u 98), SV.raw (u 99), SV.raw (u 100),
                                                     SV.raw (u 101), SV.raw (u 102), SV.raw (u 103),
                                                     SV.raw (u 104), SV.raw (u 105), SV.raw (u 106),
                                                     SV.raw (u 107), SV.raw (u 108), SV.raw (u 109),
                                                     SV.raw (u 110), SV.raw (u 111), SV.raw (u 112),
                                                     SV.raw (u 113), SV.raw (u 114), SV.raw (u 115),
                                                     SV.raw (u 116), SV.raw (u 117), SV.raw (u 118),
                                                     SV.raw (u 119), SV.raw (u 120), SV.raw (u 121),
                                                     SV.raw (u 122), SV.raw (u 123), SV.raw (u 124),
                                                     SV.raw (u 125), SV.raw (u 126), SV.raw (u 127),
                                                     SV.raw (u 128), SV.raw (u 129), SV.raw (u 130),
                                                     SV.raw (u 131), SV.raw (u 132), SV.raw (u 133),
                                                     SV.raw (u 134), SV.raw (u 135), SV.raw (u 136),
                                                     SV.raw (u 137), SV.raw (u 138), SV.raw (u 139),
                                                     SV.raw (u 140), SV.raw (u 141), SV.raw (u 142),
                                                     SV.raw (u 143)]
                                                    [Ent.mk (Loc.sl ao cap) (SObj.roL c0 1 encByte bs (0 : Int)),
                                                     Ent.mk (Loc.blk bn)
                                                      (SObj.cells
                                                       [SV.str (ByteArray.mk #[(97 : UInt8)]), SV.str (ByteArray.mk #[(98 : UInt8)]),
                                                        SV.str (ByteArray.mk #[(99 : UInt8)])]
                                                       (47 : TypeId)),
                                                     Ent.mk (Loc.blk b1)
                                                      (SObj.mapV (@none IntKind)
                                                       [(Key.s (ByteArray.mk #[(97 : UInt8)]), SV.ptr 4 q0 0),
                                                        (Key.s (ByteArray.mk #[(98 : UInt8)]), SV.ptr 5 q1 0),
                                                        (Key.s (ByteArray.mk #[(99 : UInt8)]), SV.ptr 6 q2 0)]),
                                                     Ent.mk (Loc.blk b2)
                                                      (SObj.cells
                                                       [SV.map 2 b1, SV.raw (Value.slice (@none Addr) 0 0),
                                                        SV.int IntKind.i64 (IntKind.wrap IntKind.i64 (last + (1 : Int)))]
                                                       (120 : TypeId)),
                                                     Ent.mk (Loc.blk q0)
                                                      (SObj.cells [SV.vec 11 x.ao2 (List.length x.cs) x.4] (125 : TypeId)),
                                                     Ent.mk (Loc.blk q1)
                                                      (SObj.cells [SV.vec 12 y.ao2 (List.length y.cs) y.4] (125 : TypeId)),
                                                     Ent.mk (Loc.blk q2)
                                                      (SObj.cells [SV.vec 13 ao2 (List.length z.cs + 1) cap2] (125 : TypeId)),
                                                     Ent.mk (Loc.blk bw)
                                                      (SObj.cells
                                                       [SV.vec 8 x.ao1 (List.length x.1) x.3,
                                                        SV.vec 9 y.ao1 (List.length y.1) y.3,
                                                        SV.vec 10 ao2_1 (List.length z.1 + 1) cap2_1]
                                                       (49 : TypeId)),
                                                     Ent.mk (Loc.sl x.ao1 x.3) (SObj.vecL (3 : TypeId) 1 encInt x.1 (0 : Int)),
                                                     Ent.mk (Loc.sl y.ao1 y.3) (SObj.vecL (3 : TypeId) 1 encInt y.1 (0 : Int)),
                                                     Ent.mk (Loc.sl ao2_1 cap2_1)
                                                      (SObj.vecL (3 : TypeId) 1 encInt (z.1 ++ es_1) (0 : Int)),
                                                     Ent.mk (Loc.sl x.ao2 x.4)
                                                      (SObj.vecL (52 : TypeId) 2 encDg x.cs ((0 : Int), ByteArray.empty)),
                                                     Ent.mk (Loc.sl y.ao2 y.4)
                                                      (SObj.vecL (52 : TypeId) 2 encDg y.cs ((0 : Int), ByteArray.empty)),
                                                     Ent.mk (Loc.sl ao2 cap2)
                                                      (SObj.vecL (52 : TypeId) 2 encDg (z.cs ++ es) ((0 : Int), ByteArray.empty)),
                                                     Ent.mk (Loc.blk b)
                                                      (SObj.cells
                                                       [SV.int IntKind.i64 (IntKind.wrap IntKind.i64 (last + (1 : Int))),
                                                        SV.str (ByteArray.mk #[(99 : UInt8)])]
                                                       52),
                                                     Ent.mk (Loc.blk b_1)
                                                      (SObj.cells
                                                       [SV.int IntKind.i64 (IntKind.wrap IntKind.i64 (last + (1 : Int))),
                                                        SV.str (ByteArray.mk #[(99 : UInt8)])]
                                                       52),
                                                     Ent.mk (Loc.blk b_2)
                                                      (SObj.cells [SV.int IntKind.i64 (IntKind.wrap IntKind.i64 (last + (1 : Int)))]
                                                       3)])) ∧
         ((0 : Int) ≤ (2 : Int) ∧ (2 : Int) < (↑3 : Int)) ∧
          bn = bn ∧
           ((0 : Int) ≤ (2 : Int) ∧ (2 : Int) < (↑3 : Int)) ∧
            bn = bn ∧
             true = true ∧
              b2 = b2 ∧
               (b1 = b1 ∧ @none IntKind = @none IntKind ∧ @none IntKind = @none IntKind) ∧
                b2 = b2 ∧
                 (true = true ∧ true = true) ∧
                  true = true ∧
                   true = true ∧
                    ∀ (b : Nat),
                     q2 = q2 ∧
                      match decide ((↑(List.length z.cs) : Int) ≥ (16 : Int)) with
                      | true =>
                       N
                        [Ent.mk (Loc.sl ao cap) (SObj.roL c0 1 encByte bs (0 : Int)),
                         Ent.mk (Loc.blk bn)
                          (SObj.cells [SV.str (ByteArray.mk #[(97 : UInt8)]), SV.str (ByteArray.mk #[(98 : UInt8)]), SV.str (ByteArray.mk #[(99 : UInt8)])] (47 : TypeId)),
                         Ent.mk (Loc.blk b1)
                          (SObj.mapV (@none IntKind)
                           [(Key.s (ByteArray.mk #[(97 : UInt8)]), SV.ptr 4 q0 0), (Key.s (ByteArray.mk #[(98 : UInt8)]), SV.ptr 5 q1 0),
                            (Key.s (ByteArray.mk #[(99 : UInt8)]), SV.ptr 6 q2 0)]),
                         Ent.mk (Loc.blk b2) (SObj.cells [SV.map 2 b1, SV.raw (Value.slice (@none Addr) 0 0), SV.int IntKind.i64 last] (120 : TypeId)),
                         Ent.mk (Loc.blk q0) (SObj.cells [SV.vec 11 x.ao2 (List.length x.cs) x.4] (125 : TypeId)),
                         Ent.mk (Loc.blk q1) (SObj.cells [SV.vec 12 y.ao2 (List.length y.cs) y.4] (125 : TypeId)),
                         Ent.mk (Loc.blk q2) (SObj.cells [SV.vec 13 z.ao2 (List.length z.cs) z.4] (125 : TypeId)),
                         Ent.mk (Loc.blk bw)
                          (SObj.cells
                           [SV.vec 8 x.ao1 (List.length x.1) x.3, SV.vec 9 y.ao1 (List.length y.1) y.3, SV.vec 10 z.ao1 (List.length z.1) z.3]
                           (49 : TypeId)),
                         Ent.mk (Loc.sl x.ao1 x.3) (SObj.vecL (3 : TypeId) 1 encInt x.1 (0 : Int)),
                         Ent.mk (Loc.sl y.ao1 y.3) (SObj.vecL (3 : TypeId) 1 encInt y.1 (0 : Int)),
                         Ent.mk (Loc.sl z.ao1 z.3) (SObj.vecL (3 : TypeId) 1 encInt z.1 (0 : Int)),
                         Ent.mk (Loc.sl x.ao2 x.4) (SObj.vecL (52 : TypeId) 2 encDg x.cs ((0 : Int), ByteArray.empty)),
                         Ent.mk (Loc.sl y.ao2 y.4) (SObj.vecL (52 : TypeId) 2 encDg y.cs ((0 : Int), ByteArray.empty)),
                         Ent.mk (Loc.sl z.ao2 z.4) (SObj.vecL (52 : TypeId) 2 encDg z.cs ((0 : Int), ByteArray.empty)),
                         Ent.mk (Loc.blk b) (SObj.cells [SV.int IntKind.i64 (IntKind.wrap IntKind.i64 (last + (1 : Int))), SV.str (ByteArray.mk #[(99 : UInt8)])] 52)]
                        (SV.bool false)
                      | false =>
                       q2 = q2 ∧
                        (b = b ∧ 2 = 2) ∧
                         (true = true ∧ 2 = 2 ∧ 0 < 2 ∧ 2 ≤ 16777216) ∧
                          ∀ (b_1 : Nat),
                           (Ent.mk (Loc.sl ao cap) (SObj.roL c0 1 encByte bs (0 : Int)) = Ent.mk (Loc.sl ao cap) (SObj.roL c0 1 encByte bs (0 : Int)) ∧
                            Ent.mk (Loc.blk bn)
                             (SObj.cells [SV.str (ByteArray.mk #[(97 : UInt8)]), SV.str (ByteArray.mk #[(98 : UInt8)]), SV.str (ByteArray.mk #[(99 : UInt8)])]
                              (47 : TypeId)) =
                             Ent.mk (Loc.blk bn)
                              (SObj.cells [SV.str (ByteArray.mk #[(97 : UInt8)]), SV.str (ByteArray.mk #[(98 : UInt8)]), SV.str (ByteArray.mk #[(99 : UInt8)])]
                               (47 : TypeId)) ∧
                             Ent.mk (Loc.blk b1)
                              (SObj.mapV (@none IntKind)
                               [(Key.s (ByteArray.mk #[(97 : UInt8)]), SV.ptr 4 q0 0),
                                (Key.s (ByteArray.mk #[(98 : UInt8)]), SV.ptr 5 q1 0),
                                (Key.s (ByteArray.mk #[(99 : UInt8)]), SV.ptr 6 q2 0)]) =
                              Ent.mk (Loc.blk b1)
                               (SObj.mapV (@none IntKind)
                                [(Key.s (ByteArray.mk #[(97 : UInt8)]), SV.ptr 4 q0 0),
                                 (Key.s (ByteArray.mk #[(98 : UInt8)]), SV.ptr 5 q1 0),
                                 (Key.s (ByteArray.mk #[(99 : UInt8)]), SV.ptr 6 q2 0)]) ∧
                              Ent.mk (Loc.blk b2)
                               (SObj.cells [SV.map 2 b1, SV.raw (Value.slice (@none Addr) 0 0), SV.int IntKind.i64 last] (120 : TypeId)) =
                               Ent.mk (Loc.blk b2)
                                (SObj.cells [SV.map 2 b1, SV.raw (Value.slice (@none Addr) 0 0), SV.int IntKind.i64 last] (120 : TypeId)) ∧
                               Ent.mk (Loc.blk q0) (SObj.cells [SV.vec 11 x.ao2 (List.length x.cs) x.4] (125 : TypeId)) =
                                Ent.mk (Loc.blk q0) (SObj.cells [SV.vec 11 x.ao2 (List.length x.cs) x.4] (125 : TypeId)) ∧
                                Ent.mk (Loc.blk q1) (SObj.cells [SV.vec 12 y.ao2 (List.length y.cs) y.4] (125 : TypeId)) =
                                 Ent.mk (Loc.blk q1) (SObj.cells [SV.vec 12 y.ao2 (List.length y.cs) y.4] (125 : TypeId)) ∧
                                 Ent.mk (Loc.blk q2) (SObj.cells [SV.vec 13 z.ao2 (List.length z.cs) z.4] (125 : TypeId)) =
                                  Ent.mk (Loc.blk q2) (SObj.cells [SV.vec 13 z.ao2 (List.length z.cs) z.4] (125 : TypeId)) ∧
                                  Ent.mk (Loc.blk bw)
                                   (SObj.cells
                                    [SV.vec 8 x.ao1 (List.length x.1) x.3, SV.vec 9 y.ao1 (List.length y.1) y.3,
                                     SV.vec 10 z.ao1 (List.length z.1) z.3]
                                    (49 : TypeId)) =
                                   Ent.mk (Loc.blk bw)
                                    (SObj.cells
                                     [SV.vec 8 x.ao1 (List.length x.1) x.3, SV.vec 9 y.ao1 (List.length y.1) y.3,
                                      SV.vec 10 z.ao1 (List.length z.1) z.3]
                                     (49 : TypeId)) ∧
                                   Ent.mk (Loc.sl x.ao1 x.3) (SObj.vecL (3 : TypeId) 1 encInt x.1 (0 : Int)) =
                                    Ent.mk (Loc.sl x.ao1 x.3) (SObj.vecL (3 : TypeId) 1 encInt x.1 (0 : Int)) ∧
                                    Ent.mk (Loc.sl y.ao1 y.3) (SObj.vecL (3 : TypeId) 1 encInt y.1 (0 : Int)) =
                                     Ent.mk (Loc.sl y.ao1 y.3) (SObj.vecL (3 : TypeId) 1 encInt y.1 (0 : Int)) ∧
                                     Ent.mk (Loc.sl z.ao1 z.3) (SObj.vecL (3 : TypeId) 1 encInt z.1 (0 : Int)) =
                                      Ent.mk (Loc.sl z.ao1 z.3) (SObj.vecL (3 : TypeId) 1 encInt z.1 (0 : Int)) ∧
                                      Ent.mk (Loc.sl x.ao2 x.4) (SObj.vecL (52 : TypeId) 2 encDg x.cs ((0 : Int), ByteArray.empty)) =
                                       Ent.mk (Loc.sl x.ao2 x.4) (SObj.vecL (52 : TypeId) 2 encDg x.cs ((0 : Int), ByteArray.empty)) ∧
                                       Ent.mk (Loc.sl y.ao2 y.4) (SObj.vecL (52 : TypeId) 2 encDg y.cs ((0 : Int), ByteArray.empty)) =
                                        Ent.mk (Loc.sl y.ao2 y.4) (SObj.vecL (52 : TypeId) 2 encDg y.cs ((0 : Int), ByteArray.empty)) ∧
                                        Ent.mk (Loc.sl z.ao2 z.4) (SObj.vecL (52 : TypeId) 2 encDg z.cs ((0 : Int), ByteArray.empty)) =
                                         Ent.mk (Loc.sl z.ao2 z.4) (SObj.vecL (52 : TypeId) 2 encDg z.cs ((0 : Int), ByteArray.empty)) ∧
                                         Ent.mk (Loc.blk b)
                                          (SObj.cells
                                           [SV.int IntKind.i64 (IntKind.wrap IntKind.i64 (last + (1 : Int))), SV.str (ByteArray.mk #[(99 : UInt8)])]
                                           52) =
                                          Ent.mk (Loc.blk b)
                                           (SObj.cells
                                            [SV.int IntKind.i64 (IntKind.wrap IntKind.i64 (last + (1 : Int))), SV.str (ByteArray.mk #[(99 : UInt8)])]
                                            52) ∧
                                          True) ∧
                            (z.ao2 = z.ao2 ∧
                             z.4 = z.4 ∧
                              List.length z.cs = List.length z.cs ∧
                               some (Addr.mk b_1 0 (@none Nat)) = some (Addr.mk b_1 0 (@none Nat)) ∧
                                (52 : TypeId) = 52 ∧
                                 2 = 2 ∧
                                  2 = 2 ∧
                                   0 < 1 ∧
                                    true = true ∧
                                     (List.length z.cs + 1) * 24 ≤ 140737488355328 ∧
                                      List.length z.cs + 1 ≤ 9223372036854775807) ∧
                             ∃ (es : List (Int × ByteArray)),
                              List.length es = 1 ∧
                               List.flatMap encDg es = [SV.int IntKind.i64 (IntKind.wrap IntKind.i64 (last + (1 : Int))), SV.str (ByteArray.mk #[(99 : UInt8)])] ∧
                                ∀ (ao2 : Option Addr) (cap2 : Nat),
                                 List.length z.cs + 1 ≤ cap2 →
                                  (q2 = q2 ∧ true = true ∧ 1 = 1 ∧ 1 ≤ 1) ∧
                                   b2 = b2 ∧
                                    (b2 = b2 ∧ true = true ∧ 1 = 1 ∧ 3 ≤ 3) ∧
                                     b2 = b2 ∧
                                      match IntKind.wrap IntKind.i64 (last + (1 : Int)) != next with
                                      | true =>
                                       N
                                        [Ent.mk (Loc.sl ao cap) (SObj.roL c0 1 encByte bs (0 : Int)),
                                         Ent.mk (Loc.blk bn)
                                          (SObj.cells
                                           [SV.str (ByteArray.mk #[(97 : UInt8)]), SV.str (ByteArray.mk #[(98 : UInt8)]),
                                            SV.str (ByteArray.mk #[(99 : UInt8)])]
                                           (47 : TypeId)),
                                         Ent.mk (Loc.blk b1)
                                          (SObj.mapV (@none IntKind)
                                           [(Key.s (ByteArray.mk #[(97 : UInt8)]), SV.ptr 4 q0 0),
                                            (Key.s (ByteArray.mk #[(98 : UInt8)]), SV.ptr 5 q1 0),
                                            (Key.s (ByteArray.mk #[(99 : UInt8)]), SV.ptr 6 q2 0)]),
                                         Ent.mk (Loc.blk b2)
                                          (SObj.cells
                                           [SV.map 2 b1, SV.raw (Value.slice (@none Addr) 0 0),
                                            SV.int IntKind.i64 (IntKind.wrap IntKind.i64 (last + (1 : Int)))]
                                           (120 : TypeId)),
                                         Ent.mk (Loc.blk q0) (SObj.cells [SV.vec 11 x.ao2 (List.length x.cs) x.4] (125 : TypeId)),
                                         Ent.mk (Loc.blk q1) (SObj.cells [SV.vec 12 y.ao2 (List.length y.cs) y.4] (125 : TypeId)),
                                         Ent.mk (Loc.blk q2) (SObj.cells [SV.vec 13 ao2 (List.length z.cs + 1) cap2] (125 : TypeId)),
                                         Ent.mk (Loc.blk bw)
                                          (SObj.cells
                                           [SV.vec 8 x.ao1 (List.length x.1) x.3, SV.vec 9 y.ao1 (List.length y.1) y.3,
                                            SV.vec 10 z.ao1 (List.length z.1) z.3]
                                           (49 : TypeId)),
                                         Ent.mk (Loc.sl x.ao1 x.3) (SObj.vecL (3 : TypeId) 1 encInt x.1 (0 : Int)),
                                         Ent.mk (Loc.sl y.ao1 y.3) (SObj.vecL (3 : TypeId) 1 encInt y.1 (0 : Int)),
                                         Ent.mk (Loc.sl z.ao1 z.3) (SObj.vecL (3 : TypeId) 1 encInt z.1 (0 : Int)),
                                         Ent.mk (Loc.sl x.ao2 x.4) (SObj.vecL (52 : TypeId) 2 encDg x.cs ((0 : Int), ByteArray.empty)),
                                         Ent.mk (Loc.sl y.ao2 y.4) (SObj.vecL (52 : TypeId) 2 encDg y.cs ((0 : Int), ByteArray.empty)),
                                         Ent.mk (Loc.sl ao2 cap2) (SObj.vecL (52 : TypeId) 2 encDg (z.cs ++ es) ((0 : Int), ByteArray.empty)),
                                         Ent.mk (Loc.blk b)
                                          (SObj.cells
                                           [SV.int IntKind.i64 (IntKind.wrap IntKind.i64 (last + (1 : Int))), SV.str (ByteArray.mk #[(99 : UInt8)])]
                                           52),
                                         Ent.mk (Loc.blk b_1)
                                          (SObj.cells
                                           [SV.int IntKind.i64 (IntKind.wrap IntKind.i64 (last + (1 : Int))), SV.str (ByteArray.mk #[(99 : UInt8)])]
                                           52)]
                                        (SV.bool false)
                                      | false =>
                                       ((0 : Int) ≤ (2 : Int) ∧ (2 : Int) < (↑3 : Int)) ∧
                                        bw = bw ∧
                                         (true = true ∧ 1 = 1 ∧ 0 < 1 ∧ 1 ≤ 16777216) ∧
                                          ∀ (b_2 : Nat),
                                           (z.ao1 = z.ao1 ∧
                                            z.3 = z.3 ∧
                                             List.length z.1 = List.length z.1 ∧
                                              some (Addr.mk b_2 0 (@none Nat)) = some (Addr.mk b_2 0 (@none Nat)) ∧
                                               (3 : TypeId) = 3 ∧
                                                1 = 1 ∧
                                                 1 = 1 ∧
                                                  0 < 1 ∧
                                                   true = true ∧
                                                    (List.length z.1 + 1) * 8 ≤ 140737488355328 ∧
                                                     List.length z.1 + 1 ≤ 9223372036854775807) ∧
                                            ∃ (es_1 : List Int),
                                             List.length es_1 = 1 ∧
                                              List.flatMap encInt es_1 = [SV.int IntKind.i64 (IntKind.wrap IntKind.i64 (last + (1 : Int)))] ∧
                                               ∀ (ao2_1 : Option Addr) (cap2_1 : Nat),
                                                List.length z.1 + 1 ≤ cap2_1 →
                                                 ((0 : Int) ≤ (2 : Int) ∧ (2 : Int) < (↑3 : Int)) ∧
                                                  (bw = bw ∧ true = true ∧ 1 = 1 ∧ 3 ≤ 3) ∧
                                                   K (frmR [J] (bodyOf Try.f6) 24)
                                                    (Sy.mk
                                                     [SV.vec 0 ao (List.length bs) cap, SV.raw (u 1), SV.bool false,
                                                      SV.ptr 1 bn 0, SV.ptr 3 b2 0, SV.raw (u 5),
                                                      SV.ptr 7 bw 0,
                                                      SV.int IntKind.i64 (IntKind.wrap IntKind.i64 (next + (1 : Int))), SV.int IntKind.i64 i,
                                                      SV.int IntKind.i64 (2 : Int),
                                                      SV.int IntKind.i64 (IntKind.wrap IntKind.i64 (last + (1 : Int))),
                                                      SV.int IntKind.i64 (0 : Int), SV.raw (u 12), SV.raw (u 13),
                                                      SV.raw (u 14), SV.raw (u 15), SV.raw (u 16), SV.raw (u 17),
                                                      SV.raw (u 18), SV.raw (u 19), SV.raw (u 20), SV.raw (u 21),
                                                      SV.raw (u 22), SV.raw (u 23), SV.raw (u 24), SV.raw (u 25),
                                                      SV.raw (u 26), SV.raw (u 27), SV.raw (u 28), SV.raw (u 29),
                                                      SV.raw (u 30), SV.raw (u 31), SV.raw (u 32), SV.raw (u 33),
                                                      SV.raw (u 34), SV.raw (u 35), SV.raw (u 36), SV.raw (u 37),
                                                      SV.raw (u 38), SV.raw (u 39), SV.raw (u 40), SV.raw (u 41),
                                                      SV.raw (u 42), SV.raw (u 43), SV.vec 0 ao (List.length bs) cap,
                                                      SV.int IntKind.i64 i,
                                                      SV.eptr 0 (Addr.blkD ao) (Addr.offD ao) 1 (Int.toNat i) 0,
                                                      SV.int IntKind.u8 (List.getD bs (Int.toNat i) (0 : Int)),
                                                      SV.int IntKind.u8
                                                       (IntKind.wrap IntKind.u8 (Int.tdiv (List.getD bs (Int.toNat i) (0 : Int)) (3 : Int))),
                                                      SV.int IntKind.u8
                                                       (Int.tmod
                                                        (IntKind.wrap IntKind.u8 (Int.tdiv (List.getD bs (Int.toNat i) (0 : Int)) (3 : Int)))
                                                        (2 : Int)),
                                                      SV.bool
                                                       (Int.tmod
                                                        (IntKind.wrap IntKind.u8 (Int.tdiv (List.getD bs (Int.toNat i) (0 : Int)) (3 : Int)))
                                                        (2 : Int) ==
                                                        (0 : Int)),
                                                      SV.bool true, SV.int IntKind.i64 (2 : Int), SV.ptr 7 bw 2,
                                                      SV.vec 10 z.ao1 (List.length z.1) z.3,
                                                      SV.int IntKind.i64 (↑(List.length z.1) : Int),
                                                      SV.bool (decide ((↑(List.length z.1) : Int) < (16 : Int))), SV.bool true,
                                                      SV.tuple
                                                       [SV.int IntKind.i64 (IntKind.wrap IntKind.i64 (last + (1 : Int))),
                                                        SV.int IntKind.i64 (0 : Int)],
                                                      SV.ptr 3 b2 0, SV.int IntKind.i64 (2 : Int), SV.ptr 1 bn 2,
                                                      SV.str (ByteArray.mk #[(99 : UInt8)]), SV.int IntKind.i64 (2 : Int),
                                                      SV.ptr 1 bn 2, SV.str (ByteArray.mk #[(99 : UInt8)]),
                                                      SV.tuple
                                                       [SV.int IntKind.i64 (IntKind.wrap IntKind.i64 (last + (1 : Int))),
                                                        SV.int IntKind.i64 (0 : Int)],
                                                      SV.int IntKind.i64 (IntKind.wrap IntKind.i64 (last + (1 : Int))),
                                                      SV.int IntKind.i64 (0 : Int), SV.int IntKind.i64 (0 : Int), SV.bool false, SV.bool false,
                                                      SV.int IntKind.i64 (IntKind.wrap IntKind.i64 (last + (1 : Int))), SV.int IntKind.i64 next,
                                                      SV.bool (IntKind.wrap IntKind.i64 (last + (1 : Int)) != next), SV.bool false,
                                                      SV.int IntKind.i64 next, SV.int IntKind.i64 (IntKind.wrap IntKind.i64 (next + (1 : Int))),
                                                      SV.int IntKind.i64 (2 : Int), SV.int IntKind.i64 (2 : Int), SV.ptr 7 bw 2,
                                                      SV.vec 10 z.ao1 (List.length z.1) z.3,
                                                      SV.int IntKind.i64 (IntKind.wrap IntKind.i64 (last + (1 : Int))),
                                                      SV.vec 16 (some (Addr.mk b_2 0 (@none Nat))) 1 1,
                                                      SV.vec 10 ao2_1 (List.length z.1 + 1) cap2_1, SV.ptr 7 bw 2,
                                                      SV.raw (u 86), SV.raw (u 87), SV.raw (u 88), SV.raw (u 89),
                                                      SV.raw (u 90), SV.raw (u 91), SV.raw (u 92), SV.raw (u 93),
                                                      SV.raw (u 94), SV.raw (u 95), SV.raw (u 96), SV.raw (u 97),
                                                      SV.raw (u 98), SV.raw (u 99), SV.raw (u 100),
                                                      SV.raw (u 101), SV.raw (u 102), SV.raw (u 103),
                                                      SV.raw (u 104), SV.raw (u 105), SV.raw (u 106),
                                                      SV.raw (u 107), SV.raw (u 108), SV.raw (u 109),
                                                      SV.raw (u 110), SV.raw (u 111), SV.raw (u 112),
                                                      SV.raw (u 113), SV.raw (u 114), SV.raw (u 115),
                                                      SV.raw (u 116), SV.raw (u 117), SV.raw (u 118),
                                                      SV.raw (u 119), SV.raw (u 120), SV.raw (u 121),
                                                      SV.raw (u 122), SV.raw (u 123), SV.raw (u 124),
                                                      SV.raw (u 125), SV.raw (u 126), SV.raw (u 127),
                                                      SV.raw (u 128), SV.raw (u 129), SV.raw (u 130),
                                                      SV.raw (u 131), SV.raw (u 132), SV.raw (u 133),
                                                      SV.raw (u 134), SV.raw (u 135), SV.raw (u 136),
                                                      SV.raw (u 137), SV.raw (u 138), SV.raw (u 139),
                                                      SV.raw (u 140), SV.raw (u 141), SV.raw (u 142),
                                                      SV.raw (u 143)]
                                                     [Ent.mk (Loc.sl ao cap) (SObj.roL c0 1 encByte bs (0 : Int)),
                                                      Ent.mk (Loc.blk bn)
                                                       (SObj.cells
                                                        [SV.str (ByteArray.mk #[(97 : UInt8)]), SV.str (ByteArray.mk #[(98 : UInt8)]),
                                                         SV.str (ByteArray.mk #[(99 : UInt8)])]
                                                        (47 : TypeId)),
                                                      Ent.mk (Loc.blk b1)
                                                       (SObj.mapV (@none IntKind)
                                                        [(Key.s (ByteArray.mk #[(97 : UInt8)]), SV.ptr 4 q0 0),
                                                         (Key.s (ByteArray.mk #[(98 : UInt8)]), SV.ptr 5 q1 0),
                                                         (Key.s (ByteArray.mk #[(99 : UInt8)]), SV.ptr 6 q2 0)]),
                                                      Ent.mk (Loc.blk b2)
                                                       (SObj.cells
                                                        [SV.map 2 b1, SV.raw (Value.slice (@none Addr) 0 0),
                                                         SV.int IntKind.i64 (IntKind.wrap IntKind.i64 (last + (1 : Int)))]
                                                        (120 : TypeId)),
                                                      Ent.mk (Loc.blk q0)
                                                       (SObj.cells [SV.vec 11 x.ao2 (List.length x.cs) x.4] (125 : TypeId)),
                                                      Ent.mk (Loc.blk q1)
                                                       (SObj.cells [SV.vec 12 y.ao2 (List.length y.cs) y.4] (125 : TypeId)),
                                                      Ent.mk (Loc.blk q2)
                                                       (SObj.cells [SV.vec 13 ao2 (List.length z.cs + 1) cap2] (125 : TypeId)),
                                                      Ent.mk (Loc.blk bw)
                                                       (SObj.cells
                                                        [SV.vec 8 x.ao1 (List.length x.1) x.3,
                                                         SV.vec 9 y.ao1 (List.length y.1) y.3,
                                                         SV.vec 10 ao2_1 (List.length z.1 + 1) cap2_1]
                                                        (49 : TypeId)),
                                                      Ent.mk (Loc.sl x.ao1 x.3) (SObj.vecL (3 : TypeId) 1 encInt x.1 (0 : Int)),
                                                      Ent.mk (Loc.sl y.ao1 y.3) (SObj.vecL (3 : TypeId) 1 encInt y.1 (0 : Int)),
                                                      Ent.mk (Loc.sl ao2_1 cap2_1)
                                                       (SObj.vecL (3 : TypeId) 1 encInt (z.1 ++ es_1) (0 : Int)),
                                                      Ent.mk (Loc.sl x.ao2 x.4)
                                                       (SObj.vecL (52 : TypeId) 2 encDg x.cs ((0 : Int), ByteArray.empty)),
                                                      Ent.mk (Loc.sl y.ao2 y.4)
                                                       (SObj.vecL (52 : TypeId) 2 encDg y.cs ((0 : Int), ByteArray.empty)),
                                                      Ent.mk (Loc.sl ao2 cap2)
                                                       (SObj.vecL (52 : TypeId) 2 encDg (z.cs ++ es) ((0 : Int), ByteArray.empty)),
                                                      Ent.mk (Loc.blk b)
                                                       (SObj.cells
                                                        [SV.int IntKind.i64 (IntKind.wrap IntKind.i64 (last + (1 : Int))),
                                                         SV.str (ByteArray.mk #[(99 : UInt8)])]
                                                        52),
                                                      Ent.mk (Loc.blk b_1)
                                                       (SObj.cells
                                                        [SV.int IntKind.i64 (IntKind.wrap IntKind.i64 (last + (1 : Int))),
                                                         SV.str (ByteArray.mk #[(99 : UInt8)])]
                                                        52),
                                                      Ent.mk (Loc.blk b_2)
                                                       (SObj.cells [SV.int IntKind.i64 (IntKind.wrap IntKind.i64 (last + (1 : Int)))]
                                                        3)])
       | false =>
        K (frmR [J] (bodyOf Try.f6) 24)
         (Sy.mk
          [SV.vec 0 ao (List.length bs) cap, SV.raw (u 1), SV.bool false, SV.ptr 1 bn 0, SV.ptr 3 b2 0, SV.raw (u 5),
           SV.ptr 7 bw 0, SV.int IntKind.i64 next, SV.int IntKind.i64 i, SV.int IntKind.i64 (2 : Int), SV.raw (u 10), SV.raw (u 11), SV.raw (u 12),
           SV.raw (u 13), SV.raw (u 14), SV.raw (u 15), SV.raw (u 16), SV.raw (u 17), SV.raw (u 18), SV.raw (u 19),
           SV.raw (u 20), SV.raw (u 21), SV.raw (u 22), SV.raw (u 23), SV.raw (u 24), SV.raw (u 25), SV.raw (u 26),
           SV.raw (u 27), SV.raw (u 28), SV.raw (u 29), SV.raw (u 30), SV.raw (u 31), SV.raw (u 32), SV.raw (u 33),
           SV.raw (u 34), SV.raw (u 35), SV.raw (u 36), SV.raw (u 37), SV.raw (u 38), SV.raw (u 39), SV.raw (u 40),
           SV.raw (u 41), SV.raw (u 42), SV.raw (u 43), SV.vec 0 ao (List.length bs) cap, SV.int IntKind.i64 i,
           SV.eptr 0 (Addr.blkD ao) (Addr.offD ao) 1 (Int.toNat i) 0, SV.int IntKind.u8 (List.getD bs (Int.toNat i) (0 : Int)),
           SV.int IntKind.u8 (IntKind.wrap IntKind.u8 (Int.tdiv (List.getD bs (Int.toNat i) (0 : Int)) (3 : Int))),
           SV.int IntKind.u8 (Int.tmod (IntKind.wrap IntKind.u8 (Int.tdiv (List.getD bs (Int.toNat i) (0 : Int)) (3 : Int))) (2 : Int)),
           SV.bool (Int.tmod (IntKind.wrap IntKind.u8 (Int.tdiv (List.getD bs (Int.toNat i) (0 : Int)) (3 : Int))) (2 : Int) == (0 : Int)), SV.bool true, SV.int IntKind.i64 (2 : Int),
           SV.ptr 7 bw 2, SV.vec 10 z.ao1 (List.length z.1) z.3, SV.int IntKind.i64 (↑(List.length z.1) : Int),
           SV.bool (decide ((↑(List.length z.1) : Int) < (16 : Int))), SV.bool false, SV.raw (u 58), SV.raw (u 59), SV.raw (u 60), SV.raw (u 61),
           SV.raw (u 62), SV.raw (u 63), SV.raw (u 64), SV.raw (u 65), SV.raw (u 66), SV.raw (u 67), SV.raw (u 68),
           SV.raw (u 69), SV.raw (u 70), SV.raw (u 71), SV.raw (u 72), SV.raw (u 73), SV.raw (u 74), SV.raw (u 75),
           SV.raw (u 76), SV.raw (u 77), SV.raw (u 78), SV.raw (u 79), SV.raw (u 80), SV.raw (u 81), SV.raw (u 82),
           SV.raw (u 83), SV.raw (u 84), SV.raw (u 85), SV.raw (u 86), SV.raw (u 87), SV.raw (u 88), SV.raw (u 89),
           SV.raw (u 90), SV.raw (u 91), SV.raw (u 92), SV.raw (u 93), SV.raw (u 94), SV.raw (u 95), SV.raw (u 96),
           SV.raw (u 97), SV.raw (u 98), SV.raw (u 99), SV.raw (u 100), SV.raw (u 101), SV.raw (u 102), SV.raw (u 103),
           SV.raw (u 104), SV.raw (u 105), SV.raw (u 106), SV.raw (u 107), SV.raw (u 108), SV.raw (u 109), SV.raw (u 110),
           SV.raw (u 111), SV.raw (u 112), SV.raw (u 113), SV.raw (u 114), SV.raw (u 115), SV.raw (u 116), SV.raw (u 117),
           SV.raw (u 118), SV.raw (u 119), SV.raw (u 120), SV.raw (u 121), SV.raw (u 122), SV.raw (u 123), SV.raw (u 124),
           SV.raw (u 125), SV.raw (u 126), SV.raw (u 127), SV.raw (u 128), SV.raw (u 129), SV.raw (u 130), SV.raw (u 131),
           SV.raw (u 132), SV.raw (u 133), SV.raw (u 134), SV.raw (u 135), SV.raw (u 136), SV.raw (u 137), SV.raw (u 138),
           SV.raw (u 139), SV.raw (u 140), SV.raw (u 141), SV.raw (u 142), SV.raw (u 143)]
          [Ent.mk (Loc.sl ao cap) (SObj.roL c0 1 encByte bs (0 : Int)),
           Ent.mk (Loc.blk bn) (SObj.cells [SV.str (ByteArray.mk #[(97 : UInt8)]), SV.str (ByteArray.mk #[(98 : UInt8)]), SV.str (ByteArray.mk #[(99 : UInt8)])] (47 : TypeId)),
           Ent.mk (Loc.blk b1)
            (SObj.mapV (@none IntKind)
             [(Key.s (ByteArray.mk #[(97 : UInt8)]), SV.ptr 4 q0 0), (Key.s (ByteArray.mk #[(98 : UInt8)]), SV.ptr 5 q1 0),
              (Key.s (ByteArray.mk #[(99 : UInt8)]), SV.ptr 6 q2 0)]),
           Ent.mk (Loc.blk b2) (SObj.cells [SV.map 2 b1, SV.raw (Value.slice (@none Addr) 0 0), SV.int IntKind.i64 last] (120 : TypeId)),
           Ent.mk (Loc.blk q0) (SObj.cells [SV.vec 11 x.ao2 (List.length x.cs) x.4] (125 : TypeId)),
           Ent.mk (Loc.blk q1) (SObj.cells [SV.vec 12 y.ao2 (List.length y.cs) y.4] (125 : TypeId)),
           Ent.mk (Loc.blk q2) (SObj.cells [SV.vec 13 z.ao2 (List.length z.cs) z.4] (125 : TypeId)),
           Ent.mk (Loc.blk bw)
            (SObj.cells [SV.vec 8 x.ao1 (List.length x.1) x.3, SV.vec 9 y.ao1 (List.length y.1) y.3, SV.vec 10 z.ao1 (List.length z.1) z.3] (49 : TypeId)),
           Ent.mk (Loc.sl x.ao1 x.3) (SObj.vecL (3 : TypeId) 1 encInt x.1 (0 : Int)), Ent.mk (Loc.sl y.ao1 y.3) (SObj.vecL (3 : TypeId) 1 encInt y.1 (0 : Int)),
           Ent.mk (Loc.sl z.ao1 z.3) (SObj.vecL (3 : TypeId) 1 encInt z.1 (0 : Int)),
           Ent.mk (Loc.sl x.ao2 x.4) (SObj.vecL (52 : TypeId) 2 encDg x.cs ((0 : Int), ByteArray.empty)),
           Ent.mk (Loc.sl y.ao2 y.4) (SObj.vecL (52 : TypeId) 2 encDg y.cs ((0 : Int), ByteArray.empty)),
           Ent.mk (Loc.sl z.ao2 z.4) (SObj.vecL (52 : TypeId) 2 encDg z.cs ((0 : Int), ByteArray.empty))])
    | false =>
     K (frmR [J] (bodyOf Try.f6) 24)
      (Sy.mk
       [SV.vec 0 ao (List.length bs) cap, SV.raw (u 1), SV.bool false, SV.ptr 1 bn 0, SV.ptr 3 b2 0, SV.raw (u 5),
        SV.ptr 7 bw 0, SV.int IntKind.i64 next, SV.int IntKind.i64 i, SV.int IntKind.i64 (2 : Int), SV.raw (u 10), SV.raw (u 11), SV.raw (u 12),
        SV.raw (u 13), SV.raw (u 14), SV.raw (u 15), SV.raw (u 16), SV.raw (u 17), SV.raw (u 18), SV.raw (u 19), SV.raw (u 20),
        SV.raw (u 21), SV.raw (u 22), SV.raw (u 23), SV.raw (u 24), SV.raw (u 25), SV.raw (u 26), SV.raw (u 27), SV.raw (u 28),
        SV.raw (u 29), SV.raw (u 30), SV.raw (u 31), SV.raw (u 32), SV.raw (u 33), SV.raw (u 34), SV.raw (u 35), SV.raw (u 36),
        SV.raw (u 37), SV.raw (u 38), SV.raw (u 39), SV.raw (u 40), SV.raw (u 41), SV.raw (u 42), SV.raw (u 43),
        SV.vec 0 ao (List.length bs) cap, SV.int IntKind.i64 i, SV.eptr 0 (Addr.blkD ao) (Addr.offD ao) 1 (Int.toNat i) 0,
        SV.int IntKind.u8 (List.getD bs (Int.toNat i) (0 : Int)), SV.int IntKind.u8 (IntKind.wrap IntKind.u8 (Int.tdiv (List.getD bs (Int.toNat i) (0 : Int)) (3 : Int))),
        SV.int IntKind.u8 (Int.tmod (IntKind.wrap IntKind.u8 (Int.tdiv (List.getD bs (Int.toNat i) (0 : Int)) (3 : Int))) (2 : Int)),
        SV.bool (Int.tmod (IntKind.wrap IntKind.u8 (Int.tdiv (List.getD bs (Int.toNat i) (0 : Int)) (3 : Int))) (2 : Int) == (0 : Int)), SV.bool false, SV.raw (Value.tuple #[]),
        SV.raw (Value.tuple #[]), SV.raw (Value.tuple #[]), SV.raw (Value.tuple #[]), SV.raw (Value.tuple #[]), SV.bool false, SV.raw (u 58), SV.raw (u 59),
        SV.raw (u 60), SV.raw (u 61), SV.raw (u 62), SV.raw (u 63), SV.raw (u 64), SV.raw (u 65), SV.raw (u 66), SV.raw (u 67),
        SV.raw (u 68), SV.raw (u 69), SV.raw (u 70), SV.raw (u 71), SV.raw (u 72), SV.raw (u 73), SV.raw (u 74), SV.raw (u 75),
        SV.raw (u 76), SV.raw (u 77), SV.raw (u 78), SV.raw (u 79), SV.raw (u 80), SV.raw (u 81), SV.raw (u 82), SV.raw (u 83),
        SV.raw (u 84), SV.raw (u 85), SV.raw (u 86), SV.raw (u 87), SV.raw (u 88), SV.raw (u 89), SV.raw (u 90), SV.raw (u 91),
        SV.raw (u 92), SV.raw (u 93), SV.raw (u 94), SV.raw (u 95), SV.raw (u 96), SV.raw (u 97), SV.raw (u 98), SV.raw (u 99),
        SV.raw (u 100), SV.raw (u 101), SV.raw (u 102), SV.raw (u 103), SV.raw (u 104), SV.raw (u 105), SV.raw (u 106),
        SV.raw (u 107), SV.raw (u 108), SV.raw (u 109), SV.raw (u 110), SV.raw (u 111), SV.raw (u 112), SV.raw (u 113),
        SV.raw (u 114), SV.raw (u 115), SV.raw (u 116), SV.raw (u 117), SV.raw (u 118), SV.raw (u 119), SV.raw (u 120),
        SV.raw (u 121), SV.raw (u 122), SV.raw (u 123), SV.raw (u 124), SV.raw (u 125), SV.raw (u 126), SV.raw (u 127),
        SV.raw (u 128), SV.raw (u 129), SV.raw (u 130), SV.raw (u 131), SV.raw (u 132), SV.raw (u 133), SV.raw (u 134),
        SV.raw (u 135), SV.raw (u 136), SV.raw (u 137), SV.raw (u 138), SV.raw (u 139), SV.raw (u 140), SV.raw (u 141),
        SV.raw (u 142), SV.raw (u 143)]
       [Ent.mk (Loc.sl ao cap) (SObj.roL c0 1 encByte bs (0 : Int)),
        Ent.mk (Loc.blk bn) (SObj.cells [SV.str (ByteArray.mk #[(97 : UInt8)]), SV.str (ByteArray.mk #[(98 : UInt8)]), SV.str (ByteArray.mk #[(99 : UInt8)])] (47 : TypeId)),
        Ent.mk (Loc.blk b1)
         (SObj.mapV (@none IntKind)
          [(Key.s (ByteArray.mk #[(97 : UInt8)]), SV.ptr 4 q0 0), (Key.s (ByteArray.mk #[(98 : UInt8)]), SV.ptr 5 q1 0),
           (Key.s (ByteArray.mk #[(99 : UInt8)]), SV.ptr 6 q2 0)]),
        Ent.mk (Loc.blk b2) (SObj.cells [SV.map 2 b1, SV.raw (Value.slice (@none Addr) 0 0), SV.int IntKind.i64 last] (120 : TypeId)),
        Ent.mk (Loc.blk q0) (SObj.cells [SV.vec 11 x.ao2 (List.length x.cs) x.4] (125 : TypeId)),
        Ent.mk (Loc.blk q1) (SObj.cells [SV.vec 12 y.ao2 (List.length y.cs) y.4] (125 : TypeId)),
        Ent.mk (Loc.blk q2) (SObj.cells [SV.vec 13 z.ao2 (List.length z.cs) z.4] (125 : TypeId)),
        Ent.mk (Loc.blk bw)
         (SObj.cells [SV.vec 8 x.ao1 (List.length x.1) x.3, SV.vec 9 y.ao1 (List.length y.1) y.3, SV.vec 10 z.ao1 (List.length z.1) z.3] (49 : TypeId)),
        Ent.mk (Loc.sl x.ao1 x.3) (SObj.vecL (3 : TypeId) 1 encInt x.1 (0 : Int)), Ent.mk (Loc.sl y.ao1 y.3) (SObj.vecL (3 : TypeId) 1 encInt y.1 (0 : Int)),
        Ent.mk (Loc.sl z.ao1 z.3) (SObj.vecL (3 : TypeId) 1 encInt z.1 (0 : Int)),
        Ent.mk (Loc.sl x.ao2 x.4) (SObj.vecL (52 : TypeId) 2 encDg x.cs ((0 : Int), ByteArray.empty)),
        Ent.mk (Loc.sl y.ao2 y.4) (SObj.vecL (52 : TypeId) 2 encDg y.cs ((0 : Int), ByteArray.empty)),
        Ent.mk (Loc.sl z.ao2 z.4) (SObj.vecL (52 : TypeId) 2 encDg z.cs ((0 : Int), ByteArray.empty))])) := by kernel_rfl


theorem ps_b2 (K : List Frm → Sy → Prop) (N : List Ent → SV → Prop) (J : Act → World → Prop) (u : Nat → Value) (c0 : Ch) (cap : Nat) (ao : Option Addr) (bs : List Int) (bn b1 b2 q0 q1 q2 bw : Nat) (x y z : PSL) (i next last : Int) : (run Try.prog port5 false [29] K (retP Try.prog Try.f6.results.toList N) 1500 (frmR [J] (bodyOf Try.f6) 24) ⟨mkT u 144 0 [(0, .vec 0 ao bs.length cap), (2, .bool false), (3, .ptr 1 bn 0), (4, .ptr 3 b2 0), (6, .ptr 7 bw 0), (7, .int .i64 next), (8, .int .i64 i), (9, .int .i64 2)], psHeap c0 ao bs cap bn b1 b2 q0 q1 q2 bw x y z last⟩) = (
(ao = ao ∧ cap = cap ∧ List.length bs = List.length bs ∧ (0 : Int) ≤ i ∧ i < (↑(List.length bs) : Int)) ∧
 (Addr.blkD ao = Addr.blkD ao ∧ Addr.offD ao = Addr.offD ao ∧ 1 = 1 ∧ Int.toNat i < List.length bs) ∧
  (3 : Int) ≠ (0 : Int) ∧
   (2 : Int) ≠ (0 : Int) ∧
    match Int.tmod (IntKind.wrap IntKind.u8 (Int.tdiv (List.getD bs (Int.toNat i) (0 : Int)) (3 : Int))) (2 : Int) == (1 : Int) with
    | true =>
     ((0 : Int) ≤ (2 : Int) ∧ (2 : Int) < (↑3 : Int)) ∧
      bw = bw ∧
       match decide ((↑(List.length z.1) : Int) > (0 : Int)) with
       | true =>
        ((0 : Int) ≤ (2 : Int) ∧ (2 : Int) < (↑3 : Int)) ∧
         bn = bn ∧
          true = true ∧
           ∀ (b : Nat),
            b2 = b2 ∧
             (b1 = b1 ∧ @none IntKind = @none IntKind ∧ @none IntKind = @none IntKind) ∧
              true = true ∧
               ∀ (b_1 b_2 : Nat),
                q2 = q2 ∧
                 match (↑(List.length z.cs) : Int) == (0 : Int) with
                 | true =>
                  (b_2 = b_2 ∧ 2 = 2) ∧
                   (b_1 = b_1 ∧ true = true ∧ 2 = 2 ∧ 2 ≤ 2) ∧
                    (b_1 = b_1 ∧ 2 = 2) ∧
                     ∀ (b_3 : Nat),
                      (b_3 = b_3 ∧ true = true ∧ 2 = 2 ∧ 2 ≤ 2) ∧
                       (true = true ∧ true = true) ∧
                        (b = b ∧ true = true ∧ 2 = 2 ∧ 2 ≤ 2) ∧
                         (b = b ∧ 2 = 2) ∧
                          ∀ (b_4 : Nat),
                           (b_4 = b_4 ∧ true = true ∧ 2 = 2 ∧ 2 ≤ 2) ∧
                            N
                             [Ent.mk (Loc.sl ao cap) (SObj.roL c0 1 encByte bs (0 : Int)),
                              Ent.mk (Loc.blk bn)
                               (SObj.cells [SV.str (ByteArray.mk #[(97 : UInt8)]), SV.str (ByteArray.mk #[(98 : UInt8)]), SV.str (ByteArray.mk #[(99 : UInt8)])]
                                (47 : TypeId)),
                              Ent.mk (Loc.blk b1)
                               (SObj.mapV (@none IntKind)
                                [(Key.s (ByteArray.mk #[(97 : UInt8)]), SV.ptr 4 q0 0),
                                 (Key.s (ByteArray.mk #[(98 : UInt8)]), SV.ptr 5 q1 0),
                                 (Key.s (ByteArray.mk #[(99 : UInt8)]), SV.ptr 6 q2 0)]),
                              Ent.mk (Loc.blk b2)
                               (SObj.cells [SV.map 2 b1, SV.raw (Value.slice (@none Addr) 0 0), SV.int IntKind.i64 last] (120 : TypeId)),
                              Ent.mk (Loc.blk q0) (SObj.cells [SV.vec 11 x.ao2 (List.length x.cs) x.4] (125 : TypeId)),
                              Ent.mk (Loc.blk q1) (SObj.cells [SV.vec 12 y.ao2 (List.length y.cs) y.4] (125 : TypeId)),
                              Ent.mk (Loc.blk q2) (SObj.cells [SV.vec 13 z.ao2 (List.length z.cs) z.4] (125 : TypeId)),
                              Ent.mk (Loc.blk bw)
                               (SObj.cells
                                [SV.vec 8 x.ao1 (List.length x.1) x.3, SV.vec 9 y.ao1 (List.length y.1) y.3,
                                 SV.vec 10 z.ao1 (List.length z.1) z.3]
                                (49 : TypeId)),
                              Ent.mk (Loc.sl x.ao1 x.3) (SObj.vecL (3 : TypeId) 1 encInt x.1 (0 : Int)),
                              Ent.mk (Loc.sl y.ao1 y.3) (SObj.vecL (3 : TypeId) 1 encInt y.1 (0 : Int)),
                              Ent.mk (Loc.sl z.ao1 z.3) (SObj.vecL (3 : TypeId) 1 encInt z.1 (0 : Int)),
                              Ent.mk (Loc.sl x.ao2 x.4) (SObj.vecL (52 : TypeId) 2 encDg x.cs ((0 : Int), ByteArray.empty)),
                              Ent.mk (Loc.sl y.ao2 y.4) (SObj.vecL (52 : TypeId) 2 encDg y.cs ((0 : Int), ByteArray.empty)),
                              Ent.mk (Loc.sl z.ao2 z.4) (SObj.vecL (52 : TypeId) 2 encDg z.cs ((0 : Int), ByteArray.empty)),
                              Ent.mk (Loc.blk b) (SObj.cells [SV.int IntKind.i64 (0 : Int), SV.str (ByteArray.mk #[])] 52),
                              Ent.mk (Loc.blk b_1) (SObj.cells [SV.int IntKind.i64 (0 : Int), SV.str (ByteArray.mk #[])] 52),
                              Ent.mk (Loc.blk b_2) (SObj.cells [SV.int IntKind.i64 (0 : Int), SV.str (ByteArray.mk #[])] 52),
                              Ent.mk (Loc.blk b_3) (SObj.cells [SV.int IntKind.i64 (0 : Int), SV.str (ByteArray.mk #[])] 52),
                              Ent.mk (Loc.blk b_4) (SObj.cells [SV.int IntKind.i64 (0 : Int), SV.str (ByteArray.mk #[])] 52)]
                             (SV.bool false)
                 | false =>
                  q2 = q2 ∧
                   (z.ao2 = z.ao2 ∧ z.4 = z.4 ∧ List.length z.cs = List.length z.cs ∧ (0 : Int) ≤ (0 : Int) ∧ (0 : Int) < (↑(List.length z.cs) : Int)) ∧
                    (Addr.blkD z.ao2 = Addr.blkD z.ao2 ∧ Addr.offD z.ao2 = Addr.offD z.ao2 ∧ 2 = 2 ∧ 0 < List.length z.cs ∧ 2 = 2) ∧
                     (q2 = q2 ∧
                      ((0 : Int) ≤ (1 : Int) ∧ (1 : Int) ≤ (↑(List.length z.cs) : Int) ∧ List.length z.cs ≤ z.4) ∧
                       (b_2 = b_2 ∧ true = true ∧ 2 = 2 ∧ 2 ≤ 2) ∧
                        (q2 = q2 ∧ true = true ∧ 1 = 1 ∧ 1 ≤ 1) ∧
                         (b_2 = b_2 ∧ 2 = 2) ∧
                          (b_1 = b_1 ∧ true = true ∧ 2 = 2 ∧ 2 ≤ 2) ∧
                           (b_1 = b_1 ∧ 2 = 2) ∧
                            ∀ (b_3 : Nat),
                             (b_3 = b_3 ∧ true = true ∧ 2 = 2 ∧ 2 ≤ 2) ∧
                              (b_3 = b_3 ∧ 2 = 2) ∧
                               (b = b ∧ true = true ∧ 2 = 2 ∧ 2 ≤ 2) ∧
                                (b = b ∧ 2 = 2) ∧
                                 ∀ (b_4 : Nat),
                                  (b_4 = b_4 ∧ true = true ∧ 2 = 2 ∧ 2 ≤ 2) ∧
                                   (b_4 = b_4 ∧ 2 = 2) ∧
                                    ((0 : Int) ≤ (2 : Int) ∧ (2 : Int) < (↑3 : Int)) ∧
                                     bw = bw ∧
                                      (z.ao1 = z.ao1 ∧
                                       z.3 = z.3 ∧ List.length z.1 = List.length z.1 ∧ (0 : Int) ≤ (0 : Int) ∧ (0 : Int) < (↑(List.length z.1) : Int)) ∧
                                       (Addr.blkD z.ao1 = Addr.blkD z.ao1 ∧
                                        Addr.offD z.ao1 = Addr.offD z.ao1 ∧ 1 = 1 ∧ 0 < List.length z.1) ∧
                                        ((0 : Int) ≤ (2 : Int) ∧ (2 : Int) < (↑3 : Int)) ∧
                                         bn = bn ∧
                                          (true = true ∧ true = true) ∧
                                           match
                                            !((List.getD z.cs 0 ((0 : Int), ByteArray.empty)).1 == List.getD z.1 0 (0 : Int) &&
                                             (sEq (List.getD z.cs 0 ((0 : Int), ByteArray.empty)).snd (ByteArray.mk #[(99 : UInt8)]) &&
                                              true)) with
                                           | true =>
                                            N
                                             [Ent.mk (Loc.sl ao cap) (SObj.roL c0 1 encByte bs (0 : Int)),
                                              Ent.mk (Loc.blk bn)
                                               (SObj.cells
                                                [SV.str (ByteArray.mk #[(97 : UInt8)]), SV.str (ByteArray.mk #[(98 : UInt8)]),
                                                 SV.str (ByteArray.mk #[(99 : UInt8)])]
                                                (47 : TypeId)),
                                              Ent.mk (Loc.blk b1)
                                               (SObj.mapV (@none IntKind)
                                                [(Key.s (ByteArray.mk #[(97 : UInt8)]), SV.ptr 4 q0 0),
                                                 (Key.s (ByteArray.mk #[(98 : UInt8)]), SV.ptr 5 q1 0),
                                                 (Key.s (ByteArray.mk #[(99 : UInt8)]), SV.ptr 6 q2 0)]),
                                              Ent.mk (Loc.blk b2)
                                               (SObj.cells
                                                [SV.map 2 b1, SV.raw (Value.slice (@none Addr) 0 0), SV.int IntKind.i64 last]
                                                (120 : TypeId)),
                                              Ent.mk (Loc.blk q0) (SObj.cells [SV.vec 11 x.ao2 (List.length x.cs) x.4] (125 : TypeId)),
                                              Ent.mk (Loc.blk q1) (SObj.cells [SV.vec 12 y.ao2 (List.length y.cs) y.4] (125 : TypeId)),
                                              Ent.mk (Loc.blk q2)
                                               (SObj.cells [SV.sub 13 z.ao2 z.4 2 1 (List.length z.cs)] (125 : TypeId)),
                                              Ent.mk (Loc.blk bw)
                                               (SObj.cells
                                                [SV.vec 8 x.ao1 (List.length x.1) x.3, SV.vec 9 y.ao1 (List.length y.1) y.3,
                                                 SV.vec 10 z.ao1 (List.length z.1) z.3]
                                                (49 : TypeId)),
                                              Ent.mk (Loc.sl x.ao1 x.3) (SObj.vecL (3 : TypeId) 1 encInt x.1 (0 : Int)),
                                              Ent.mk (Loc.sl y.ao1 y.3) (SObj.vecL (3 : TypeId) 1 encInt y.1 (0 : Int)),
                                              Ent.mk (Loc.sl z.ao1 z.3) (SObj.vecL (3 : TypeId) 1 encInt z.1 (0 : Int)),
                                              Ent.mk (Loc.sl x.ao2 x.4) (SObj.vecL (52 : TypeId) 2 encDg x.cs ((0 : Int), ByteArray.empty)),
                                              Ent.mk (Loc.sl y.ao2 y.4) (SObj.vecL (52 : TypeId) 2 encDg y.cs ((0 : Int), ByteArray.empty)),
                                              Ent.mk (Loc.sl z.ao2 z.4) (SObj.vecL (52 : TypeId) 2 encDg z.cs ((0 : Int), ByteArray.empty)),
                                              Ent.mk (Loc.blk b)
                                               (SObj.cells
                                                [SV.int IntKind.i64 (List.getD z.cs 0 ((0 : Int), ByteArray.empty)).1,
                                                 SV.str (List.getD z.cs 0 ((0 : Int), ByteArray.empty)).snd]
                                                52),
                                              Ent.mk (Loc.blk b_1)
                                               (SObj.cells
                                                [SV.int IntKind.i64 (List.getD z.cs 0 ((0 : Int), ByteArray.empty)).1,
                                                 SV.str (List.getD z.cs 0 ((0 : Int), ByteArray.empty)).snd]
                                                52),
                                              Ent.mk (Loc.blk b_2)
                                               (SObj.cells
                                                [SV.int IntKind.i64 (List.getD z.cs 0 ((0 : Int), ByteArray.empty)).1,
                                                 SV.str (List.getD z.cs 0 ((0 : Int), ByteArray.empty)).snd]
                                                52),
                                              Ent.mk (Loc.blk b_3)
                                               (SObj.cells
                                                [SV.int IntKind.i64 (List.getD z.cs 0 ((0 : Int), ByteArray.empty)).1,
                                                 SV.str (List.getD z.cs 0 ((0 : Int), ByteArray.empty)).snd]
                                                52),
                                              Ent.mk (Loc.blk b_4)
                                               (SObj.cells
                                                [SV.int IntKind.i64 (List.getD z.cs 0 ((0 : Int), ByteArray.empty)).1,
                                                 SV.str (List.getD z.cs 0 ((0 : Int), ByteArray.empty)).snd]
                                                52)]
                                             (SV.bool false)
                                           | false =>
                                            ((0 : Int) ≤ (2 : Int) ∧ (2 : Int) < (↑3 : Int)) ∧
                                             bw = bw ∧
                                              ((0 : Int) ≤ (1 : Int) ∧ (1 : Int) ≤ (↑(List.length z.1) : Int) ∧ List.length z.1 ≤ z.3) ∧
                                               ((0 : Int) ≤ (2 : Int) ∧ (2 : Int) < (↑3 : Int)) ∧
                                                (bw = bw ∧ true = true ∧ 1 = 1 ∧ 3 ≤ 3) ∧
                                                 K (frmR [J] (bodyOf Try.f6) 29)
                                                  (Sy.mk
                                                   [SV.vec 0 ao (List.length bs) cap, SV.raw (u 1), SV.bool false,
                                                    SV.ptr 1 bn 0, SV.ptr 3 b2 0, SV.raw (u 5),
                                                    SV.ptr 7 bw 0, SV.int IntKind.i64 next, SV.int IntKind.i64 i,
                                                    SV.int IntKind.i64 (2 : Int), SV.raw (u 10), SV.raw (u 11),
                                                    SV.ptr 18 b_4 0, SV.int IntKind.i64 (0 : Int), SV.raw (u 14),
                                                    SV.raw (u 15), SV.raw (u 16), SV.raw (u 17), SV.raw (u 18),
                                                    SV.raw (u 19), SV.raw (u 20), SV.raw (u 21), SV.raw (u 22),
                                                    SV.raw (u 23), SV.raw (u 24), SV.raw (u 25), SV.raw (u 26),
                                                    SV.raw (u 27), SV.raw (u 28), SV.raw (u 29), SV.raw (u 30),
                                                    SV.raw (u 31), SV.raw (u 32), SV.raw (u 33), SV.raw (u 34),
                                                    SV.raw (u 35), SV.raw (u 36), SV.raw (u 37), SV.raw (u 38),
                                                    SV.raw (u 39), SV.raw (u 40), SV.raw (u 41), SV.raw (u 42),
                                                    SV.raw (u 43), SV.raw (u 44), SV.raw (u 45), SV.raw (u 46),
                                                    SV.raw (u 47), SV.raw (u 48), SV.raw (u 49), SV.raw (u 50),
                                                    SV.raw (u 51), SV.raw (u 52), SV.raw (u 53), SV.raw (u 54),
                                                    SV.raw (u 55), SV.raw (u 56), SV.raw (u 57), SV.raw (u 58),
                                                    SV.raw (u 59), SV.raw (u 60), SV.raw (u 61), SV.raw (u 62),
                                                    SV.raw (u 63), SV.raw (u 64), SV.raw (u 65), SV.raw (u 66),
                                                    SV.raw (u 67), SV.raw (u 68), SV.raw (u 69), SV.raw (u 70),
                                                    SV.raw (u 71), SV.raw (u 72), SV.raw (u 73), SV.raw (u 74),
                                                    SV.raw (u 75), SV.raw (u 76), SV.raw (u 77), SV.raw (u 78),
                                                    SV.raw (u 79), SV.raw (u 80), SV.raw (u 81), SV.raw (u 82),
                                                    SV.raw (u 83), SV.raw (u 84), SV.raw (u 85),
                                                    SV.vec 0 ao (List.length bs) cap, SV.int IntKind.i64 i,
                                                    SV.eptr 0 (Addr.blkD ao) (Addr.offD ao) 1 (Int.toNat i) 0,
                                                    SV.int IntKind.u8 (List.getD bs (Int.toNat i) (0 : Int)),
                                                    SV.int IntKind.u8
                                                     (IntKind.wrap IntKind.u8 (Int.tdiv (List.getD bs (Int.toNat i) (0 : Int)) (3 : Int))),
                                                    SV.int IntKind.u8
                                                     (Int.tmod
                                                      (IntKind.wrap IntKind.u8 (Int.tdiv (List.getD bs (Int.toNat i) (0 : Int)) (3 : Int)))
                                                      (2 : Int)),
                                                    SV.bool
                                                     (Int.tmod
                                                      (IntKind.wrap IntKind.u8 (Int.tdiv (List.getD bs (Int.toNat i) (0 : Int)) (3 : Int)))
                                                      (2 : Int) ==
                                                      (1 : Int)),
                                                    SV.bool true, SV.int IntKind.i64 (2 : Int), SV.ptr 7 bw 2,
                                                    SV.vec 10 z.ao1 (List.length z.1) z.3, SV.int IntKind.i64 (↑(List.length z.1) : Int),
                                                    SV.bool (decide ((↑(List.length z.1) : Int) > (0 : Int))), SV.bool true,
                                                    SV.tuple
                                                     [SV.agg
                                                      [SV.int IntKind.i64 (List.getD z.cs 0 ((0 : Int), ByteArray.empty)).1,
                                                       SV.str (List.getD z.cs 0 ((0 : Int), ByteArray.empty)).snd],
                                                      SV.int IntKind.i64 (0 : Int)],
                                                    SV.ptr 3 b2 0, SV.int IntKind.i64 (2 : Int), SV.ptr 1 bn 2,
                                                    SV.str (ByteArray.mk #[(99 : UInt8)]),
                                                    SV.tuple
                                                     [SV.agg
                                                      [SV.int IntKind.i64 (List.getD z.cs 0 ((0 : Int), ByteArray.empty)).1,
                                                       SV.str (List.getD z.cs 0 ((0 : Int), ByteArray.empty)).snd],
                                                      SV.int IntKind.i64 (0 : Int)],
                                                    SV.agg
                                                     [SV.int IntKind.i64 (List.getD z.cs 0 ((0 : Int), ByteArray.empty)).1,
                                                      SV.str (List.getD z.cs 0 ((0 : Int), ByteArray.empty)).snd],
                                                    SV.int IntKind.i64 (0 : Int), SV.int IntKind.i64 (0 : Int), SV.bool false, SV.bool false,
                                                    SV.agg
                                                     [SV.int IntKind.i64 (List.getD z.cs 0 ((0 : Int), ByteArray.empty)).1,
                                                      SV.str (List.getD z.cs 0 ((0 : Int), ByteArray.empty)).snd],
                                                    SV.int IntKind.i64 (2 : Int), SV.ptr 7 bw 2,
                                                    SV.vec 10 z.ao1 (List.length z.1) z.3,
                                                    SV.eptr 10 (Addr.blkD z.ao1) (Addr.offD z.ao1) 1 0 0,
                                                    SV.int IntKind.i64 (List.getD z.1 0 (0 : Int)), SV.int IntKind.i64 (2 : Int),
                                                    SV.ptr 1 bn 2, SV.str (ByteArray.mk #[(99 : UInt8)]),
                                                    SV.agg
                                                     [SV.int IntKind.i64 (List.getD z.1 0 (0 : Int)),
                                                      SV.str (ByteArray.mk #[(99 : UInt8)])],
                                                    SV.bool
                                                     !((List.getD z.cs 0 ((0 : Int), ByteArray.empty)).1 ==
                                                      List.getD z.1 0 (0 : Int) &&
                                                      (sEq (List.getD z.cs 0 ((0 : Int), ByteArray.empty)).snd
                                                       (ByteArray.mk #[(99 : UInt8)]) &&
                                                       true)),
                                                    SV.bool false, SV.int IntKind.i64 (2 : Int), SV.int IntKind.i64 (2 : Int),
                                                    SV.ptr 7 bw 2, SV.vec 10 z.ao1 (List.length z.1) z.3,
                                                    SV.sub 10 z.ao1 z.3 1 1 (List.length z.1),
                                                    SV.ptr 7 bw 2, SV.raw (u 129), SV.raw (u 130),
                                                    SV.raw (u 131), SV.raw (u 132), SV.raw (u 133),
                                                    SV.raw (u 134), SV.raw (u 135), SV.raw (u 136),
                                                    SV.raw (u 137), SV.raw (u 138), SV.raw (u 139),
                                                    SV.raw (u 140), SV.raw (u 141), SV.raw (u 142),
                                                    SV.raw (u 143)]
                                                   [Ent.mk (Loc.sl ao cap) (SObj.roL c0 1 encByte bs (0 : Int)),
                                                    Ent.mk (Loc.blk bn)
                                                     (SObj.cells
                                                      [SV.str (ByteArray.mk #[(97 : UInt8)]), SV.str (ByteArray.mk #[(98 : UInt8)]),
                                                       SV.str (ByteArray.mk #[(99 : UInt8)])]
                                                      (47 : TypeId)),
                                                    Ent.mk (Loc.blk b1)
                                                     (SObj.mapV (@none IntKind)
                                                      [(Key.s (ByteArray.mk #[(97 : UInt8)]), SV.ptr 4 q0 0),
                                                       (Key.s (ByteArray.mk #[(98 : UInt8)]), SV.ptr 5 q1 0),
                                                       (Key.s (ByteArray.mk #[(99 : UInt8)]), SV.ptr 6 q2 0)]),
                                                    Ent.mk (Loc.blk b2)
                                                     (SObj.cells
                                                      [SV.map 2 b1, SV.raw (Value.slice (@none Addr) 0 0),
                                                       SV.int IntKind.i64 last]
                                                      (120 : TypeId)),
                                                    Ent.mk (Loc.blk q0)
                                                     (SObj.cells [SV.vec 11 x.ao2 (List.length x.cs) x.4] (125 : TypeId)),
                                                    Ent.mk (Loc.blk q1)
                                                     (SObj.cells [SV.vec 12 y.ao2 (List.length y.cs) y.4] (125 : TypeId)),
                                                    Ent.mk (Loc.blk q2)
                                                     (SObj.cells [SV.sub 13 z.ao2 z.4 2 1 (List.length z.cs)]
                                                      (125 : TypeId)),
                                                    Ent.mk (Loc.blk bw)
                                                     (SObj.cells
                                                      [SV.vec 8 x.ao1 (List.length x.1) x.3,
                                                       SV.vec 9 y.ao1 (List.length y.1) y.3,
                                                       SV.sub 10 z.ao1 z.3 1 1 (List.length z.1)]
                                                      (49 : TypeId)),
                                                    Ent.mk (Loc.sl x.ao1 x.3) (SObj.vecL (3 : TypeId) 1 encInt x.1 (0 : Int)),
                                                    Ent.mk (Loc.sl y.ao1 y.3) (SObj.vecL (3 : TypeId) 1 encInt y.1 (0 : Int)),
                                                    Ent.mk (Loc.sl z.ao1 z.3) (SObj.vecL (3 : TypeId) 1 encInt z.1 (0 : Int)),
                                                    Ent.mk (Loc.sl x.ao2 x.4)
                                                     (SObj.vecL (52 : TypeId) 2 encDg x.cs ((0 : Int), ByteArray.empty)),
                                                    Ent.mk (Loc.sl y.ao2 y.4)
                                                     (SObj.vecL (52 : TypeId) 2 encDg y.cs ((0 : Int), ByteArray.empty)),
                                                    Ent.mk (Loc.sl z.ao2 z.4)
                                                     (SObj.vecL (52 : TypeId) 2 encDg z.cs ((0 : Int), ByteArray.empty)),
                                                    Ent.mk (Loc.blk b)
                                                     (SObj.cells
                                                      [SV.int IntKind.i64 (List.getD z.cs 0 ((0 : Int), ByteArray.empty)).1,
                                                       SV.str (List.getD z.cs 0 ((0 : Int), ByteArray.empty)).snd]
                                                      52),
                                                    Ent.mk (Loc.blk b_1)
                                                     (SObj.cells
                                                      [SV.int IntKind.i64 (List.getD z.cs 0 ((0 : Int), ByteArray.empty)).1,
                                                       SV.str (List.getD z.cs 0 ((0 : Int), ByteArray.empty)).snd]
                                                      52),
                                                    Ent.mk (Loc.blk b_2)
                                                     (SObj.cells
                                                      [SV.int IntKind.i64 (List.getD z.cs 0 ((0 : Int), ByteArray.empty)).1,
                                                       SV.str (List.getD z.cs 0 ((0 : Int), ByteArray.empty)).snd]
                                                      52),
                                                    Ent.mk (Loc.blk b_3)
                                                     (SObj.cells
                                                      [SV.int IntKind.i64 (List.getD z.cs 0 ((0 : Int), ByteArray.empty)).1,
                                                       SV.str (List.getD z.cs 0 ((0 : Int), ByteArray.empty)).snd]
                                                      52),
                                                    Ent.mk (Loc.blk b_4)
                                                     (SObj.cells
                                                      [SV.int IntKind.i64 (List.getD z.cs 0 ((0 : Int), ByteArray.empty)).1,
                                                       SV.str (List.getD z.cs 0 ((0 : Int), ByteArray.empty)).snd]
                                                      52)])) ∧
                      (b_2 = b_2 ∧ true = true ∧ 2 = 2 ∧ 2 ≤ 2) ∧
                       q2 = q2 ∧
                        ((0 : Int) ≤ (1 : Int) ∧ (1 : Int) ≤ (↑(List.length z.cs) : Int) ∧ List.length z.cs ≤ z.4) ∧
                         (q2 = q2 ∧ true = true ∧ 1 = 1 ∧ 1 ≤ 1) ∧
                          (b_2 = b_2 ∧ 2 = 2) ∧
                           (b_1 = b_1 ∧ true = true ∧ 2 = 2 ∧ 2 ≤ 2) ∧
                            (b_1 = b_1 ∧ 2 = 2) ∧
                             ∀ (b_3 : Nat),
                              (b_3 = b_3 ∧ true = true ∧ 2 = 2 ∧ 2 ≤ 2) ∧
                               (b_3 = b_3 ∧ 2 = 2) ∧
                                (b = b ∧ true = true ∧ 2 = 2 ∧ 2 ≤ 2) ∧
                                 (b = b ∧ 2 = 2) ∧
                                  ∀ (b_4 : Nat),
                                   (b_4 = b_4 ∧ true = true ∧ 2 = 2 ∧ 2 ≤ 2) ∧
                                    (b_4 = b_4 ∧ 2 = 2) ∧
                                     ((0 : Int) ≤ (2 : Int) ∧ (2 : Int) < (↑3 : Int)) ∧
                                      bw = bw ∧
                                       (z.ao1 = z.ao1 ∧
                                        z.3 = z.3 ∧ List.length z.1 = List.length z.1 ∧ (0 : Int) ≤ (0 : Int) ∧ (0 : Int) < (↑(List.length z.1) : Int)) ∧
                                        (Addr.blkD z.ao1 = Addr.blkD z.ao1 ∧
                                         Addr.offD z.ao1 = Addr.offD z.ao1 ∧ 1 = 1 ∧ 0 < List.length z.1) ∧
                                         ((0 : Int) ≤ (2 : Int) ∧ (2 : Int) < (↑3 : Int)) ∧
                                          bn = bn ∧
                                           (true = true ∧ true = true) ∧
                                            match
                                             !((List.getD z.cs 0 ((0 : Int), ByteArray.empty)).1 == List.getD z.1 0 (0 : Int) &&
                                              (sEq (List.getD z.cs 0 ((0 : Int), ByteArray.empty)).snd (ByteArray.mk #[(99 : UInt8)]) &&
                                               true)) with
                                            | true =>
                                             N
                                              [Ent.mk (Loc.sl ao cap) (SObj.roL c0 1 encByte bs (0 : Int)),
                                               Ent.mk (Loc.blk bn)
                                                (SObj.cells
                                                 [SV.str (ByteArray.mk #[(97 : UInt8)]), SV.str (ByteArray.mk #[(98 : UInt8)]),
                                                  SV.str (ByteArray.mk #[(99 : UInt8)])]
                                                 (47 : TypeId)),
                                               Ent.mk (Loc.blk b1)
                                                (SObj.mapV (@none IntKind)
                                                 [(Key.s (ByteArray.mk #[(97 : UInt8)]), SV.ptr 4 q0 0),
                                                  (Key.s (ByteArray.mk #[(98 : UInt8)]), SV.ptr 5 q1 0),
                                                  (Key.s (ByteArray.mk #[(99 : UInt8)]), SV.ptr 6 q2 0)]),
                                               Ent.mk (Loc.blk b2)
                                                (SObj.cells
                                                 [SV.map 2 b1, SV.raw (Value.slice (@none Addr) 0 0), SV.int IntKind.i64 last]
                                                 (120 : TypeId)),
                                               Ent.mk (Loc.blk q0) (SObj.cells [SV.vec 11 x.ao2 (List.length x.cs) x.4] (125 : TypeId)),
                                               Ent.mk (Loc.blk q1) (SObj.cells [SV.vec 12 y.ao2 (List.length y.cs) y.4] (125 : TypeId)),
                                               Ent.mk (Loc.blk q2)
                                                (SObj.cells [SV.sub 13 z.ao2 z.4 2 1 (List.length z.cs)] (125 : TypeId)),
                                               Ent.mk (Loc.blk bw)
                                                (SObj.cells
                                                 [SV.vec 8 x.ao1 (List.length x.1) x.3, SV.vec 9 y.ao1 (List.length y.1) y.3,
                                                  SV.vec 10 z.ao1 (List.length z.1) z.3]
                                                 (49 : TypeId)),
                                               Ent.mk (Loc.sl x.ao1 x.3) (SObj.vecL (3 : TypeId) 1 encInt x.1 (0 : Int)),
                                               Ent.mk (Loc.sl y.ao1 y.3) (SObj.vecL (3 : TypeId) 1 encInt y.1 (0 : Int)),
                                               Ent.mk (Loc.sl z.ao1 z.3) (SObj.vecL (3 : TypeId) 1 encInt z.1 (0 : Int)),
                                               Ent.mk (Loc.sl x.ao2 x.4) (SObj.vecL (52 : TypeId) 2 encDg x.cs ((0 : Int), ByteArray.empty)),
                                               Ent.mk (Loc.sl y.ao2 y.4) (SObj.vecL (52 : TypeId) 2 encDg y.cs ((0 : Int), ByteArray.empty)),
                                               Ent.mk (Loc.sl z.ao2 z.4) (SObj.vecL (52 : TypeId) 2 encDg z.cs ((0 : Int), ByteArray.empty)),
                                               Ent.mk (Loc.blk b)
                                                (SObj.cells
                                                 [SV.int IntKind.i64 (List.getD z.cs 0 ((0 : Int), ByteArray.empty)).1,
                                                  SV.str (List.getD z.cs 0 ((0 : Int), ByteArray.empty)).snd]
                                                 52),
                                               Ent.mk (Loc.blk b_1)
                                                (SObj.cells
                                                 [SV.int IntKind.i64 (List.getD z.cs 0 ((0 : Int), ByteArray.empty)).1,
                                                  SV.str (List.getD z.cs 0 ((0 : Int), ByteArray.empty)).snd]
                                                 52),
                                               Ent.mk (Loc.blk b_2)
                                                (SObj.cells
                                                 [SV.int IntKind.i64 (List.getD z.cs 0 ((0 : Int), ByteArray.empty)).1,
                                                  SV.str (List.getD z.cs 0 ((0 : Int), ByteArray.empty)).snd]
                                                 52),
                                               Ent.mk (Loc.blk b_3)
                                                (SObj.cells
                                                 [SV.int IntKind.i64 (List.getD z.cs 0 ((0 : Int), ByteArray.empty)).1,
                                                  SV.str (List.getD z.cs 0 ((0 : Int), ByteArray.empty)).snd]
                                                 52),
                                               Ent.mk (Loc.blk b_4)
                                                (SObj.cells
                                                 [SV.int IntKind.i64 (List.getD z.cs 0 ((0 : Int), ByteArray.empty)).1,
                                                  SV.str (List.getD z.cs 0 ((0 : Int), ByteArray.empty)).snd]
                                                 52)]
                                              (SV.bool false)
                                            | false =>
                                             ((0 : Int) ≤ (2 : Int) ∧ (2 : Int) < (↑3 : Int)) ∧
                                              bw = bw ∧
                                               ((0 : Int) ≤ (1 : Int) ∧ (1 : Int) ≤ (↑(List.length z.1) : Int) ∧ List.length z.1 ≤ z.3) ∧
                                                ((0 : Int) ≤ (2 : Int) ∧ (2 : Int) < (↑3 : Int)) ∧
                                                 (bw = bw ∧ true = true ∧ 1 = 1 ∧ 3 ≤ 3) ∧
                                                  K (frmR [J] (bodyOf Try.f6) 29)
                                                   (Sy.mk
                                                    [SV.vec 0 ao (List.length bs) cap, SV.raw (u 1), SV.bool false,
                                                     SV.ptr 1 bn 0, SV.ptr 3 b2 0, SV.raw (u 5),
                                                     SV.ptr 7 bw 0, SV.int IntKind.i64 next, SV.int IntKind.i64 i,
                                                     SV.int IntKind.i64 (2 : Int), SV.raw (u 10), SV.raw (u 11),
                                                     SV.ptr 18 b_4 0, SV.int IntKind.i64 (0 : Int), SV.raw (u 14),
                                                     SV.raw (u 15), SV.raw (u 16), SV.raw (u 17), SV.raw (u 18),
                                                     SV.raw (u 19), SV.raw (u 20), SV.raw (u 21), SV.raw (u 22),
                                                     SV.raw (u 23), SV.raw (u 24), SV.raw (u 25), SV.raw (u 26),
                                                     SV.raw (u 27), SV.raw (u 28), SV.raw (u 29), SV.raw (u 30),
                                                     SV.raw (u 31), SV.raw (u 32), SV.raw (u 33), SV.raw (u 34),
                                                     SV.raw (u 35), SV.raw (u 36), SV.raw (u 37), SV.raw (u 38),
                                                     SV.raw (u 39), SV.raw (u 40), SV.raw (u 41), SV.raw (u 42),
                                                     SV.raw (u 43), SV.raw (u 44), SV.raw (u 45), SV.raw (u 46),
                                                     SV.raw (u 47), SV.raw (u 48), SV.raw (u 49), SV.raw (u 50),
                                                     SV.raw (u 51), SV.raw (u 52), SV.raw (u 53), SV.raw (u 54),
                                                     SV.raw (u 55), SV.raw (u 56), SV.raw (u 57), SV.raw (u 58),
                                                     SV.raw (u 59), SV.raw (u 60), SV.raw (u 61), SV.raw (u 62),
                                                     SV.raw (u 63), SV.raw (u 64), SV.raw (u 65), SV.raw (u 66),
                                                     SV.raw (u 67), SV.raw (u 68), SV.raw (u 69), SV.raw (u 70),
                                                     SV.raw (u 71), SV.raw (u 72), SV.raw (u 73), SV.raw (u 74),
                                                     SV.raw (u 75), SV.raw (u 76), SV.raw (u 77), SV.raw (u 78),
                                                     SV.raw (u 79), SV.raw (u 80), SV.raw (u 81), SV.raw (u 82),
                                                     SV.raw (u 83), SV.raw (u 84), SV.raw (u 85),
                                                     SV.vec 0 ao (List.length bs) cap, SV.int IntKind.i64 i,
                                                     SV.eptr 0 (Addr.blkD ao) (Addr.offD ao) 1 (Int.toNat i) 0,
                                                     SV.int IntKind.u8 (List.getD bs (Int.toNat i) (0 : Int)),
                                                     SV.int IntKind.u8
                                                      (IntKind.wrap IntKind.u8 (Int.tdiv (List.getD bs (Int.toNat i) (0 : Int)) (3 : Int))),
                                                     SV.int IntKind.u8
                                                      (Int.tmod
                                                       (IntKind.wrap IntKind.u8 (Int.tdiv (List.getD bs (Int.toNat i) (0 : Int)) (3 : Int)))
                                                       (2 : Int)),
                                                     SV.bool
                                                      (Int.tmod
                                                       (IntKind.wrap IntKind.u8 (Int.tdiv (List.getD bs (Int.toNat i) (0 : Int)) (3 : Int)))
                                                       (2 : Int) ==
                                                       (1 : Int)),
                                                     SV.bool true, SV.int IntKind.i64 (2 : Int), SV.ptr 7 bw 2,
                                                     SV.vec 10 z.ao1 (List.length z.1) z.3, SV.int IntKind.i64 (↑(List.length z.1) : Int),
                                                     SV.bool (decide ((↑(List.length z.1) : Int) > (0 : Int))), SV.bool true,
                                                     SV.tuple
                                                      [SV.agg
                                                       [SV.int IntKind.i64 (List.getD z.cs 0 ((0 : Int), ByteArray.empty)).1,
                                                        SV.str (List.getD z.cs 0 ((0 : Int), ByteArray.empty)).snd],
                                                       SV.int IntKind.i64 (0 : Int)],
                                                     SV.ptr 3 b2 0, SV.int IntKind.i64 (2 : Int), SV.ptr 1 bn 2,
                                                     SV.str (ByteArray.mk #[(99 : UInt8)]),
                                                     SV.tuple
                                                      [SV.agg
                                                       [SV.int IntKind.i64 (List.getD z.cs 0 ((0 : Int), ByteArray.empty)).1,
                                                        SV.str (List.getD z.cs 0 ((0 : Int), ByteArray.empty)).snd],
                                                       SV.int IntKind.i64 (0 : Int)],
                                                     SV.agg
                                                      [SV.int IntKind.i64 (List.getD z.cs 0 ((0 : Int), ByteArray.empty)).1,
                                                       SV.str (List.getD z.cs 0 ((0 : Int), ByteArray.empty)).snd],
                                                     SV.int IntKind.i64 (0 : Int), SV.int IntKind.i64 (0 : Int), SV.bool false, SV.bool false,
                                                     SV.agg
                                                      [SV.int IntKind.i64 (List.getD z.cs 0 ((0 : Int), ByteArray.empty)).1,
                                                       SV.str (List.getD z.cs 0 ((0 : Int), ByteArray.empty)).snd],
                                                     SV.int IntKind.i64 (2 : Int), SV.ptr 7 bw 2,
                                                     SV.vec 10 z.ao1 (List.length z.1) z.3,
                                                     SV.eptr 10 (Addr.blkD z.ao1) (Addr.offD z.ao1) 1 0 0,
                                                     SV.int IntKind.i64 (List.getD z.1 0 (0 : Int)), SV.int IntKind.i64 (2 : Int),
                                                     SV.ptr 1 bn 2, SV.str (ByteArray.mk #[(99 : UInt8)]),
                                                     SV.agg
                                                      [SV.int IntKind.i64 (List.getD z.1 0 (0 : Int)),
                                                       SV.str (ByteArray.mk #[(99 : UInt8)])],
                                                     SV.bool
                                                      !((List.getD z.cs 0 ((0 : Int), ByteArray.empty)).1 ==
                                                       List.getD z.1 0 (0 : Int) &&
                                                       (sEq (List.getD z.cs 0 ((0 : Int), ByteArray.empty)).snd
                                                        (ByteArray.mk #[(99 : UInt8)]) &&
                                                        true)),
                                                     SV.bool false, SV.int IntKind.i64 (2 : Int), SV.int IntKind.i64 (2 : Int),
                                                     SV.ptr 7 bw 2, SV.vec 10 z.ao1 (List.length z.1) z.3,
                                                     SV.sub 10 z.ao1 z.3 1 1 (List.length z.1),
                                                     SV.ptr 7 bw 2, SV.raw (u 129), SV.raw (u 130),
                                                     SV.raw (u 131), SV.raw (u 132), SV.raw (u 133),
                                                     SV.raw (u 134), SV.raw (u 135), SV.raw (u 136),
                                                     SV.raw (u 137), SV.raw (u 138), SV.raw (u 139),
                                                     SV.raw (u 140), SV.raw (u 141), SV.raw (u 142),
                                                     SV.raw (u 143)]
                                                    [Ent.mk (Loc.sl ao cap) (SObj.roL c0 1 encByte bs (0 : Int)),
                                                     Ent.mk (Loc.blk bn)
                                                      (SObj.cells
                                                       [SV.str (ByteArray.mk #[(97 : UInt8)]), SV.str (ByteArray.mk #[(98 : UInt8)]),
                                                        SV.str (ByteArray.mk #[(99 : UInt8)])]
                                                       (47 : TypeId)),
                                                     Ent.mk (Loc.blk b1)
                                                      (SObj.mapV (@none IntKind)
                                                       [(Key.s (ByteArray.mk #[(97 : UInt8)]), SV.ptr 4 q0 0),
                                                        (Key.s (ByteArray.mk #[(98 : UInt8)]), SV.ptr 5 q1 0),
                                                        (Key.s (ByteArray.mk #[(99 : UInt8)]), SV.ptr 6 q2 0)]),
                                                     Ent.mk (Loc.blk b2)
                                                      (SObj.cells
                                                       [SV.map 2 b1, SV.raw (Value.slice (@none Addr) 0 0),
                                                        SV.int IntKind.i64 last]
                                                       (120 : TypeId)),
                                                     Ent.mk (Loc.blk q0)
                                                      (SObj.cells [SV.vec 11 x.ao2 (List.length x.cs) x.4] (125 : TypeId)),
                                                     Ent.mk (Loc.blk q1)
                                                      (SObj.cells [SV.vec 12 y.ao2 (List.length y.cs) y.4] (125 : TypeId)),
                                                     Ent.mk (Loc.blk q2)
                                                      (SObj.cells [SV.sub 13 z.ao2 z.4 2 1 (List.length z.cs)]
                                                       (125 : TypeId)),
                                                     Ent.mk (Loc.blk bw)
                                                      (SObj.cells
                                                       [SV.vec 8 x.ao1 (List.length x.1) x.3,
                                                        SV.vec 9 y.ao1 (List.length y.1) y.3,
                                                        SV.sub 10 z.ao1 z.3 1 1 (List.length z.1)]
                                                       (49 : TypeId)),
                                                     Ent.mk (Loc.sl x.ao1 x.3) (SObj.vecL (3 : TypeId) 1 encInt x.1 (0 : Int)),
                                                     Ent.mk (Loc.sl y.ao1 y.3) (SObj.vecL (3 : TypeId) 1 encInt y.1 (0 : Int)),
                                                     Ent.mk (Loc.sl z.ao1 z.3) (SObj.vecL (3 : TypeId) 1 encInt z.1 (0 : Int)),
                                                     Ent.mk (Loc.sl x.ao2 x.4)
                                                      (SObj.vecL (52 : TypeId) 2 encDg x.cs ((0 : Int), ByteArray.empty)),
                                                     Ent.mk (Loc.sl y.ao2 y.4)
                                                      (SObj.vecL (52 : TypeId) 2 encDg y.cs ((0 : Int), ByteArray.empty)),
                                                     Ent.mk (Loc.sl z.ao2 z.4)
                                                      (SObj.vecL (52 : TypeId) 2 encDg z.cs ((0 : Int), ByteArray.empty)),
                                                     Ent.mk (Loc.blk b)
                                                      (SObj.cells
                                                       [SV.int IntKind.i64 (List.getD z.cs 0 ((0 : Int), ByteArray.empty)).1,
                                                        SV.str (List.getD z.cs 0 ((0 : Int), ByteArray.empty)).snd]
                                                       52),
                                                     Ent.mk (Loc.blk b_1)
                                                      (SObj.cells
                                                       [SV.int IntKind.i64 (List.getD z.cs 0 ((0 : Int), ByteArray.empty)).1,
                                                        SV.str (List.getD z.cs 0 ((0 : Int), ByteArray.empty)).snd]
                                                       52),
                                                     Ent.mk (Loc.blk b_2)
                                                      (SObj.cells
                                                       [SV.int IntKind.i64 (List.getD z.cs 0 ((0 : Int), ByteArray.empty)).1,
                                                        SV.str (List.getD z.cs 0 ((0 : Int), ByteArray.empty)).snd]
                                                       52),
                                                     Ent.mk (Loc.blk b_3)
                                                      (SObj.cells
                                                       [SV.int IntKind.i64 (List.getD z.cs 0 ((0 : Int), ByteArray.empty)).1,
                                                        SV.str (List.getD z.cs 0 ((0 : Int), ByteArray.empty)).snd]
                                                       52),
                                                     Ent.mk (Loc.blk b_4)
                                                      (SObj.cells
                                                       [SV.int IntKind.i64 (List.getD z.cs 0 ((0 : Int), ByteArray.empty)).1,
                                                        SV.str (List.getD z.cs 0 ((0 : Int), ByteArray.empty)).snd]
                                                       52)])
       | false =>
        K (frmR [J] (bodyOf Try.f6) 29)
         (Sy.mk
          [SV.vec 0 ao (List.length bs) cap, SV.raw (u 1), SV.bool false, SV.ptr 1 bn 0, SV.ptr 3 b2 0, SV.raw (u 5),
           SV.ptr 7 bw 0, SV.int IntKind.i64 next, SV.int IntKind.i64 i, SV.int IntKind.i64 (2 : Int), SV.raw (u 10), SV.raw (u 11), SV.raw (u 12),
           SV.raw (u 13), SV.raw (u 14), SV.raw (u 15), SV.raw (u 16), SV.raw (u 17), SV.raw (u 18), SV.raw (u 19),
           SV.raw (u 20), SV.raw (u 21), SV.raw (u 22), SV.raw (u 23), SV.raw (u 24), SV.raw (u 25), SV.raw (u 26),
           SV.raw (u 27), SV.raw (u 28), SV.raw (u 29), SV.raw (u 30), SV.raw (u 31), SV.raw (u 32), SV.raw (u 33),
           SV.raw (u 34), SV.raw (u 35), SV.raw (u 36), SV.raw (u 37), SV.raw (u 38), SV.raw (u 39), SV.raw (u 40),
           SV.raw (u 41), SV.raw (u 42), SV.raw (u 43), SV.raw (u 44), SV.raw (u 45), SV.raw (u 46), SV.raw (u 47),
           SV.raw (u 48), SV.raw (u 49), SV.raw (u 50), SV.raw (u 51), SV.raw (u 52), SV.raw (u 53), SV.raw (u 54),
           SV.raw (u 55), SV.raw (u 56), SV.raw (u 57), SV.raw (u 58), SV.raw (u 59), SV.raw (u 60), SV.raw (u 61),
           SV.raw (u 62), SV.raw (u 63), SV.raw (u 64), SV.raw (u 65), SV.raw (u 66), SV.raw (u 67), SV.raw (u 68),
           SV.raw (u 69), SV.raw (u 70), SV.raw (u 71), SV.raw (u 72), SV.raw (u 73), SV.raw (u 74), SV.raw (u 75),
           SV.raw (u 76), SV.raw (u 77), SV.raw (u 78), SV.raw (u 79), SV.raw (u 80), SV.raw (u 81), SV.raw (u 82),
           SV.raw (u 83), SV.raw (u 84), SV.raw (u 85), SV.vec 0 ao (List.length bs) cap, SV.int IntKind.i64 i,
           SV.eptr 0 (Addr.blkD ao) (Addr.offD ao) 1 (Int.toNat i) 0, SV.int IntKind.u8 (List.getD bs (Int.toNat i) (0 : Int)),
           SV.int IntKind.u8 (IntKind.wrap IntKind.u8 (Int.tdiv (List.getD bs (Int.toNat i) (0 : Int)) (3 : Int))),
           SV.int IntKind.u8 (Int.tmod (IntKind.wrap IntKind.u8 (Int.tdiv (List.getD bs (Int.toNat i) (0 : Int)) (3 : Int))) (2 : Int)),
           SV.bool (Int.tmod (IntKind.wrap IntKind.u8 (Int.tdiv (List.getD bs (Int.toNat i) (0 : Int)) (3 : Int))) (2 : Int) == (1 : Int)), SV.bool true, SV.int IntKind.i64 (2 : Int),
           SV.ptr 7 bw 2, SV.vec 10 z.ao1 (List.length z.1) z.3, SV.int IntKind.i64 (↑(List.length z.1) : Int),
           SV.bool (decide ((↑(List.length z.1) : Int) > (0 : Int))), SV.bool false, SV.raw (u 100), SV.raw (u 101), SV.raw (u 102), SV.raw (u 103),
           SV.raw (u 104), SV.raw (u 105), SV.raw (u 106), SV.raw (u 107), SV.raw (u 108), SV.raw (u 109), SV.raw (u 110),
           SV.raw (u 111), SV.raw (u 112), SV.raw (u 113), SV.raw (u 114), SV.raw (u 115), SV.raw (u 116), SV.raw (u 117),
           SV.raw (u 118), SV.raw (u 119), SV.raw (u 120), SV.raw (u 121), SV.raw (u 122), SV.raw (u 123), SV.raw (u 124),
           SV.raw (u 125), SV.raw (u 126), SV.raw (u 127), SV.raw (u 128), SV.raw (u 129), SV.raw (u 130), SV.raw (u 131),
           SV.raw (u 132), SV.raw (u 133), SV.raw (u 134), SV.raw (u 135), SV.raw (u 136), SV.raw (u 137), SV.raw (u 138),
           SV.raw (u 139), SV.raw (u 140), SV.raw (u 141), SV.raw (u 142), SV.raw (u 143)]
          [Ent.mk (Loc.sl ao cap) (SObj.roL c0 1 encByte bs (0 : Int)),
           Ent.mk (Loc.blk bn) (SObj.cells [SV.str (ByteArray.mk #[(97 : UInt8)]), SV.str (ByteArray.mk #[(98 : UInt8)]), SV.str (ByteArray.mk #[(99 : UInt8)])] (47 : TypeId)),
           Ent.mk (Loc.blk b1)
            (SObj.mapV (@none IntKind)
             [(Key.s (ByteArray.mk #[(97 : UInt8)]), SV.ptr 4 q0 0), (Key.s (ByteArray.mk #[(98 : UInt8)]), SV.ptr 5 q1 0),
              (Key.s (ByteArray.mk #[(99 : UInt8)]), SV.ptr 6 q2 0)]),
           Ent.mk (Loc.blk b2) (SObj.cells [SV.map 2 b1, SV.raw (Value.slice (@none Addr) 0 0), SV.int IntKind.i64 last] (120 : TypeId)),
           Ent.mk (Loc.blk q0) (SObj.cells [SV.vec 11 x.ao2 (List.length x.cs) x.4] (125 : TypeId)),
           Ent.mk (Loc.blk q1) (SObj.cells [SV.vec 12 y.ao2 (List.length y.cs) y.4] (125 : TypeId)),
           Ent.mk (Loc.blk q2) (SObj.cells [SV.vec 13 z.ao2 (List.length z.cs) z.4] (125 : TypeId)),
           Ent.mk (Loc.blk bw)
            (SObj.cells [SV.vec 8 x.ao1 (List.length x.1) x.3, SV.vec 9 y.ao1 (List.length y.1) y.3, SV.vec 10 z.ao1 (List.length z.1) z.3] (49 : TypeId)),
           Ent.mk (Loc.sl x.ao1 x.3) (SObj.vecL (3 : TypeId) 1 encInt x.1 (0 : Int)), Ent.mk (Loc.sl y.ao1 y.3) (SObj.vecL (3 : TypeId) 1 encInt y.1 (0 : Int)),
           Ent.mk (Loc.sl z.ao1 z.3) (SObj.vecL (3 : TypeId) 1 encInt z.1 (0 : Int)),
           Ent.mk (Loc.sl x.ao2 x.4) (SObj.vecL (52 : TypeId) 2 encDg x.cs ((0 : Int), ByteArray.empty)),
           Ent.mk (Loc.sl y.ao2 y.4) (SObj.vecL (52 : TypeId) 2 encDg y.cs ((0 : Int), ByteArray.empty)),
           Ent.mk (Loc.sl z.ao2 z.4) (SObj.vecL (52 : TypeId) 2 encDg z.cs ((0 : Int), ByteArray.empty))])
    | false =>
     K (frmR [J] (bodyOf Try.f6) 29)
      (Sy.mk
       [SV.vec 0 ao (List.length bs) cap, SV.raw (u 1), SV.bool false, SV.ptr 1 bn 0, SV.ptr 3 b2 0, SV.raw (u 5),
        SV.ptr 7 bw 0, SV.int IntKind.i64 next, SV.int IntKind.i64 i, SV.int IntKind.i64 (2 : Int), SV.raw (u 10), SV.raw (u 11), SV.raw (u 12),
        SV.raw (u 13), SV.raw (u 14), SV.raw (u 15), SV.raw (u 16), SV.raw (u 17), SV.raw (u 18), SV.raw (u 19), SV.raw (u 20),
        SV.raw (u 21), SV.raw (u 22), SV.raw (u 23), SV.raw (u 24), SV.raw (u 25), SV.raw (u 26), SV.raw (u 27), SV.raw (u 28),
        SV.raw (u 29), SV.raw (u 30), SV.raw (u 31), SV.raw (u 32), SV.raw (u 33), SV.raw (u 34), SV.raw (u 35), SV.raw (u 36),
        SV.raw (u 37), SV.raw (u 38), SV.raw (u 39), SV.raw (u 40), SV.raw (u 41), SV.raw (u 42), SV.raw (u 43), SV.raw (u 44),
        SV.raw (u 45), SV.raw (u 46), SV.raw (u 47), SV.raw (u 48), SV.raw (u 49), SV.raw (u 50), SV.raw (u 51), SV.raw (u 52),
        SV.raw (u 53), SV.raw (u 54), SV.raw (u 55), SV.raw (u 56), SV.raw (u 57), SV.raw (u 58), SV.raw (u 59), SV.raw (u 60),
        SV.raw (u 61), SV.raw (u 62), SV.raw (u 63), SV.raw (u 64), SV.raw (u 65), SV.raw (u 66), SV.raw (u 67), SV.raw (u 68),
        SV.raw (u 69), SV.raw (u 70), SV.raw (u 71), SV.raw (u 72), SV.raw (u 73), SV.raw (u 74), SV.raw (u 75), SV.raw (u 76),
        SV.raw (u 77), SV.raw (u 78), SV.raw (u 79), SV.raw (u 80), SV.raw (u 81), SV.raw (u 82), SV.raw (u 83), SV.raw (u 84),
        SV.raw (u 85), SV.vec 0 ao (List.length bs) cap, SV.int IntKind.i64 i, SV.eptr 0 (Addr.blkD ao) (Addr.offD ao) 1 (Int.toNat i) 0,
        SV.int IntKind.u8 (List.getD bs (Int.toNat i) (0 : Int)), SV.int IntKind.u8 (IntKind.wrap IntKind.u8 (Int.tdiv (List.getD bs (Int.toNat i) (0 : Int)) (3 : Int))),
        SV.int IntKind.u8 (Int.tmod (IntKind.wrap IntKind.u8 (Int.tdiv (List.getD bs (Int.toNat i) (0 : Int)) (3 : Int))) (2 : Int)),
        SV.bool (Int.tmod (IntKind.wrap IntKind.u8 (Int.tdiv (List.getD bs (Int.toNat i) (0 : Int)) (3 : Int))) (2 : Int) == (1 : Int)), SV.bool false, SV.raw (Value.tuple #[]),
        SV.raw (Value.tuple #[]), SV.raw (Value.tuple #[]), SV.raw (Value.tuple #[]), SV.raw (Value.tuple #[]), SV.bool false, SV.raw (u 100), SV.raw (u 101),
        SV.raw (u 102), SV.raw (u 103), SV.raw (u 104), SV.raw (u 105), SV.raw (u 106), SV.raw (u 107), SV.raw (u 108),
        SV.raw (u 109), SV.raw (u 110), SV.raw (u 111), SV.raw (u 112), SV.raw (u 113), SV.raw (u 114), SV.raw (u 115),
        SV.raw (u 116), SV.raw (u 117), SV.raw (u 118), SV.raw (u 119), SV.raw (u 120), SV.raw (u 121), SV.raw (u 122),
        SV.raw (u 123), SV.raw (u 124), SV.raw (u 125), SV.raw (u 126), SV.raw (u 127), SV.raw (u 128), SV.raw (u 129),
        SV.raw (u 130), SV.raw (u 131), SV.raw (u 132), SV.raw (u 133), SV.raw (u 134), SV.raw (u 135), SV.raw (u 136),
        SV.raw (u 137), SV.raw (u 138), SV.raw (u 139), SV.raw (u 140), SV.raw (u 141), SV.raw (u 142), SV.raw (u 143)]
       [Ent.mk (Loc.sl ao cap) (SObj.roL c0 1 encByte bs (0 : Int)),
        Ent.mk (Loc.blk bn) (SObj.cells [SV.str (ByteArray.mk #[(97 : UInt8)]), SV.str (ByteArray.mk #[(98 : UInt8)]), SV.str (ByteArray.mk #[(99 : UInt8)])] (47 : TypeId)),
        Ent.mk (Loc.blk b1)
         (SObj.mapV (@none IntKind)
          [(Key.s (ByteArray.mk #[(97 : UInt8)]), SV.ptr 4 q0 0), (Key.s (ByteArray.mk #[(98 : UInt8)]), SV.ptr 5 q1 0),
           (Key.s (ByteArray.mk #[(99 : UInt8)]), SV.ptr 6 q2 0)]),
        Ent.mk (Loc.blk b2) (SObj.cells [SV.map 2 b1, SV.raw (Value.slice (@none Addr) 0 0), SV.int IntKind.i64 last] (120 : TypeId)),
        Ent.mk (Loc.blk q0) (SObj.cells [SV.vec 11 x.ao2 (List.length x.cs) x.4] (125 : TypeId)),
        Ent.mk (Loc.blk q1) (SObj.cells [SV.vec 12 y.ao2 (List.length y.cs) y.4] (125 : TypeId)),
        Ent.mk (Loc.blk q2) (SObj.cells [SV.vec 13 z.ao2 (List.length z.cs) z.4] (125 : TypeId)),
        Ent.mk (Loc.blk bw)
         (SObj.cells [SV.vec 8 x.ao1 (List.length x.1) x.3, SV.vec 9 y.ao1 (List.length y.1) y.3, SV.vec 10 z.ao1 (List.length z.1) z.3] (49 : TypeId)),
        Ent.mk (Loc.sl x.ao1 x.3) (SObj.vecL (3 : TypeId) 1 encInt x.1 (0 : Int)), Ent.mk (Loc.sl y.ao1 y.3) (SObj.vecL (3 : TypeId) 1 encInt y.1 (0 : Int)),
        Ent.mk (Loc.sl z.ao1 z.3) (SObj.vecL (3 : TypeId) 1 encInt z.1 (0 : Int)),
        Ent.mk (Loc.sl x.ao2 x.4) (SObj.vecL (52 : TypeId) 2 encDg x.cs ((0 : Int), ByteArray.empty)),
        Ent.mk (Loc.sl y.ao2 y.4) (SObj.vecL (52 : TypeId) 2 encDg y.cs ((0 : Int), ByteArray.empty)),
        Ent.mk (Loc.sl z.ao2 z.4) (SObj.vecL (52 : TypeId) 2 encDg z.cs ((0 : Int), ByteArray.empty))])) := by kernel_rfl


theorem ps_tail (K : List Frm → Sy → Prop) (N : List Ent → SV → Prop) (J : Act → World → Prop) (u : Nat → Value) (c0 : Ch) (cap : Nat) (ao : Option Addr) (bs : List Int) (bn b1 b2 q0 q1 q2 bw : Nat) (x y z : PSL) (i next last : Int) : (run Try.prog port5 true [100030] K (retP Try.prog Try.f6.results.toList N) 1500 (frmR [J] (bodyOf Try.f6) 29) ⟨mkT u 144 0 [(0, .vec 0 ao bs.length cap), (2, .bool false), (3, .ptr 1 bn 0), (4, .ptr 3 b2 0), (6, .ptr 7 bw 0), (7, .int .i64 next), (8, .int .i64 i)], psHeap c0 ao bs cap bn b1 b2 q0 q1 q2 bw x y z last⟩) = (
((0 : Int) ≤ (0 : Int) ∧ (0 : Int) < (↑3 : Int)) ∧
 bn = bn ∧
  ((0 : Int) ≤ (0 : Int) ∧ (0 : Int) < (↑3 : Int)) ∧
   bw = bw ∧
    true = true ∧
     b2 = b2 ∧
      (b1 = b1 ∧ @none IntKind = @none IntKind ∧ @none IntKind = @none IntKind) ∧
       q0 = q0 ∧
        true = true ∧
         (x.ao2 = x.ao2 ∧
          x.4 = x.4 ∧
           List.length x.cs = List.length x.cs ∧
            (52 : TypeId) = (52 : TypeId) ∧ 2 = 2 ∧ List.length x.cs * 24 ≤ 140737488355328 ∧ List.length x.cs ≤ 9223372036854775807) ∧
          ∀ (ao2 : Option Addr) (cap2 : Nat),
           List.length x.cs ≤ cap2 →
            (Ent.mk (Loc.sl ao cap) (SObj.roL c0 1 encByte bs (0 : Int)) = Ent.mk (Loc.sl ao cap) (SObj.roL c0 1 encByte bs (0 : Int)) ∧
             Ent.mk (Loc.blk bn) (SObj.cells [SV.str (ByteArray.mk #[(97 : UInt8)]), SV.str (ByteArray.mk #[(98 : UInt8)]), SV.str (ByteArray.mk #[(99 : UInt8)])] (47 : TypeId)) =
              Ent.mk (Loc.blk bn) (SObj.cells [SV.str (ByteArray.mk #[(97 : UInt8)]), SV.str (ByteArray.mk #[(98 : UInt8)]), SV.str (ByteArray.mk #[(99 : UInt8)])] (47 : TypeId)) ∧
              Ent.mk (Loc.blk b1)
               (SObj.mapV (@none IntKind)
                [(Key.s (ByteArray.mk #[(97 : UInt8)]), SV.ptr 4 q0 0), (Key.s (ByteArray.mk #[(98 : UInt8)]), SV.ptr 5 q1 0),
                 (Key.s (ByteArray.mk #[(99 : UInt8)]), SV.ptr 6 q2 0)]) =
               Ent.mk (Loc.blk b1)
                (SObj.mapV (@none IntKind)
                 [(Key.s (ByteArray.mk #[(97 : UInt8)]), SV.ptr 4 q0 0), (Key.s (ByteArray.mk #[(98 : UInt8)]), SV.ptr 5 q1 0),
                  (Key.s (ByteArray.mk #[(99 : UInt8)]), SV.ptr 6 q2 0)]) ∧
               Ent.mk (Loc.blk b2) (SObj.cells [SV.map 2 b1, SV.raw (Value.slice (@none Addr) 0 0), SV.int IntKind.i64 last] (120 : TypeId)) =
                Ent.mk (Loc.blk b2) (SObj.cells [SV.map 2 b1, SV.raw (Value.slice (@none Addr) 0 0), SV.int IntKind.i64 last] (120 : TypeId)) ∧
                Ent.mk (Loc.blk q0) (SObj.cells [SV.vec 11 x.ao2 (List.length x.cs) x.4] (125 : TypeId)) =
                 Ent.mk (Loc.blk q0) (SObj.cells [SV.vec 11 x.ao2 (List.length x.cs) x.4] (125 : TypeId)) ∧
                 Ent.mk (Loc.blk q1) (SObj.cells [SV.vec 12 y.ao2 (List.length y.cs) y.4] (125 : TypeId)) =
                  Ent.mk (Loc.blk q1) (SObj.cells [SV.vec 12 y.ao2 (List.length y.cs) y.4] (125 : TypeId)) ∧
                  Ent.mk (Loc.blk q2) (SObj.cells [SV.vec 13 z.ao2 (List.length z.cs) z.4] (125 : TypeId)) =
                   Ent.mk (Loc.blk q2) (SObj.cells [SV.vec 13 z.ao2 (List.length z.cs) z.4] (125 : TypeId)) ∧
                   Ent.mk (Loc.blk bw)
                    (SObj.cells [SV.vec 8 x.ao1 (List.length x.1) x.3, SV.vec 9 y.ao1 (List.length y.1) y.3, SV.vec 10 z.ao1 (List.length z.1) z.3]
                     (49 : TypeId)) =
                    Ent.mk (Loc.blk bw)
                     (SObj.cells [SV.vec 8 x.ao1 (List.length x.1) x.3, SV.vec 9 y.ao1 (List.length y.1) y.3, SV.vec 10 z.ao1 (List.length z.1) z.3]
                      (49 : TypeId)) ∧
                    Ent.mk (Loc.sl x.ao1 x.3) (SObj.vecL (3 : TypeId) 1 encInt x.1 (0 : Int)) =
                     Ent.mk (Loc.sl x.ao1 x.3) (SObj.vecL (3 : TypeId) 1 encInt x.1 (0 : Int)) ∧
                     Ent.mk (Loc.sl y.ao1 y.3) (SObj.vecL (3 : TypeId) 1 encInt y.1 (0 : Int)) =
                      Ent.mk (Loc.sl y.ao1 y.3) (SObj.vecL (3 : TypeId) 1 encInt y.1 (0 : Int)) ∧
                      Ent.mk (Loc.sl z.ao1 z.3) (SObj.vecL (3 : TypeId) 1 encInt z.1 (0 : Int)) =
                       Ent.mk (Loc.sl z.ao1 z.3) (SObj.vecL (3 : TypeId) 1 encInt z.1 (0 : Int)) ∧
                       Ent.mk (Loc.sl x.ao2 x.4) (SObj.vecL (52 : TypeId) 2 encDg x.cs ((0 : Int), ByteArray.empty)) =
                        Ent.mk (Loc.sl x.ao2 x.4) (SObj.vecL (52 : TypeId) 2 encDg x.cs ((0 : Int), ByteArray.empty)) ∧
                        Ent.mk (Loc.sl y.ao2 y.4) (SObj.vecL (52 : TypeId) 2 encDg y.cs ((0 : Int), ByteArray.empty)) =
                         Ent.mk (Loc.sl y.ao2 y.4) (SObj.vecL (52 : TypeId) 2 encDg y.cs ((0 : Int), ByteArray.empty)) ∧
                         Ent.mk (Loc.sl z.ao2 z.4) (SObj.vecL (52 : TypeId) 2 encDg z.cs ((0 : Int), ByteArray.empty)) =
                          Ent.mk (Loc.sl z.ao2 z.4) (SObj.vecL (52 : TypeId) 2 encDg z.cs ((0 : Int), ByteArray.empty)) ∧
                          True) ∧
             match (↑(List.length x.cs) : Int) != (↑(List.length x.1) : Int) with
             | true =>
              N
               [Ent.mk (Loc.sl ao cap) (SObj.roL c0 1 encByte bs (0 : Int)),
                Ent.mk (Loc.blk bn) (SObj.cells [SV.str (ByteArray.mk #[(97 : UInt8)]), SV.str (ByteArray.mk #[(98 : UInt8)]), SV.str (ByteArray.mk #[(99 : UInt8)])] (47 : TypeId)),
                Ent.mk (Loc.blk b1)
                 (SObj.mapV (@none IntKind)
                  [(Key.s (ByteArray.mk #[(97 : UInt8)]), SV.ptr 4 q0 0), (Key.s (ByteArray.mk #[(98 : UInt8)]), SV.ptr 5 q1 0),
                   (Key.s (ByteArray.mk #[(99 : UInt8)]), SV.ptr 6 q2 0)]),
                Ent.mk (Loc.blk b2) (SObj.cells [SV.map 2 b1, SV.raw (Value.slice (@none Addr) 0 0), SV.int IntKind.i64 last] (120 : TypeId)),
                Ent.mk (Loc.blk q0) (SObj.cells [SV.vec 11 x.ao2 (List.length x.cs) x.4] (125 : TypeId)),
                Ent.mk (Loc.blk q1) (SObj.cells [SV.vec 12 y.ao2 (List.length y.cs) y.4] (125 : TypeId)),
                Ent.mk (Loc.blk q2) (SObj.cells [SV.vec 13 z.ao2 (List.length z.cs) z.4] (125 : TypeId)),
                Ent.mk (Loc.blk bw)
                 (SObj.cells [SV.vec 8 x.ao1 (List.length x.1) x.3, SV.vec 9 y.ao1 (List.length y.1) y.3, SV.vec 10 z.ao1 (List.length z.1) z.3]
                  (49 : TypeId)),
                Ent.mk (Loc.sl x.ao1 x.3) (SObj.vecL (3 : TypeId) 1 encInt x.1 (0 : Int)), Ent.mk (Loc.sl y.ao1 y.3) (SObj.vecL (3 : TypeId) 1 encInt y.1 (0 : Int)),
                Ent.mk (Loc.sl z.ao1 z.3) (SObj.vecL (3 : TypeId) 1 encInt z.1 (0 : Int)),
                Ent.mk (Loc.sl x.ao2 x.4) (SObj.vecL (52 : TypeId) 2 encDg x.cs ((0 : Int), ByteArray.empty)),
                Ent.mk (Loc.sl y.ao2 y.4) (SObj.vecL (52 : TypeId) 2 encDg y.cs ((0 : Int), ByteArray.empty)),
                Ent.mk (Loc.sl z.ao2 z.4) (SObj.vecL (52 : TypeId) 2 encDg z.cs ((0 : Int), ByteArray.empty)),
                Ent.mk (Loc.sl ao2 cap2) (SObj.vecL (52 : TypeId) 2 encDg x.cs ((0 : Int), ByteArray.empty))]
               (SV.bool false)
             | false =>
              ((0 : Int) ≤ (1 : Int) ∧ (1 : Int) < (↑3 : Int)) ∧
               bn = bn ∧
                ((0 : Int) ≤ (1 : Int) ∧ (1 : Int) < (↑3 : Int)) ∧
                 bw = bw ∧
                  true = true ∧
                   b2 = b2 ∧
                    (b1 = b1 ∧ @none IntKind = @none IntKind ∧ @none IntKind = @none IntKind) ∧
                     q1 = q1 ∧
                      true = true ∧
                       (y.ao2 = y.ao2 ∧
                        y.4 = y.4 ∧
                         List.length y.cs = List.length y.cs ∧
                          (52 : TypeId) = (52 : TypeId) ∧
                           2 = 2 ∧ List.length y.cs * 24 ≤ 140737488355328 ∧ List.length y.cs ≤ 9223372036854775807) ∧
                        ∀ (ao2_1 : Option Addr) (cap2_1 : Nat),
                         List.length y.cs ≤ cap2_1 →
                          (Ent.mk (Loc.sl ao cap) (SObj.roL c0 1 encByte bs (0 : Int)) = Ent.mk (Loc.sl ao cap) (SObj.roL c0 1 encByte bs (0 : Int)) ∧
                           Ent.mk (Loc.blk bn)
                            (SObj.cells [SV.str (ByteArray.mk #[(97 : UInt8)]), SV.str (ByteArray.mk #[(98 : UInt8)]), SV.str (ByteArray.mk #[(99 : UInt8)])]
                             (47 : TypeId)) =
                            Ent.mk (Loc.blk bn)
                             (SObj.cells [SV.str (ByteArray.mk #[(97 : UInt8)]), SV.str (ByteArray.mk #[(98 : UInt8)]), SV.str (ByteArray.mk #[(99 : UInt8)])]
                              (47 : TypeId)) ∧
                            Ent.mk (Loc.blk b1)
                             (SObj.mapV (@none IntKind)
                              [(Key.s (ByteArray.mk #[(97 : UInt8)]), SV.ptr 4 q0 0),
                               (Key.s (ByteArray.mk #[(98 : UInt8)]), SV.ptr 5 q1 0),
                               (Key.s (ByteArray.mk #[(99 : UInt8)]), SV.ptr 6 q2 0)]) =
                             Ent.mk (Loc.blk b1)
                              (SObj.mapV (@none IntKind)
                               [(Key.s (ByteArray.mk #[(97 : UInt8)]), SV.ptr 4 q0 0),
                                (Key.s (ByteArray.mk #[(98 : UInt8)]), SV.ptr 5 q1 0),
                                (Key.s (ByteArray.mk #[(99 : UInt8)]), SV.ptr 6 q2 0)]) ∧
                             Ent.mk (Loc.blk b2)
                              (SObj.cells [SV.map 2 b1, SV.raw (Value.slice (@none Addr) 0 0), SV.int IntKind.i64 last] (120 : TypeId)) =
                              Ent.mk (Loc.blk b2)
                               (SObj.cells [SV.map 2 b1, SV.raw (Value.slice (@none Addr) 0 0), SV.int IntKind.i64 last] (120 : TypeId)) ∧
                              Ent.mk (Loc.blk q0) (SObj.cells [SV.vec 11 x.ao2 (List.length x.cs) x.4] (125 : TypeId)) =
                               Ent.mk (Loc.blk q0) (SObj.cells [SV.vec 11 x.ao2 (List.length x.cs) x.4] (125 : TypeId)) ∧
                               Ent.mk (Loc.blk q1) (SObj.cells [SV.vec 12 y.ao2 (List.length y.cs) y.4] (125 : TypeId)) =
                                Ent.mk (Loc.blk q1) (SObj.cells [SV.vec 12 y.ao2 (List.length y.cs) y.4] (125 : TypeId)) ∧
                                Ent.mk (Loc.blk q2) (SObj.cells [SV.vec 13 z.ao2 (List.length z.cs) z.4] (125 : TypeId)) =
                                 Ent.mk (Loc.blk q2) (SObj.cells [SV.vec 13 z.ao2 (List.length z.cs) z.4] (125 : TypeId)) ∧
                                 Ent.mk (Loc.blk bw)
                                  (SObj.cells
                                   [SV.vec 8 x.ao1 (List.length x.1) x.3, SV.vec 9 y.ao1 (List.length y.1) y.3,
                                    SV.vec 10 z.ao1 (List.length z.1) z.3]
                                   (49 : TypeId)) =
                                  Ent.mk (Loc.blk bw)
                                   (SObj.cells
                                    [SV.vec 8 x.ao1 (List.length x.1) x.3, SV.vec 9 y.ao1 (List.length y.1) y.3,
                                     SV.vec 10 z.ao1 (List.length z.1) z.3]
                                    (49 : TypeId)) ∧
                                  Ent.mk (Loc.sl x.ao1 x.3) (SObj.vecL (3 : TypeId) 1 encInt x.1 (0 : Int)) =
                                   Ent.mk (Loc.sl x.ao1 x.3) (SObj.vecL (3 : TypeId) 1 encInt x.1 (0 : Int)) ∧
                                   Ent.mk (Loc.sl y.ao1 y.3) (SObj.vecL (3 : TypeId) 1 encInt y.1 (0 : Int)) =
                                    Ent.mk (Loc.sl y.ao1 y.3) (SObj.vecL (3 : TypeId) 1 encInt y.1 (0 : Int)) ∧
                                    Ent.mk (Loc.sl z.ao1 z.3) (SObj.vecL (3 : TypeId) 1 encInt z.1 (0 : Int)) =
                                     Ent.mk (Loc.sl z.ao1 z.3) (SObj.vecL (3 : TypeId) 1 encInt z.1 (0 : Int)) ∧
                                     Ent.mk (Loc.sl x.ao2 x.4) (SObj.vecL (52 : TypeId) 2 encDg x.cs ((0 : Int), ByteArray.empty)) =
                                      Ent.mk (Loc.sl x.ao2 x.4) (SObj.vecL (52 : TypeId) 2 encDg x.cs ((0 : Int), ByteArray.empty)) ∧
                                      Ent.mk (Loc.sl y.ao2 y.4) (SObj.vecL (52 : TypeId) 2 encDg y.cs ((0 : Int), ByteArray.empty)) =
                                       Ent.mk (Loc.sl y.ao2 y.4) (SObj.vecL (52 : TypeId) 2 encDg y.cs ((0 : Int), ByteArray.empty)) ∧
                                       Ent.mk (Loc.sl z.ao2 z.4) (SObj.vecL (52 : TypeId) 2 encDg z.cs ((0 : Int), ByteArray.empty)) =
                                        Ent.mk (Loc.sl z.ao2 z.4) (SObj.vecL (52 : TypeId) 2 encDg z.cs ((0 : Int), ByteArray.empty)) ∧
                                        Ent.mk (Loc.sl ao2 cap2) (SObj.vecL (52 : TypeId) 2 encDg x.cs ((0 : Int), ByteArray.empty)) =
                                         Ent.mk (Loc.sl ao2 cap2) (SObj.vecL (52 : TypeId) 2 encDg x.cs ((0 : Int), ByteArray.empty)) ∧
                                         True) ∧
                           match (↑(List.length y.cs) : Int) != (↑(List.length y.1) : Int) with
                           | true =>
                            N
                             [Ent.mk (Loc.sl ao cap) (SObj.roL c0 1 encByte bs (0 : Int)),
                              Ent.mk (Loc.blk bn)
                               (SObj.cells [SV.str (ByteArray.mk #[(97 : UInt8)]), SV.str (ByteArray.mk #[(98 : UInt8)]), SV.str (ByteArray.mk #[(99 : UInt8)])]
                                (47 : TypeId)),
                              Ent.mk (Loc.blk b1)
                               (SObj.mapV (@none IntKind)
                                [(Key.s (ByteArray.mk #[(97 : UInt8)]), SV.ptr 4 q0 0),
                                 (Key.s (ByteArray.mk #[(98 : UInt8)]), SV.ptr 5 q1 0),
                                 (Key.s (ByteArray.mk #[(99 : UInt8)]), SV.ptr 6 q2 0)]),
                              Ent.mk (Loc.blk b2)
                               (SObj.cells [SV.map 2 b1, SV.raw (Value.slice (@none Addr) 0 0), SV.int IntKind.i64 last] (120 : TypeId)),
                              Ent.mk (Loc.blk q0) (SObj.cells [SV.vec 11 x.ao2 (List.length x.cs) x.4] (125 : TypeId)),
                              Ent.mk (Loc.blk q1) (SObj.cells [SV.vec 12 y.ao2 (List.length y.cs) y.4] (125 : TypeId)),
                              Ent.mk (Loc.blk q2) (SObj.cells [SV.vec 13 z.ao2 (List.length z.cs) z.4] (125 : TypeId)),
                              Ent.mk (Loc.blk bw)
                               (SObj.cells
                                [SV.vec 8 x.ao1 (List.length x.1) x.3, SV.vec 9 y.ao1 (List.length y.1) y.3,
                                 SV.vec 10 z.ao1 (List.length z.1) z.3]
                                (49 : TypeId)),
                              Ent.mk (Loc.sl x.ao1 x.3) (SObj.vecL (3 : TypeId) 1 encInt x.1 (0 : Int)),
                              Ent.mk (Loc.sl y.ao1 y.3) (SObj.vecL (3 : TypeId) 1 encInt y.1 (0 : Int)),
                              Ent.mk (Loc.sl z.ao1 z.3) (SObj.vecL (3 : TypeId) 1 encInt z.1 (0 : Int)),
                              Ent.mk (Loc.sl x.ao2 x.4) (SObj.vecL (52 : TypeId) 2 encDg x.cs ((0 : Int), ByteArray.empty)),
                              Ent.mk (Loc.sl y.ao2 y.4) (SObj.vecL (52 : TypeId) 2 encDg y.cs ((0 : Int), ByteArray.empty)),
                              Ent.mk (Loc.sl z.ao2 z.4) (SObj.vecL (52 : TypeId) 2 encDg z.cs ((0 : Int), ByteArray.empty)),
                              Ent.mk (Loc.sl ao2 cap2) (SObj.vecL (52 : TypeId) 2 encDg x.cs ((0 : Int), ByteArray.empty)),
                              Ent.mk (Loc.sl ao2_1 cap2_1) (SObj.vecL (52 : TypeId) 2 encDg y.cs ((0 : Int), ByteArray.empty))]
                             (SV.bool false)
                           | false =>
                            ((0 : Int) ≤ (2 : Int) ∧ (2 : Int) < (↑3 : Int)) ∧
                             bn = bn ∧
                              ((0 : Int) ≤ (2 : Int) ∧ (2 : Int) < (↑3 : Int)) ∧
                               bw = bw ∧
                                true = true ∧
                                 b2 = b2 ∧
                                  (b1 = b1 ∧ @none IntKind = @none IntKind ∧ @none IntKind = @none IntKind) ∧
                                   q2 = q2 ∧
                                    true = true ∧
                                     (z.ao2 = z.ao2 ∧
                                      z.4 = z.4 ∧
                                       List.length z.cs = List.length z.cs ∧
                                        (52 : TypeId) = (52 : TypeId) ∧
                                         2 = 2 ∧
                                          List.length z.cs * 24 ≤ 140737488355328 ∧ List.length z.cs ≤ 9223372036854775807) ∧
                                      ∀ (ao2_2 : Option Addr) (cap2_2 : Nat),
                                       List.length z.cs ≤ cap2_2 →
                                        (Ent.mk (Loc.sl ao cap) (SObj.roL c0 1 encByte bs (0 : Int)) =
                                         Ent.mk (Loc.sl ao cap) (SObj.roL c0 1 encByte bs (0 : Int)) ∧
                                         Ent.mk (Loc.blk bn)
                                          (SObj.cells
                                           [SV.str (ByteArray.mk #[(97 : UInt8)]), SV.str (ByteArray.mk #[(98 : UInt8)]),
                                            SV.str (ByteArray.mk #[(99 : UInt8)])]
                                           (47 : TypeId)) =
                                          Ent.mk (Loc.blk bn)
                                           (SObj.cells
                                            [SV.str (ByteArray.mk #[(97 : UInt8)]), SV.str (ByteArray.mk #[(98 : UInt8)]),
                                             SV.str (ByteArray.mk #[(99 : UInt8)])]
                                            (47 : TypeId)) ∧
                                          Ent.mk (Loc.blk b1)
                                           (SObj.mapV (@none IntKind)
                                            [(Key.s (ByteArray.mk #[(97 : UInt8)]), SV.ptr 4 q0 0),
                                             (Key.s (ByteArray.mk #[(98 : UInt8)]), SV.ptr 5 q1 0),
                                             (Key.s (ByteArray.mk #[(99 : UInt8)]), SV.ptr 6 q2 0)]) =
                                           Ent.mk (Loc.blk b1)
                                            (SObj.mapV (@none IntKind)
                                             [(Key.s (ByteArray.mk #[(97 : UInt8)]), SV.ptr 4 q0 0),
                                              (Key.s (ByteArray.mk #[(98 : UInt8)]), SV.ptr 5 q1 0),
                                              (Key.s (ByteArray.mk #[(99 : UInt8)]), SV.ptr 6 q2 0)]) ∧
                                           Ent.mk (Loc.blk b2)
                                            (SObj.cells
                                             [SV.map 2 b1, SV.raw (Value.slice (@none Addr) 0 0), SV.int IntKind.i64 last]
                                             (120 : TypeId)) =
                                            Ent.mk (Loc.blk b2)
                                             (SObj.cells
                                              [SV.map 2 b1, SV.raw (Value.slice (@none Addr) 0 0), SV.int IntKind.i64 last]
                                              (120 : TypeId)) ∧
                                            Ent.mk (Loc.blk q0) (SObj.cells [SV.vec 11 x.ao2 (List.length x.cs) x.4] (125 : TypeId)) =
                                             Ent.mk (Loc.blk q0) (SObj.cells [SV.vec 11 x.ao2 (List.length x.cs) x.4] (125 : TypeId)) ∧
                                             Ent.mk (Loc.blk q1) (SObj.cells [SV.vec 12 y.ao2 (List.length y.cs) y.4] (125 : TypeId)) =
                                              Ent.mk (Loc.blk q1) (SObj.cells [SV.vec 12 y.ao2 (List.length y.cs) y.4] (125 : TypeId)) ∧
                                              Ent.mk (Loc.blk q2) (SObj.cells [SV.vec 13 z.ao2 (List.length z.cs) z.4] (125 : TypeId)) =
                                               Ent.mk (Loc.blk q2) (SObj.cells [SV.vec 13 z.ao2 (List.length z.cs) z.4] (125 : TypeId)) ∧
                                               Ent.mk (Loc.blk bw)
                                                (SObj.cells
                                                 [SV.vec 8 x.ao1 (List.length x.1) x.3, SV.vec 9 y.ao1 (List.length y.1) y.3,
                                                  SV.vec 10 z.ao1 (List.length z.1) z.3]
                                                 (49 : TypeId)) =
                                                Ent.mk (Loc.blk bw)
                                                 (SObj.cells
                                                  [SV.vec 8 x.ao1 (List.length x.1) x.3, SV.vec 9 y.ao1 (List.length y.1) y.3,
                                                   SV.vec 10 z.ao1 (List.length z.1) z.3]
                                                  (49 : TypeId)) ∧
                                                Ent.mk (Loc.sl x.ao1 x.3) (SObj.vecL (3 : TypeId) 1 encInt x.1 (0 : Int)) =
                                                 Ent.mk (Loc.sl x.ao1 x.3) (SObj.vecL (3 : TypeId) 1 encInt x.1 (0 : Int)) ∧
                                                 Ent.mk (Loc.sl y.ao1 y.3) (SObj.vecL (3 : TypeId) 1 encInt y.1 (0 : Int)) =
                                                  Ent.mk (Loc.sl y.ao1 y.3) (SObj.vecL (3 : TypeId) 1 encInt y.1 (0 : Int)) ∧
                                                  Ent.mk (Loc.sl z.ao1 z.3) (SObj.vecL (3 : TypeId) 1 encInt z.1 (0 : Int)) =
                                                   Ent.mk (Loc.sl z.ao1 z.3) (SObj.vecL (3 : TypeId) 1 encInt z.1 (0 : Int)) ∧
                                                   Ent.mk (Loc.sl x.ao2 x.4)
                                                    (SObj.vecL (52 : TypeId) 2 encDg x.cs ((0 : Int), ByteArray.empty)) =
                                                    Ent.mk (Loc.sl x.ao2 x.4)
                                                     (SObj.vecL (52 : TypeId) 2 encDg x.cs ((0 : Int), ByteArray.empty)) ∧
                                                    Ent.mk (Loc.sl y.ao2 y.4)
                                                     (SObj.vecL (52 : TypeId) 2 encDg y.cs ((0 : Int), ByteArray.empty)) =
                                                     Ent.mk (Loc.sl y.ao2 y.4)
                                                      (SObj.vecL (52 : TypeId) 2 encDg y.cs ((0 : Int), ByteArray.empty)) ∧
                                                     Ent.mk (Loc.sl z.ao2 z.4)
                                                      (SObj.vecL (52 : TypeId) 2 encDg z.cs ((0 : Int), ByteArray.empty)) =
                                                      Ent.mk (Loc.sl z.ao2 z.4)
                                                       (SObj.vecL (52 : TypeId) 2 encDg z.cs ((0 : Int), ByteArray.empty)) ∧
                                                      Ent.mk (Loc.sl ao2 cap2)
                                                       (SObj.vecL (52 : TypeId) 2 encDg x.cs ((0 : Int), ByteArray.empty)) =
                                                       Ent.mk (Loc.sl ao2 cap2)
                                                        (SObj.vecL (52 : TypeId) 2 encDg x.cs ((0 : Int), ByteArray.empty)) ∧
                                                       Ent.mk (Loc.sl ao2_1 cap2_1)
                                                        (SObj.vecL (52 : TypeId) 2 encDg y.cs ((0 : Int), ByteArray.empty)) =
                                                        Ent.mk (Loc.sl ao2_1 cap2_1)
                                                         (SObj.vecL (52 : TypeId) 2 encDg y.cs ((0 : Int), ByteArray.empty)) ∧
                                                        True) ∧
                                         match (↑(List.length z.cs) : Int) != (↑(List.length z.1) : Int) with
                                         | true =>
                                          N
                                           [Ent.mk (Loc.sl ao cap) (SObj.roL c0 1 encByte bs (0 : Int)),
                                            Ent.mk (Loc.blk bn)
                                             (SObj.cells
                                              [SV.str (ByteArray.mk #[(97 : UInt8)]), SV.str (ByteArray.mk #[(98 : UInt8)]),
                                               SV.str (ByteArray.mk #[(99 : UInt8)])]
                                              (47 : TypeId)),
                                            Ent.mk (Loc.blk b1)
                                             (SObj.mapV (@none IntKind)
                                              [(Key.s (ByteArray.mk #[(97 : UInt8)]), SV.ptr 4 q0 0),
                                               (Key.s (ByteArray.mk #[(98 : UInt8)]), SV.ptr 5 q1 0),
                                               (Key.s (ByteArray.mk #[(99 : UInt8)]), SV.ptr 6 q2 0)]),
                                            Ent.mk (Loc.blk b2)
                                             (SObj.cells
                                              [SV.map 2 b1, SV.raw (Value.slice (@none Addr) 0 0), SV.int IntKind.i64 last]
                                              (120 : TypeId)),
                                            Ent.mk (Loc.blk q0) (SObj.cells [SV.vec 11 x.ao2 (List.length x.cs) x.4] (125 : TypeId)),
                                            Ent.mk (Loc.blk q1) (SObj.cells [SV.vec 12 y.ao2 (List.length y.cs) y.4] (125 : TypeId)),
                                            Ent.mk (Loc.blk q2) (SObj.cells [SV.vec 13 z.ao2 (List.length z.cs) z.4] (125 : TypeId)),
                                            Ent.mk (Loc.blk bw)
                                             (SObj.cells
                                              [SV.vec 8 x.ao1 (List.length x.1) x.3, SV.vec 9 y.ao1 (List.length y.1) y.3,
                                               SV.vec 10 z.ao1 (List.length z.1) z.3]
                                              (49 : TypeId)),
                                            Ent.mk (Loc.sl x.ao1 x.3) (SObj.vecL (3 : TypeId) 1 encInt x.1 (0 : Int)),
                                            Ent.mk (Loc.sl y.ao1 y.3) (SObj.vecL (3 : TypeId) 1 encInt y.1 (0 : Int)),
                                            Ent.mk (Loc.sl z.ao1 z.3) (SObj.vecL (3 : TypeId) 1 encInt z.1 (0 : Int)),
                                            Ent.mk (Loc.sl x.ao2 x.4) (SObj.vecL (52 : TypeId) 2 encDg x.cs ((0 : Int), ByteArray.empty)),
                                            Ent.mk (Loc.sl y.ao2 y.4) (SObj.vecL (52 : TypeId) 2 encDg y.cs ((0 : Int), ByteArray.empty)),
                                            Ent.mk (Loc.sl z.ao2 z.4) (SObj.vecL (52 : TypeId) 2 encDg z.cs ((0 : Int), ByteArray.empty)),
                                            Ent.mk (Loc.sl ao2 cap2) (SObj.vecL (52 : TypeId) 2 encDg x.cs ((0 : Int), ByteArray.empty)),
                                            Ent.mk (Loc.sl ao2_1 cap2_1) (SObj.vecL (52 : TypeId) 2 encDg y.cs ((0 : Int), ByteArray.empty)),
                                            Ent.mk (Loc.sl ao2_2 cap2_2) (SObj.vecL (52 : TypeId) 2 encDg z.cs ((0 : Int), ByteArray.empty))]
                                           (SV.bool false)
                                         | false =>
                                          K
                                           (Frm.loop J ::
                                            Frm.blk 2 ::
                                             frm [] (bodyOf Try.f6)
                                              [1, 1, 1, 1, 1, 1, 1, 1, 1] [])
                                           (Sy.mk
                                            [SV.vec 0 ao (List.length bs) cap, SV.raw (u 1), SV.bool false, SV.ptr 1 bn 0,
                                             SV.ptr 3 b2 0, SV.raw (u 5), SV.ptr 7 bw 0, SV.int IntKind.i64 next,
                                             SV.int IntKind.i64 (IntKind.wrap IntKind.i64 (i + (1 : Int))), SV.raw (u 9), SV.raw (u 10),
                                             SV.raw (u 11), SV.raw (u 12), SV.raw (u 13), SV.int IntKind.i64 (3 : Int),
                                             SV.raw (u 15), SV.raw (u 16), SV.raw (u 17), SV.raw (u 18),
                                             SV.raw (u 19), SV.raw (u 20), SV.raw (u 21), SV.raw (u 22),
                                             SV.raw (u 23), SV.raw (u 24), SV.raw (u 25), SV.raw (u 26),
                                             SV.raw (u 27), SV.raw (u 28), SV.raw (u 29), SV.raw (u 30),
                                             SV.raw (u 31), SV.raw (u 32), SV.raw (u 33), SV.raw (u 34),
                                             SV.raw (u 35), SV.int IntKind.i64 i, SV.int IntKind.i64 (IntKind.wrap IntKind.i64 (i + (1 : Int))),
                                             SV.raw (u 38), SV.raw (u 39), SV.raw (u 40), SV.raw (u 41),
                                             SV.raw (u 42), SV.raw (u 43), SV.raw (u 44), SV.raw (u 45),
                                             SV.raw (u 46), SV.raw (u 47), SV.raw (u 48), SV.raw (u 49),
                                             SV.raw (u 50), SV.raw (u 51), SV.raw (u 52), SV.raw (u 53),
                                             SV.raw (u 54), SV.raw (u 55), SV.raw (u 56), SV.raw (u 57),
                                             SV.raw (u 58), SV.raw (u 59), SV.raw (u 60), SV.raw (u 61),
                                             SV.raw (u 62), SV.raw (u 63), SV.raw (u 64), SV.raw (u 65),
                                             SV.raw (u 66), SV.raw (u 67), SV.raw (u 68), SV.raw (u 69),
                                             SV.raw (u 70), SV.raw (u 71), SV.raw (u 72), SV.raw (u 73),
                                             SV.raw (u 74), SV.raw (u 75), SV.raw (u 76), SV.raw (u 77),
                                             SV.raw (u 78), SV.raw (u 79), SV.raw (u 80), SV.raw (u 81),
                                             SV.raw (u 82), SV.raw (u 83), SV.raw (u 84), SV.raw (u 85),
                                             SV.raw (u 86), SV.raw (u 87), SV.raw (u 88), SV.raw (u 89),
                                             SV.raw (u 90), SV.raw (u 91), SV.raw (u 92), SV.raw (u 93),
                                             SV.raw (u 94), SV.raw (u 95), SV.raw (u 96), SV.raw (u 97),
                                             SV.raw (u 98), SV.raw (u 99), SV.raw (u 100), SV.raw (u 101),
                                             SV.raw (u 102), SV.raw (u 103), SV.raw (u 104), SV.raw (u 105),
                                             SV.raw (u 106), SV.raw (u 107), SV.raw (u 108), SV.raw (u 109),
                                             SV.raw (u 110), SV.raw (u 111), SV.raw (u 112), SV.raw (u 113),
                                             SV.raw (u 114), SV.raw (u 115), SV.raw (u 116), SV.raw (u 117),
                                             SV.raw (u 118), SV.raw (u 119), SV.raw (u 120), SV.raw (u 121),
                                             SV.raw (u 122), SV.raw (u 123), SV.raw (u 124), SV.raw (u 125),
                                             SV.raw (u 126), SV.raw (u 127), SV.raw (u 128), SV.int IntKind.i64 (3 : Int),
                                             SV.bool false, SV.int IntKind.i64 (2 : Int), SV.int IntKind.i64 (3 : Int), SV.ptr 3 b2 0,
                                             SV.int IntKind.i64 (2 : Int), SV.ptr 1 bn 2, SV.str (ByteArray.mk #[(99 : UInt8)]),
                                             SV.vec 16 ao2_2 (List.length z.cs) cap2_2, SV.int IntKind.i64 (↑(List.length z.cs) : Int),
                                             SV.int IntKind.i64 (2 : Int), SV.ptr 7 bw 2, SV.vec 10 z.ao1 (List.length z.1) z.3,
                                             SV.int IntKind.i64 (↑(List.length z.1) : Int), SV.bool false]
                                            [Ent.mk (Loc.sl ao cap) (SObj.roL c0 1 encByte bs (0 : Int)),
                                             Ent.mk (Loc.blk bn)
                                              (SObj.cells
                                               [SV.str (ByteArray.mk #[(97 : UInt8)]), SV.str (ByteArray.mk #[(98 : UInt8)]),
                                                SV.str (ByteArray.mk #[(99 : UInt8)])]
                                               (47 : TypeId)),
                                             Ent.mk (Loc.blk b1)
                                              (SObj.mapV (@none IntKind)
                                               [(Key.s (ByteArray.mk #[(97 : UInt8)]), SV.ptr 4 q0 0),
                                                (Key.s (ByteArray.mk #[(98 : UInt8)]), SV.ptr 5 q1 0),
                                                (Key.s (ByteArray.mk #[(99 : UInt8)]), SV.ptr 6 q2 0)]),
                                             Ent.mk (Loc.blk b2)
                                              (SObj.cells
                                               [SV.map 2 b1, SV.raw (Value.slice (@none Addr) 0 0), SV.int IntKind.i64 last]
                                               (120 : TypeId)),
                                             Ent.mk (Loc.blk q0) (SObj.cells [SV.vec 11 x.ao2 (List.length x.cs) x.4] (125 : TypeId)),
                                             Ent.mk (Loc.blk q1) (SObj.cells [SV.vec 12 y.ao2 (List.length y.cs) y.4] (125 : TypeId)),
                                             Ent.mk (Loc.blk q2) (SObj.cells [SV.vec 13 z.ao2 (List.length z.cs) z.4] (125 : TypeId)),
                                             Ent.mk (Loc.blk bw)
                                              (SObj.cells
                                               [SV.vec 8 x.ao1 (List.length x.1) x.3, SV.vec 9 y.ao1 (List.length y.1) y.3,
                                                SV.vec 10 z.ao1 (List.length z.1) z.3]
                                               (49 : TypeId)),
                                             Ent.mk (Loc.sl x.ao1 x.3) (SObj.vecL (3 : TypeId) 1 encInt x.1 (0 : Int)),
                                             Ent.mk (Loc.sl y.ao1 y.3) (SObj.vecL (3 : TypeId) 1 encInt y.1 (0 : Int)),
                                             Ent.mk (Loc.sl z.ao1 z.3) (SObj.vecL (3 : TypeId) 1 encInt z.1 (0 : Int)),
                                             Ent.mk (Loc.sl x.ao2 x.4) (SObj.vecL (52 : TypeId) 2 encDg x.cs ((0 : Int), ByteArray.empty)),
                                             Ent.mk (Loc.sl y.ao2 y.4) (SObj.vecL (52 : TypeId) 2 encDg y.cs ((0 : Int), ByteArray.empty)),
                                             Ent.mk (Loc.sl z.ao2 z.4) (SObj.vecL (52 : TypeId) 2 encDg z.cs ((0 : Int), ByteArray.empty)),
                                             Ent.mk (Loc.sl ao2 cap2) (SObj.vecL (52 : TypeId) 2 encDg x.cs ((0 : Int), ByteArray.empty)),
                                             Ent.mk (Loc.sl ao2_1 cap2_1) (SObj.vecL (52 : TypeId) 2 encDg y.cs ((0 : Int), ByteArray.empty)),
                                             Ent.mk (Loc.sl ao2_2 cap2_2) (SObj.vecL (52 : TypeId) 2 encDg z.cs ((0 : Int), ByteArray.empty))])) := by kernel_rfl
end Go.Proofs.Ytjnkfgigpapeaaa
