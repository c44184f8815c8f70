import Derived.Test.YtjnkfgigpapeaaaPortC
import Derived.Test.YtjnkfgigpapeaaaTab
namespace Go.Proofs.Ytjnkfgigpapeaaa
set_option linter.unusedVariables false
open Go Go.RowKit
set_option maxHeartbeats 0
set_option maxRecDepth 100000

theorem known10_run (K : List Frm → Sy → Prop) (N : List Ent → SV → Prop) : (run Try.prog port2 false [] K (retP Try.prog Try.f20.results.toList N) 600 [.code (bodyOf Try.f20)] ⟨padTo 55 [], []⟩) = (
true = true ∧
  ∀ (b : Nat),
    (true = true ∧ true = true) ∧
      true = true ∧
        ∀ (b_1 : Nat),
          true = true ∧
            b_1 = b_1 ∧
              (b = b ∧ @none IntKind = @none IntKind ∧ @none IntKind = @none IntKind) ∧
                b_1 = b_1 ∧
                  (true = true ∧ true = true) ∧
                    true = true ∧
                      ∀ (b_2 : Nat),
                        (b = b ∧ @none IntKind = @none IntKind ∧ @none IntKind = @none IntKind) ∧
                          true = true ∧
                            b_1 = b_1 ∧
                              (b = b ∧ @none IntKind = @none IntKind ∧ @none IntKind = @none IntKind) ∧
                                b_1 = b_1 ∧
                                  (true = true ∧ true = true) ∧
                                    true = true ∧
                                      true = true ∧
                                        ∀ (b_3 : Nat),
                                          b_2 = b_2 ∧
                                            b_2 = b_2 ∧
                                              (b_3 = b_3 ∧ (2 : Nat) = (2 : Nat)) ∧
                                                (true = true ∧ (2 : Nat) = (2 : Nat) ∧ (0 : Nat) < (2 : Nat) ∧ (2 : Nat) ≤ (16777216 : Nat)) ∧
                                                  ∀ (b_4 : Nat),
                                                    (Ent.mk (Loc.blk b) (SObj.mapV (@none IntKind) [(Key.s (ByteArray.mk #[(97 : UInt8)]), SV.ptr (2 : Nat) b_2 (0 : Nat))]) =
                                                          Ent.mk (Loc.blk b) (SObj.mapV (@none IntKind) [(Key.s (ByteArray.mk #[(97 : UInt8)]), SV.ptr (2 : Nat) b_2 (0 : Nat))]) ∧
                                                        Ent.mk (Loc.blk b_1)
                                                              (SObj.cells [SV.map (0 : Nat) b, SV.raw (Value.slice (@none Addr) (0 : Nat) (0 : Nat)), SV.int IntKind.i64 (0 : Int)] (120 : Nat)) =
                                                            Ent.mk (Loc.blk b_1)
                                                              (SObj.cells [SV.map (0 : Nat) b, SV.raw (Value.slice (@none Addr) (0 : Nat) (0 : Nat)), SV.int IntKind.i64 (0 : Int)] (120 : Nat)) ∧
                                                          Ent.mk (Loc.blk b_2) (SObj.cells [SV.raw (Value.slice (@none Addr) (0 : Nat) (0 : Nat))] (125 : Nat)) =
                                                              Ent.mk (Loc.blk b_2) (SObj.cells [SV.raw (Value.slice (@none Addr) (0 : Nat) (0 : Nat))] (125 : Nat)) ∧
                                                            Ent.mk (Loc.blk b_3) (SObj.cells [SV.int IntKind.i64 (1 : Int), SV.str (ByteArray.mk #[(120 : UInt8)])] (52 : Nat)) =
                                                                Ent.mk (Loc.blk b_3) (SObj.cells [SV.int IntKind.i64 (1 : Int), SV.str (ByteArray.mk #[(120 : UInt8)])] (52 : Nat)) ∧
                                                              True) ∧
                                                      (some (Addr.mk b_4 (0 : Nat) (@none Nat)) = some (Addr.mk b_4 (0 : Nat) (@none Nat)) ∧
                                                          (2 : Nat) = (2 : Nat) ∧
                                                            (0 : Nat) < (1 : Nat) ∧ true = true ∧ (24 : Nat) ≤ (140737488355328 : Nat) ∧ (1 : Nat) ≤ (9223372036854775807 : Nat)) ∧
                                                        ∀ (ao2 : Option Addr) (cap2 : Nat),
                                                          (1 : Nat) ≤ cap2 →
                                                            (b_2 = b_2 ∧ true = true ∧ (1 : Nat) = (1 : Nat) ∧ (1 : Nat) ≤ (1 : Nat)) ∧
                                                              b_1 = b_1 ∧
                                                                (b_1 = b_1 ∧ true = true ∧ (1 : Nat) = (1 : Nat) ∧ (3 : Nat) ≤ (3 : Nat)) ∧
                                                                  b_1 = b_1 ∧
                                                                    true = true ∧
                                                                      ∀ (b_5 : Nat),
                                                                        b_1 = b_1 ∧
                                                                          (b = b ∧ @none IntKind = @none IntKind ∧ @none IntKind = @none IntKind) ∧
                                                                            true = true ∧
                                                                              ∀ (b_6 b_7 : Nat),
                                                                                b_2 = b_2 ∧
                                                                                  b_2 = b_2 ∧
                                                                                    (ao2 = ao2 ∧ cap2 = cap2 ∧ (1 : Nat) = (1 : Nat) ∧ (0 : Int) ≤ (0 : Int) ∧ (0 : Int) < (↑(1 : Nat) : Int)) ∧
                                                                                      (Addr.blkD ao2 = Addr.blkD ao2 ∧ Addr.offD ao2 = Addr.offD ao2 ∧ (2 : Nat) = (2 : Nat) ∧ (2 : Nat) = (2 : Nat)) ∧
                                                                                        (b_2 = b_2 ∧
                                                                                            ((0 : Int) ≤ (1 : Int) ∧ (1 : Int) ≤ (↑(1 : Nat) : Int) ∧ (1 : Nat) ≤ cap2) ∧
                                                                                              (b_7 = b_7 ∧ true = true ∧ (2 : Nat) = (2 : Nat) ∧ (2 : Nat) ≤ (2 : Nat)) ∧
                                                                                                (b_2 = b_2 ∧ true = true ∧ (1 : Nat) = (1 : Nat) ∧ (1 : Nat) ≤ (1 : Nat)) ∧
                                                                                                  (b_7 = b_7 ∧ (2 : Nat) = (2 : Nat)) ∧
                                                                                                    (b_6 = b_6 ∧ true = true ∧ (2 : Nat) = (2 : Nat) ∧ (2 : Nat) ≤ (2 : Nat)) ∧
                                                                                                      (b_6 = b_6 ∧ (2 : Nat) = (2 : Nat)) ∧
                                                                                                        ∀ (b_8 : Nat),
                                                                                                          (b_8 = b_8 ∧ true = true ∧ (2 : Nat) = (2 : Nat) ∧ (2 : Nat) ≤ (2 : Nat)) ∧
                                                                                                            (b_8 = b_8 ∧ (2 : Nat) = (2 : Nat)) ∧
                                                                                                              (b_5 = b_5 ∧ true = true ∧ (2 : Nat) = (2 : Nat) ∧ (2 : Nat) ≤ (2 : Nat)) ∧
                                                                                                                (b_5 = b_5 ∧ (2 : Nat) = (2 : Nat)) ∧
                                                                                                                  ∀ (b_9 : Nat),
                                                                                                                    (b_9 = b_9 ∧ true = true ∧ (2 : Nat) = (2 : Nat) ∧ (2 : Nat) ≤ (2 : Nat)) ∧
                                                                                                                      true = true ∧
                                                                                                                        ∀ (b_10 : Nat),
                                                                                                                          b_1 = b_1 ∧
                                                                                                                            (b = b ∧ @none IntKind = @none IntKind ∧ @none IntKind = @none IntKind) ∧
                                                                                                                              true = true ∧
                                                                                                                                ∀ (b_11 b_12 : Nat),
                                                                                                                                  b_2 = b_2 ∧
                                                                                                                                    (b_12 = b_12 ∧ (2 : Nat) = (2 : Nat)) ∧
                                                                                                                                      (b_11 = b_11 ∧
                                                                                                                                          true = true ∧ (2 : Nat) = (2 : Nat) ∧ (2 : Nat) ≤ (2 : Nat)) ∧
                                                                                                                                        (b_11 = b_11 ∧ (2 : Nat) = (2 : Nat)) ∧
                                                                                                                                          ∀ (b_13 : Nat),
                                                                                                                                            (b_13 = b_13 ∧
                                                                                                                                                true = true ∧
                                                                                                                                                  (2 : Nat) = (2 : Nat) ∧ (2 : Nat) ≤ (2 : Nat)) ∧
                                                                                                                                              (true = true ∧ true = true) ∧
                                                                                                                                                (b_10 = b_10 ∧
                                                                                                                                                    true = true ∧
                                                                                                                                                      (2 : Nat) = (2 : Nat) ∧ (2 : Nat) ≤ (2 : Nat)) ∧
                                                                                                                                                  (b_10 = b_10 ∧ (2 : Nat) = (2 : Nat)) ∧
                                                                                                                                                    ∀ (b_14 : Nat),
                                                                                                                                                      (b_14 = b_14 ∧
                                                                                                                                                          true = true ∧
                                                                                                                                                            (2 : Nat) = (2 : Nat) ∧
                                                                                                                                                              (2 : Nat) ≤ (2 : Nat)) ∧
                                                                                                                                                        (b_9 = b_9 ∧ (2 : Nat) = (2 : Nat)) ∧
                                                                                                                                                          (true = true ∧ true = true) ∧
                                                                                                                                                            true = true ∧
                                                                                                                                                              b_1 = b_1 ∧
                                                                                                                                                                (b = b ∧
                                                                                                                                                                    @none IntKind = @none IntKind ∧
                                                                                                                                                                      @none IntKind = @none IntKind) ∧
                                                                                                                                                                  N
                                                                                                                                                                    [Ent.mk (Loc.blk b)
                                                                                                                                                                        (SObj.mapV (@none IntKind)
                                                                                                                                                                          [(Key.s
                                                                                                                                                                                (ByteArray.mk
                                                                                                                                                                                  #[(97 : UInt8)]),
                                                                                                                                                                              SV.ptr (2 : Nat) b_2
                                                                                                                                                                                (0 : Nat))]),
                                                                                                                                                                      Ent.mk (Loc.blk b_1)
                                                                                                                                                                        (SObj.cells
                                                                                                                                                                          [SV.map (0 : Nat) b,
                                                                                                                                                                            SV.raw
                                                                                                                                                                              (Value.slice (@none Addr)
                                                                                                                                                                                (0 : Nat) (0 : Nat)),
                                                                                                                                                                            SV.int IntKind.i64
                                                                                                                                                                              (1 : Int)]
                                                                                                                                                                          (120 : Nat)),
                                                                                                                                                                      Ent.mk (Loc.blk b_2)
                                                                                                                                                                        (SObj.cells
                                                                                                                                                                          [SV.sub (5 : Nat) ao2 cap2
                                                                                                                                                                              (2 : Nat) (1 : Nat)
                                                                                                                                                                              (1 : Nat)]
                                                                                                                                                                          (125 : Nat)),
                                                                                                                                                                      Ent.mk (Loc.blk b_3)
                                                                                                                                                                        (SObj.cells
                                                                                                                                                                          [SV.int IntKind.i64 (1 : Int),
                                                                                                                                                                            SV.str
                                                                                                                                                                              (ByteArray.mk
                                                                                                                                                                                #[(120 : UInt8)])]
                                                                                                                                                                          (52 : Nat)),
                                                                                                                                                                      Ent.mk (Loc.blk b_4)
                                                                                                                                                                        (SObj.cells
                                                                                                                                                                          [SV.int IntKind.i64 (1 : Int),
                                                                                                                                                                            SV.str
                                                                                                                                                                              (ByteArray.mk
                                                                                                                                                                                #[(120 : UInt8)])]
                                                                                                                                                                          (52 : Nat)),
                                                                                                                                                                      Ent.mk (Loc.sl ao2 cap2)
                                                                                                                                                                        (SObj.vecV (52 : Nat) (2 : Nat)
                                                                                                                                                                          (1 : Nat)
                                                                                                                                                                          [SV.int IntKind.i64 (1 : Int),
                                                                                                                                                                            SV.str
                                                                                                                                                                              (ByteArray.mk
                                                                                                                                                                                #[(120 : UInt8)])]),
                                                                                                                                                                      Ent.mk (Loc.blk b_5)
                                                                                                                                                                        (SObj.cells
                                                                                                                                                                          [SV.int IntKind.i64 (1 : Int),
                                                                                                                                                                            SV.str
                                                                                                                                                                              (ByteArray.mk
                                                                                                                                                                                #[(120 : UInt8)])]
                                                                                                                                                                          (52 : Nat)),
                                                                                                                                                                      Ent.mk (Loc.blk b_6)
                                                                                                                                                                        (SObj.cells
                                                                                                                                                                          [SV.int IntKind.i64 (1 : Int),
                                                                                                                                                                            SV.str
                                                                                                                                                                              (ByteArray.mk
                                                                                                                                                                                #[(120 : UInt8)])]
                                                                                                                                                                          (52 : Nat)),
                                                                                                                                                                      Ent.mk (Loc.blk b_7)
                                                                                                                                                                        (SObj.cells
                                                                                                                                                                          [SV.int IntKind.i64 (1 : Int),
                                                                                                                                                                            SV.str
                                                                                                                                                                              (ByteArray.mk
                                                                                                                                                                                #[(120 : UInt8)])]
                                                                                                                                                                          (52 : Nat)),
                                                                                                                                                                      Ent.mk (Loc.blk b_8)
                                                                                                                                                                        (SObj.cells
                                                                                                                                                                          [SV.int IntKind.i64 (1 : Int),
                                                                                                                                                                            SV.str
                                                                                                                                                                              (ByteArray.mk
                                                                                                                                                                                #[(120 : UInt8)])]
                                                                                                                                                                          (52 : Nat)),
                                                                                                                                                                      Ent.mk (Loc.blk b_9)
                                                                                                                                                                        (SObj.cells
                                                                                                                                                                          [SV.int IntKind.i64 (1 : Int),
                                                                                                                                                                            SV.str
                                                                                                                                                                              (ByteArray.mk
                                                                                                                                                                                #[(120 : UInt8)])]
                                                                                                                                                                          (52 : Nat)),
                                                                                                                                                                      Ent.mk (Loc.blk b_10)
                                                                                                                                                                        (SObj.cells
                                                                                                                                                                          [SV.int IntKind.i64 (0 : Int),
                                                                                                                                                                            SV.str (ByteArray.mk #[])]
                                                                                                                                                                          (52 : Nat)),
                                                                                                                                                                      Ent.mk (Loc.blk b_11)
                                                                                                                                                                        (SObj.cells
                                                                                                                                                                          [SV.int IntKind.i64 (0 : Int),
                                                                                                                                                                            SV.str (ByteArray.mk #[])]
                                                                                                                                                                          (52 : Nat)),
                                                                                                                                                                      Ent.mk (Loc.blk b_12)
                                                                                                                                                                        (SObj.cells
                                                                                                                                                                          [SV.int IntKind.i64 (0 : Int),
                                                                                                                                                                            SV.str (ByteArray.mk #[])]
                                                                                                                                                                          (52 : Nat)),
                                                                                                                                                                      Ent.mk (Loc.blk b_13)
                                                                                                                                                                        (SObj.cells
                                                                                                                                                                          [SV.int IntKind.i64 (0 : Int),
                                                                                                                                                                            SV.str (ByteArray.mk #[])]
                                                                                                                                                                          (52 : Nat)),
                                                                                                                                                                      Ent.mk (Loc.blk b_14)
                                                                                                                                                                        (SObj.cells
                                                                                                                                                                          [SV.int IntKind.i64 (0 : Int),
                                                                                                                                                                            SV.str (ByteArray.mk #[])]
                                                                                                                                                                          (52 : Nat))]
                                                                                                                                                                    (SV.bool true)) ∧
                                                                                          (b_7 = b_7 ∧ true = true ∧ (2 : Nat) = (2 : Nat) ∧ (2 : Nat) ≤ (2 : Nat)) ∧
                                                                                            b_2 = b_2 ∧
                                                                                              ((0 : Int) ≤ (1 : Int) ∧ (1 : Int) ≤ (↑(1 : Nat) : Int) ∧ (1 : Nat) ≤ cap2) ∧
                                                                                                (b_2 = b_2 ∧ true = true ∧ (1 : Nat) = (1 : Nat) ∧ (1 : Nat) ≤ (1 : Nat)) ∧
                                                                                                  (b_7 = b_7 ∧ (2 : Nat) = (2 : Nat)) ∧
                                                                                                    (b_6 = b_6 ∧ true = true ∧ (2 : Nat) = (2 : Nat) ∧ (2 : Nat) ≤ (2 : Nat)) ∧
                                                                                                      (b_6 = b_6 ∧ (2 : Nat) = (2 : Nat)) ∧
                                                                                                        ∀ (b_8 : Nat),
                                                                                                          (b_8 = b_8 ∧ true = true ∧ (2 : Nat) = (2 : Nat) ∧ (2 : Nat) ≤ (2 : Nat)) ∧
                                                                                                            (b_8 = b_8 ∧ (2 : Nat) = (2 : Nat)) ∧
                                                                                                              (b_5 = b_5 ∧ true = true ∧ (2 : Nat) = (2 : Nat) ∧ (2 : Nat) ≤ (2 : Nat)) ∧
                                                                                                                (b_5 = b_5 ∧ (2 : Nat) = (2 : Nat)) ∧
                                                                                                                  ∀ (b_9 : Nat),
                                                                                                                    (b_9 = b_9 ∧ true = true ∧ (2 : Nat) = (2 : Nat) ∧ (2 : Nat) ≤ (2 : Nat)) ∧
                                                                                                                      true = true ∧
                                                                                                                        ∀ (b_10 : Nat),
                                                                                                                          b_1 = b_1 ∧
                                                                                                                            (b = b ∧ @none IntKind = @none IntKind ∧ @none IntKind = @none IntKind) ∧
                                                                                                                              true = true ∧
                                                                                                                                ∀ (b_11 b_12 : Nat),
                                                                                                                                  b_2 = b_2 ∧
                                                                                                                                    (b_12 = b_12 ∧ (2 : Nat) = (2 : Nat)) ∧
                                                                                                                                      (b_11 = b_11 ∧
                                                                                                                                          true = true ∧ (2 : Nat) = (2 : Nat) ∧ (2 : Nat) ≤ (2 : Nat)) ∧
                                                                                                                                        (b_11 = b_11 ∧ (2 : Nat) = (2 : Nat)) ∧
                                                                                                                                          ∀ (b_13 : Nat),
                                                                                                                                            (b_13 = b_13 ∧
                                                                                                                                                true = true ∧
                                                                                                                                                  (2 : Nat) = (2 : Nat) ∧ (2 : Nat) ≤ (2 : Nat)) ∧
                                                                                                                                              (true = true ∧ true = true) ∧
                                                                                                                                                (b_10 = b_10 ∧
                                                                                                                                                    true = true ∧
                                                                                                                                                      (2 : Nat) = (2 : Nat) ∧ (2 : Nat) ≤ (2 : Nat)) ∧
                                                                                                                                                  (b_10 = b_10 ∧ (2 : Nat) = (2 : Nat)) ∧
                                                                                                                                                    ∀ (b_14 : Nat),
                                                                                                                                                      (b_14 = b_14 ∧
                                                                                                                                                          true = true ∧
                                                                                                                                                            (2 : Nat) = (2 : Nat) ∧
                                                                                                                                                              (2 : Nat) ≤ (2 : Nat)) ∧
                                                                                                                                                        (b_9 = b_9 ∧ (2 : Nat) = (2 : Nat)) ∧
                                                                                                                                                          (true = true ∧ true = true) ∧
                                                                                                                                                            true = true ∧
                                                                                                                                                              b_1 = b_1 ∧
                                                                                                                                                                (b = b ∧
                                                                                                                                                                    @none IntKind = @none IntKind ∧
                                                                                                                                                                      @none IntKind = @none IntKind) ∧
                                                                                                                                                                  N
                                                                                                                                                                    [Ent.mk (Loc.blk b)
                                                                                                                                                                        (SObj.mapV (@none IntKind)
                                                                                                                                                                          [(Key.s
                                                                                                                                                                                (ByteArray.mk
                                                                                                                                                                                  #[(97 : UInt8)]),
                                                                                                                                                                              SV.ptr (2 : Nat) b_2
                                                                                                                                                                                (0 : Nat))]),
                                                                                                                                                                      Ent.mk (Loc.blk b_1)
                                                                                                                                                                        (SObj.cells
                                                                                                                                                                          [SV.map (0 : Nat) b,
                                                                                                                                                                            SV.raw
                                                                                                                                                                              (Value.slice (@none Addr)
                                                                                                                                                                                (0 : Nat) (0 : Nat)),
                                                                                                                                                                            SV.int IntKind.i64
                                                                                                                                                                              (1 : Int)]
                                                                                                                                                                          (120 : Nat)),
                                                                                                                                                                      Ent.mk (Loc.blk b_2)
                                                                                                                                                                        (SObj.cells
                                                                                                                                                                          [SV.sub (5 : Nat) ao2 cap2
                                                                                                                                                                              (2 : Nat) (1 : Nat)
                                                                                                                                                                              (1 : Nat)]
                                                                                                                                                                          (125 : Nat)),
                                                                                                                                                                      Ent.mk (Loc.blk b_3)
                                                                                                                                                                        (SObj.cells
                                                                                                                                                                          [SV.int IntKind.i64 (1 : Int),
                                                                                                                                                                            SV.str
                                                                                                                                                                              (ByteArray.mk
                                                                                                                                                                                #[(120 : UInt8)])]
                                                                                                                                                                          (52 : Nat)),
                                                                                                                                                                      Ent.mk (Loc.blk b_4)
                                                                                                                                                                        (SObj.cells
                                                                                                                                                                          [SV.int IntKind.i64 (1 : Int),
                                                                                                                                                                            SV.str
                                                                                                                                                                              (ByteArray.mk
                                                                                                                                                                                #[(120 : UInt8)])]
                                                                                                                                                                          (52 : Nat)),
                                                                                                                                                                      Ent.mk (Loc.sl ao2 cap2)
                                                                                                                                                                        (SObj.vecV (52 : Nat) (2 : Nat)
                                                                                                                                                                          (1 : Nat)
                                                                                                                                                                          [SV.int IntKind.i64 (1 : Int),
                                                                                                                                                                            SV.str
                                                                                                                                                                              (ByteArray.mk
                                                                                                                                                                                #[(120 : UInt8)])]),
                                                                                                                                                                      Ent.mk (Loc.blk b_5)
                                                                                                                                                                        (SObj.cells
                                                                                                                                                                          [SV.int IntKind.i64 (1 : Int),
                                                                                                                                                                            SV.str
                                                                                                                                                                              (ByteArray.mk
                                                                                                                                                                                #[(120 : UInt8)])]
                                                                                                                                                                          (52 : Nat)),
                                                                                                                                                                      Ent.mk (Loc.blk b_6)
                                                                                                                                                                        (SObj.cells
                                                                                                                                                                          [SV.int IntKind.i64 (1 : Int),
                                                                                                                                                                            SV.str
                                                                                                                                                                              (ByteArray.mk
                                                                                                                                                                                #[(120 : UInt8)])]
                                                                                                                                                                          (52 : Nat)),
                                                                                                                                                                      Ent.mk (Loc.blk b_7)
                                                                                                                                                                        (SObj.cells
                                                                                                                                                                          [SV.int IntKind.i64 (1 : Int),
                                                                                                                                                                            SV.str
                                                                                                                                                                              (ByteArray.mk
                                                                                                                                                                                #[(120 : UInt8)])]
                                                                                                                                                                          (52 : Nat)),
                                                                                                                                                                      Ent.mk (Loc.blk b_8)
                                                                                                                                                                        (SObj.cells
                                                                                                                                                                          [SV.int IntKind.i64 (1 : Int),
                                                                                                                                                                            SV.str
                                                                                                                                                                              (ByteArray.mk
                                                                                                                                                                                #[(120 : UInt8)])]
                                                                                                                                                                          (52 : Nat)),
                                                                                                                                                                      Ent.mk (Loc.blk b_9)
                                                                                                                                                                        (SObj.cells
                                                                                                                                                                          [SV.int IntKind.i64 (1 : Int),
                                                                                                                                                                            SV.str
                                                                                                                                                                              (ByteArray.mk
                                                                                                                                                                                #[(120 : UInt8)])]
                                                                                                                                                                          (52 : Nat)),
                                                                                                                                                                      Ent.mk (Loc.blk b_10)
                                                                                                                                                                        (SObj.cells
                                                                                                                                                                          [SV.int IntKind.i64 (0 : Int),
                                                                                                                                                                            SV.str (ByteArray.mk #[])]
                                                                                                                                                                          (52 : Nat)),
                                                                                                                                                                      Ent.mk (Loc.blk b_11)
                                                                                                                                                                        (SObj.cells
                                                                                                                                                                          [SV.int IntKind.i64 (0 : Int),
                                                                                                                                                                            SV.str (ByteArray.mk #[])]
                                                                                                                                                                          (52 : Nat)),
                                                                                                                                                                      Ent.mk (Loc.blk b_12)
                                                                                                                                                                        (SObj.cells
                                                                                                                                                                          [SV.int IntKind.i64 (0 : Int),
                                                                                                                                                                            SV.str (ByteArray.mk #[])]
                                                                                                                                                                          (52 : Nat)),
                                                                                                                                                                      Ent.mk (Loc.blk b_13)
                                                                                                                                                                        (SObj.cells
                                                                                                                                                                          [SV.int IntKind.i64 (0 : Int),
                                                                                                                                                                            SV.str (ByteArray.mk #[])]
                                                                                                                                                                          (52 : Nat)),
                                                                                                                                                                      Ent.mk (Loc.blk b_14)
                                                                                                                                                                        (SObj.cells
                                                                                                                                                                          [SV.int IntKind.i64 (0 : Int),
                                                                                                                                                                            SV.str (ByteArray.mk #[])]
                                                                                                                                                                          (52 : Nat))]
                                                                                                                                                                    (SV.bool true)) := by kernel_rfl


end Go.Proofs.Ytjnkfgigpapeaaa
