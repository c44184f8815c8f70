import Derived.Test.YtjnkfgigpapeaaaQSC
import Derived.Test.YtjnkfgigpapeaaaTab
namespace Go.Proofs.Ytjnkfgigpapeaaa
set_option linter.unusedVariables false
open Go Go.RowKit
set_option maxHeartbeats 0
set_option maxRecDepth 100000
set_option linter.unusedVariables false
set_option maxRecDepth 100000

theorem qSless0 (K : List Frm → Sy → Prop) (N : List Ent → SV → Prop) (b cap : Nat) (ao : Option Addr) (rest : List SV) (T : TypeId) (xs : List (ByteArray × Int)) (f : FuncId) (i j : Int) : (run Try.prog [(79, inl Try.prog [] true Try.f79 100)] true [] K (retP Try.prog Try.f130.results.toList N) 900 [.code (bodyOf Try.f130)] ⟨padTo 51 [.ptr 0 b 0, .int .i64 i, .int .i64 j], qhG 140 2 encItS (ByteArray.empty, (0 : Int)) b ao cap 79 rest T xs⟩) = (
b = b ∧
 (ao = ao ∧ cap = cap ∧ List.length xs = List.length xs ∧ (0 : Int) ≤ i ∧ i < (↑(List.length xs) : Int)) ∧
  (Addr.blkD ao = Addr.blkD ao ∧ Addr.offD ao = Addr.offD ao ∧ 2 = 2 ∧ Int.toNat i < List.length xs ∧ 2 = 2) ∧
   b = b ∧
    (ao = ao ∧ cap = cap ∧ List.length xs = List.length xs ∧ (0 : Int) ≤ j ∧ j < (↑(List.length xs) : Int)) ∧
     (Addr.blkD ao = Addr.blkD ao ∧ Addr.offD ao = Addr.offD ao ∧ 2 = 2 ∧ Int.toNat j < List.length xs ∧ 2 = 2) ∧
      (∀ (b_1 : Nat),
       (Ent.mk (Loc.blk b) (SObj.cells (SV.vec 1 ao (List.length xs) cap :: SV.func (Fn.func (79 : FuncId)) [] [] :: rest) T) =
        Ent.mk (Loc.blk b) (SObj.cells (SV.vec 1 ao (List.length xs) cap :: SV.func (Fn.func (79 : FuncId)) [] [] :: rest) T) ∧
        Ent.mk (Loc.sl ao cap) (SObj.vecL (140 : TypeId) 2 encItS xs (ByteArray.empty, (0 : Int))) =
         Ent.mk (Loc.sl ao cap) (SObj.vecL (140 : TypeId) 2 encItS xs (ByteArray.empty, (0 : Int))) ∧
         True) ∧
        ∀ (b_2 : Nat),
         (Ent.mk (Loc.blk b) (SObj.cells (SV.vec 1 ao (List.length xs) cap :: SV.func (Fn.func (79 : FuncId)) [] [] :: rest) T) =
          Ent.mk (Loc.blk b) (SObj.cells (SV.vec 1 ao (List.length xs) cap :: SV.func (Fn.func (79 : FuncId)) [] [] :: rest) T) ∧
          Ent.mk (Loc.sl ao cap) (SObj.vecL (140 : TypeId) 2 encItS xs (ByteArray.empty, (0 : Int))) =
           Ent.mk (Loc.sl ao cap) (SObj.vecL (140 : TypeId) 2 encItS xs (ByteArray.empty, (0 : Int))) ∧
           True) ∧
          (b_1 = b_1 ∧ true = true ∧ 2 = 2 ∧ 2 ≤ 2) ∧
           (Ent.mk (Loc.blk b) (SObj.cells (SV.vec 1 ao (List.length xs) cap :: SV.func (Fn.func (79 : FuncId)) [] [] :: rest) T) =
            Ent.mk (Loc.blk b) (SObj.cells (SV.vec 1 ao (List.length xs) cap :: SV.func (Fn.func (79 : FuncId)) [] [] :: rest) T) ∧
            Ent.mk (Loc.sl ao cap) (SObj.vecL (140 : TypeId) 2 encItS xs (ByteArray.empty, (0 : Int))) =
             Ent.mk (Loc.sl ao cap) (SObj.vecL (140 : TypeId) 2 encItS xs (ByteArray.empty, (0 : Int))) ∧
             True) ∧
            (b_2 = b_2 ∧ true = true ∧ 2 = 2 ∧ 2 ≤ 2) ∧
             (Ent.mk (Loc.blk b) (SObj.cells (SV.vec 1 ao (List.length xs) cap :: SV.func (Fn.func (79 : FuncId)) [] [] :: rest) T) =
              Ent.mk (Loc.blk b) (SObj.cells (SV.vec 1 ao (List.length xs) cap :: SV.func (Fn.func (79 : FuncId)) [] [] :: rest) T) ∧
              Ent.mk (Loc.sl ao cap) (SObj.vecL (140 : TypeId) 2 encItS xs (ByteArray.empty, (0 : Int))) =
               Ent.mk (Loc.sl ao cap) (SObj.vecL (140 : TypeId) 2 encItS xs (ByteArray.empty, (0 : Int))) ∧
               True) ∧
              b = b ∧
               b_1 = b_1 ∧
                b_2 = b_2 ∧
                 true = true ∧
                  (Ent.mk (Loc.blk b) (SObj.cells (SV.vec 1 ao (List.length xs) cap :: SV.func (Fn.func (79 : FuncId)) [] [] :: rest) T) =
                   Ent.mk (Loc.blk b) (SObj.cells (SV.vec 1 ao (List.length xs) cap :: SV.func (Fn.func (79 : FuncId)) [] [] :: rest) T) ∧
                   Ent.mk (Loc.sl ao cap) (SObj.vecL (140 : TypeId) 2 encItS xs (ByteArray.empty, (0 : Int))) =
                    Ent.mk (Loc.sl ao cap) (SObj.vecL (140 : TypeId) 2 encItS xs (ByteArray.empty, (0 : Int))) ∧
                    Ent.mk (Loc.blk b_1)
                     (SObj.cells
                      [SV.str (List.getD xs (Int.toNat i) (ByteArray.empty, (0 : Int))).fst,
                       SV.int IntKind.i64 (List.getD xs (Int.toNat i) (ByteArray.empty, (0 : Int))).2]
                      140) =
                     Ent.mk (Loc.blk b_1)
                      (SObj.cells
                       [SV.str (List.getD xs (Int.toNat i) (ByteArray.empty, (0 : Int))).fst,
                        SV.int IntKind.i64 (List.getD xs (Int.toNat i) (ByteArray.empty, (0 : Int))).2]
                       140) ∧
                     Ent.mk (Loc.blk b_2)
                      (SObj.cells
                       [SV.str (List.getD xs (Int.toNat j) (ByteArray.empty, (0 : Int))).fst,
                        SV.int IntKind.i64 (List.getD xs (Int.toNat j) (ByteArray.empty, (0 : Int))).2]
                       140) =
                      Ent.mk (Loc.blk b_2)
                       (SObj.cells
                        [SV.str (List.getD xs (Int.toNat j) (ByteArray.empty, (0 : Int))).fst,
                         SV.int IntKind.i64 (List.getD xs (Int.toNat j) (ByteArray.empty, (0 : Int))).2]
                        140) ∧
                      True) ∧
                   match sLt (List.getD xs (Int.toNat i) (ByteArray.empty, (0 : Int))).fst (List.getD xs (Int.toNat j) (ByteArray.empty, (0 : Int))).fst with
                   | true =>
                    (Ent.mk (Loc.blk b) (SObj.cells (SV.vec 1 ao (List.length xs) cap :: SV.func (Fn.func (79 : FuncId)) [] [] :: rest) T) =
                     Ent.mk (Loc.blk b) (SObj.cells (SV.vec 1 ao (List.length xs) cap :: SV.func (Fn.func (79 : FuncId)) [] [] :: rest) T) ∧
                     Ent.mk (Loc.sl ao cap) (SObj.vecL (140 : TypeId) 2 encItS xs (ByteArray.empty, (0 : Int))) =
                      Ent.mk (Loc.sl ao cap) (SObj.vecL (140 : TypeId) 2 encItS xs (ByteArray.empty, (0 : Int))) ∧
                      Ent.mk (Loc.blk b_1)
                       (SObj.cells
                        [SV.str (List.getD xs (Int.toNat i) (ByteArray.empty, (0 : Int))).fst,
                         SV.int IntKind.i64 (List.getD xs (Int.toNat i) (ByteArray.empty, (0 : Int))).2]
                        140) =
                       Ent.mk (Loc.blk b_1)
                        (SObj.cells
                         [SV.str (List.getD xs (Int.toNat i) (ByteArray.empty, (0 : Int))).fst,
                          SV.int IntKind.i64 (List.getD xs (Int.toNat i) (ByteArray.empty, (0 : Int))).2]
                         140) ∧
                       Ent.mk (Loc.blk b_2)
                        (SObj.cells
                         [SV.str (List.getD xs (Int.toNat j) (ByteArray.empty, (0 : Int))).fst,
                          SV.int IntKind.i64 (List.getD xs (Int.toNat j) (ByteArray.empty, (0 : Int))).2]
                         140) =
                        Ent.mk (Loc.blk b_2)
                         (SObj.cells
                          [SV.str (List.getD xs (Int.toNat j) (ByteArray.empty, (0 : Int))).fst,
                           SV.int IntKind.i64 (List.getD xs (Int.toNat j) (ByteArray.empty, (0 : Int))).2]
                          140) ∧
                        True) ∧
                     true = true ∧
                      true = true ∧
                       true = true ∧
                        true = true ∧
                         true = true ∧
                          N
                           [Ent.mk (Loc.blk b) (SObj.cells (SV.vec 1 ao (List.length xs) cap :: SV.func (Fn.func (79 : FuncId)) [] [] :: rest) T),
                            Ent.mk (Loc.sl ao cap) (SObj.vecL (140 : TypeId) 2 encItS xs (ByteArray.empty, (0 : Int))),
                            Ent.mk (Loc.blk b_1)
                             (SObj.cells
                              [SV.str (List.getD xs (Int.toNat i) (ByteArray.empty, (0 : Int))).fst,
                               SV.int IntKind.i64 (List.getD xs (Int.toNat i) (ByteArray.empty, (0 : Int))).2]
                              140),
                            Ent.mk (Loc.blk b_2)
                             (SObj.cells
                              [SV.str (List.getD xs (Int.toNat j) (ByteArray.empty, (0 : Int))).fst,
                               SV.int IntKind.i64 (List.getD xs (Int.toNat j) (ByteArray.empty, (0 : Int))).2]
                              140)]
                           (SV.bool true)
                   | false =>
                    b = b ∧
                     b_2 = b_2 ∧
                      b_1 = b_1 ∧
                       true = true ∧
                        (Ent.mk (Loc.blk b) (SObj.cells (SV.vec 1 ao (List.length xs) cap :: SV.func (Fn.func (79 : FuncId)) [] [] :: rest) T) =
                         Ent.mk (Loc.blk b) (SObj.cells (SV.vec 1 ao (List.length xs) cap :: SV.func (Fn.func (79 : FuncId)) [] [] :: rest) T) ∧
                         Ent.mk (Loc.sl ao cap) (SObj.vecL (140 : TypeId) 2 encItS xs (ByteArray.empty, (0 : Int))) =
                          Ent.mk (Loc.sl ao cap) (SObj.vecL (140 : TypeId) 2 encItS xs (ByteArray.empty, (0 : Int))) ∧
                          Ent.mk (Loc.blk b_1)
                           (SObj.cells
                            [SV.str (List.getD xs (Int.toNat i) (ByteArray.empty, (0 : Int))).fst,
                             SV.int IntKind.i64 (List.getD xs (Int.toNat i) (ByteArray.empty, (0 : Int))).2]
                            140) =
                           Ent.mk (Loc.blk b_1)
                            (SObj.cells
                             [SV.str (List.getD xs (Int.toNat i) (ByteArray.empty, (0 : Int))).fst,
                              SV.int IntKind.i64 (List.getD xs (Int.toNat i) (ByteArray.empty, (0 : Int))).2]
                             140) ∧
                           Ent.mk (Loc.blk b_2)
                            (SObj.cells
                             [SV.str (List.getD xs (Int.toNat j) (ByteArray.empty, (0 : Int))).fst,
                              SV.int IntKind.i64 (List.getD xs (Int.toNat j) (ByteArray.empty, (0 : Int))).2]
                             140) =
                            Ent.mk (Loc.blk b_2)
                             (SObj.cells
                              [SV.str (List.getD xs (Int.toNat j) (ByteArray.empty, (0 : Int))).fst,
                               SV.int IntKind.i64 (List.getD xs (Int.toNat j) (ByteArray.empty, (0 : Int))).2]
                              140) ∧
                            True) ∧
                         match !sLt (List.getD xs (Int.toNat j) (ByteArray.empty, (0 : Int))).fst (List.getD xs (Int.toNat i) (ByteArray.empty, (0 : Int))).fst with
                         | true =>
                          b_1 = b_1 ∧
                           b_2 = b_2 ∧
                            N
                             [Ent.mk (Loc.blk b) (SObj.cells (SV.vec 1 ao (List.length xs) cap :: SV.func (Fn.func (79 : FuncId)) [] [] :: rest) T),
                              Ent.mk (Loc.sl ao cap) (SObj.vecL (140 : TypeId) 2 encItS xs (ByteArray.empty, (0 : Int))),
                              Ent.mk (Loc.blk b_1)
                               (SObj.cells
                                [SV.str (List.getD xs (Int.toNat i) (ByteArray.empty, (0 : Int))).fst,
                                 SV.int IntKind.i64 (List.getD xs (Int.toNat i) (ByteArray.empty, (0 : Int))).2]
                                140),
                              Ent.mk (Loc.blk b_2)
                               (SObj.cells
                                [SV.str (List.getD xs (Int.toNat j) (ByteArray.empty, (0 : Int))).fst,
                                 SV.int IntKind.i64 (List.getD xs (Int.toNat j) (ByteArray.empty, (0 : Int))).2]
                                140)]
                             (SV.bool
                              (decide ((List.getD xs (Int.toNat i) (ByteArray.empty, (0 : Int))).2 < (List.getD xs (Int.toNat j) (ByteArray.empty, (0 : Int))).2)))
                         | false =>
                          N
                           [Ent.mk (Loc.blk b) (SObj.cells (SV.vec 1 ao (List.length xs) cap :: SV.func (Fn.func (79 : FuncId)) [] [] :: rest) T),
                            Ent.mk (Loc.sl ao cap) (SObj.vecL (140 : TypeId) 2 encItS xs (ByteArray.empty, (0 : Int))),
                            Ent.mk (Loc.blk b_1)
                             (SObj.cells
                              [SV.str (List.getD xs (Int.toNat i) (ByteArray.empty, (0 : Int))).fst,
                               SV.int IntKind.i64 (List.getD xs (Int.toNat i) (ByteArray.empty, (0 : Int))).2]
                              140),
                            Ent.mk (Loc.blk b_2)
                             (SObj.cells
                              [SV.str (List.getD xs (Int.toNat j) (ByteArray.empty, (0 : Int))).fst,
                               SV.int IntKind.i64 (List.getD xs (Int.toNat j) (ByteArray.empty, (0 : Int))).2]
                              140)]
                           (SV.bool false)) ∧
       ∀ (b_1 : Nat),
        (Ent.mk (Loc.blk b) (SObj.cells (SV.vec 1 ao (List.length xs) cap :: SV.func (Fn.func (79 : FuncId)) [] [] :: rest) T) =
         Ent.mk (Loc.blk b) (SObj.cells (SV.vec 1 ao (List.length xs) cap :: SV.func (Fn.func (79 : FuncId)) [] [] :: rest) T) ∧
         Ent.mk (Loc.sl ao cap) (SObj.vecL (140 : TypeId) 2 encItS xs (ByteArray.empty, (0 : Int))) =
          Ent.mk (Loc.sl ao cap) (SObj.vecL (140 : TypeId) 2 encItS xs (ByteArray.empty, (0 : Int))) ∧
          True) ∧
         ∀ (b_2 : Nat),
          (Ent.mk (Loc.blk b) (SObj.cells (SV.vec 1 ao (List.length xs) cap :: SV.func (Fn.func (79 : FuncId)) [] [] :: rest) T) =
           Ent.mk (Loc.blk b) (SObj.cells (SV.vec 1 ao (List.length xs) cap :: SV.func (Fn.func (79 : FuncId)) [] [] :: rest) T) ∧
           Ent.mk (Loc.sl ao cap) (SObj.vecL (140 : TypeId) 2 encItS xs (ByteArray.empty, (0 : Int))) =
            Ent.mk (Loc.sl ao cap) (SObj.vecL (140 : TypeId) 2 encItS xs (ByteArray.empty, (0 : Int))) ∧
            True) ∧
           (b_2 = b_2 ∧ true = true ∧ 2 = 2 ∧ 2 ≤ 2) ∧
            (Ent.mk (Loc.blk b) (SObj.cells (SV.vec 1 ao (List.length xs) cap :: SV.func (Fn.func (79 : FuncId)) [] [] :: rest) T) =
             Ent.mk (Loc.blk b) (SObj.cells (SV.vec 1 ao (List.length xs) cap :: SV.func (Fn.func (79 : FuncId)) [] [] :: rest) T) ∧
             Ent.mk (Loc.sl ao cap) (SObj.vecL (140 : TypeId) 2 encItS xs (ByteArray.empty, (0 : Int))) =
              Ent.mk (Loc.sl ao cap) (SObj.vecL (140 : TypeId) 2 encItS xs (ByteArray.empty, (0 : Int))) ∧
              True) ∧
             (b_1 = b_1 ∧ true = true ∧ 2 = 2 ∧ 2 ≤ 2) ∧
              (Ent.mk (Loc.blk b) (SObj.cells (SV.vec 1 ao (List.length xs) cap :: SV.func (Fn.func (79 : FuncId)) [] [] :: rest) T) =
               Ent.mk (Loc.blk b) (SObj.cells (SV.vec 1 ao (List.length xs) cap :: SV.func (Fn.func (79 : FuncId)) [] [] :: rest) T) ∧
               Ent.mk (Loc.sl ao cap) (SObj.vecL (140 : TypeId) 2 encItS xs (ByteArray.empty, (0 : Int))) =
                Ent.mk (Loc.sl ao cap) (SObj.vecL (140 : TypeId) 2 encItS xs (ByteArray.empty, (0 : Int))) ∧
                True) ∧
               b = b ∧
                b_2 = b_2 ∧
                 b_1 = b_1 ∧
                  true = true ∧
                   (Ent.mk (Loc.blk b) (SObj.cells (SV.vec 1 ao (List.length xs) cap :: SV.func (Fn.func (79 : FuncId)) [] [] :: rest) T) =
                    Ent.mk (Loc.blk b) (SObj.cells (SV.vec 1 ao (List.length xs) cap :: SV.func (Fn.func (79 : FuncId)) [] [] :: rest) T) ∧
                    Ent.mk (Loc.sl ao cap) (SObj.vecL (140 : TypeId) 2 encItS xs (ByteArray.empty, (0 : Int))) =
                     Ent.mk (Loc.sl ao cap) (SObj.vecL (140 : TypeId) 2 encItS xs (ByteArray.empty, (0 : Int))) ∧
                     Ent.mk (Loc.blk b_1)
                      (SObj.cells
                       [SV.str (List.getD xs (Int.toNat j) (ByteArray.empty, (0 : Int))).fst,
                        SV.int IntKind.i64 (List.getD xs (Int.toNat j) (ByteArray.empty, (0 : Int))).2]
                       140) =
                      Ent.mk (Loc.blk b_1)
                       (SObj.cells
                        [SV.str (List.getD xs (Int.toNat j) (ByteArray.empty, (0 : Int))).fst,
                         SV.int IntKind.i64 (List.getD xs (Int.toNat j) (ByteArray.empty, (0 : Int))).2]
                        140) ∧
                      Ent.mk (Loc.blk b_2)
                       (SObj.cells
                        [SV.str (List.getD xs (Int.toNat i) (ByteArray.empty, (0 : Int))).fst,
                         SV.int IntKind.i64 (List.getD xs (Int.toNat i) (ByteArray.empty, (0 : Int))).2]
                        140) =
                       Ent.mk (Loc.blk b_2)
                        (SObj.cells
                         [SV.str (List.getD xs (Int.toNat i) (ByteArray.empty, (0 : Int))).fst,
                          SV.int IntKind.i64 (List.getD xs (Int.toNat i) (ByteArray.empty, (0 : Int))).2]
                         140) ∧
                       True) ∧
                    match sLt (List.getD xs (Int.toNat i) (ByteArray.empty, (0 : Int))).fst (List.getD xs (Int.toNat j) (ByteArray.empty, (0 : Int))).fst with
                    | true =>
                     (Ent.mk (Loc.blk b) (SObj.cells (SV.vec 1 ao (List.length xs) cap :: SV.func (Fn.func (79 : FuncId)) [] [] :: rest) T) =
                      Ent.mk (Loc.blk b) (SObj.cells (SV.vec 1 ao (List.length xs) cap :: SV.func (Fn.func (79 : FuncId)) [] [] :: rest) T) ∧
                      Ent.mk (Loc.sl ao cap) (SObj.vecL (140 : TypeId) 2 encItS xs (ByteArray.empty, (0 : Int))) =
                       Ent.mk (Loc.sl ao cap) (SObj.vecL (140 : TypeId) 2 encItS xs (ByteArray.empty, (0 : Int))) ∧
                       Ent.mk (Loc.blk b_1)
                        (SObj.cells
                         [SV.str (List.getD xs (Int.toNat j) (ByteArray.empty, (0 : Int))).fst,
                          SV.int IntKind.i64 (List.getD xs (Int.toNat j) (ByteArray.empty, (0 : Int))).2]
                         140) =
                        Ent.mk (Loc.blk b_1)
                         (SObj.cells
                          [SV.str (List.getD xs (Int.toNat j) (ByteArray.empty, (0 : Int))).fst,
                           SV.int IntKind.i64 (List.getD xs (Int.toNat j) (ByteArray.empty, (0 : Int))).2]
                          140) ∧
                        Ent.mk (Loc.blk b_2)
                         (SObj.cells
                          [SV.str (List.getD xs (Int.toNat i) (ByteArray.empty, (0 : Int))).fst,
                           SV.int IntKind.i64 (List.getD xs (Int.toNat i) (ByteArray.empty, (0 : Int))).2]
                          140) =
                         Ent.mk (Loc.blk b_2)
                          (SObj.cells
                           [SV.str (List.getD xs (Int.toNat i) (ByteArray.empty, (0 : Int))).fst,
                            SV.int IntKind.i64 (List.getD xs (Int.toNat i) (ByteArray.empty, (0 : Int))).2]
                           140) ∧
                         True) ∧
                      true = true ∧
                       true = true ∧
                        true = true ∧
                         true = true ∧
                          true = true ∧
                           N
                            [Ent.mk (Loc.blk b) (SObj.cells (SV.vec 1 ao (List.length xs) cap :: SV.func (Fn.func (79 : FuncId)) [] [] :: rest) T),
                             Ent.mk (Loc.sl ao cap) (SObj.vecL (140 : TypeId) 2 encItS xs (ByteArray.empty, (0 : Int))),
                             Ent.mk (Loc.blk b_1)
                              (SObj.cells
                               [SV.str (List.getD xs (Int.toNat j) (ByteArray.empty, (0 : Int))).fst,
                                SV.int IntKind.i64 (List.getD xs (Int.toNat j) (ByteArray.empty, (0 : Int))).2]
                               140),
                             Ent.mk (Loc.blk b_2)
                              (SObj.cells
                               [SV.str (List.getD xs (Int.toNat i) (ByteArray.empty, (0 : Int))).fst,
                                SV.int IntKind.i64 (List.getD xs (Int.toNat i) (ByteArray.empty, (0 : Int))).2]
                               140)]
                            (SV.bool true)
                    | false =>
                     b = b ∧
                      b_1 = b_1 ∧
                       b_2 = b_2 ∧
                        true = true ∧
                         (Ent.mk (Loc.blk b) (SObj.cells (SV.vec 1 ao (List.length xs) cap :: SV.func (Fn.func (79 : FuncId)) [] [] :: rest) T) =
                          Ent.mk (Loc.blk b) (SObj.cells (SV.vec 1 ao (List.length xs) cap :: SV.func (Fn.func (79 : FuncId)) [] [] :: rest) T) ∧
                          Ent.mk (Loc.sl ao cap) (SObj.vecL (140 : TypeId) 2 encItS xs (ByteArray.empty, (0 : Int))) =
                           Ent.mk (Loc.sl ao cap) (SObj.vecL (140 : TypeId) 2 encItS xs (ByteArray.empty, (0 : Int))) ∧
                           Ent.mk (Loc.blk b_1)
                            (SObj.cells
                             [SV.str (List.getD xs (Int.toNat j) (ByteArray.empty, (0 : Int))).fst,
                              SV.int IntKind.i64 (List.getD xs (Int.toNat j) (ByteArray.empty, (0 : Int))).2]
                             140) =
                            Ent.mk (Loc.blk b_1)
                             (SObj.cells
                              [SV.str (List.getD xs (Int.toNat j) (ByteArray.empty, (0 : Int))).fst,
                               SV.int IntKind.i64 (List.getD xs (Int.toNat j) (ByteArray.empty, (0 : Int))).2]
                              140) ∧
                            Ent.mk (Loc.blk b_2)
                             (SObj.cells
                              [SV.str (List.getD xs (Int.toNat i) (ByteArray.empty, (0 : Int))).fst,
                               SV.int IntKind.i64 (List.getD xs (Int.toNat i) (ByteArray.empty, (0 : Int))).2]
                              140) =
                             Ent.mk (Loc.blk b_2)
                              (SObj.cells
                               [SV.str (List.getD xs (Int.toNat i) (ByteArray.empty, (0 : Int))).fst,
                                SV.int IntKind.i64 (List.getD xs (Int.toNat i) (ByteArray.empty, (0 : Int))).2]
                               140) ∧
                             True) ∧
                          match !sLt (List.getD xs (Int.toNat j) (ByteArray.empty, (0 : Int))).fst (List.getD xs (Int.toNat i) (ByteArray.empty, (0 : Int))).fst with
                          | true =>
                           b_2 = b_2 ∧
                            b_1 = b_1 ∧
                             N
                              [Ent.mk (Loc.blk b) (SObj.cells (SV.vec 1 ao (List.length xs) cap :: SV.func (Fn.func (79 : FuncId)) [] [] :: rest) T),
                               Ent.mk (Loc.sl ao cap) (SObj.vecL (140 : TypeId) 2 encItS xs (ByteArray.empty, (0 : Int))),
                               Ent.mk (Loc.blk b_1)
                                (SObj.cells
                                 [SV.str (List.getD xs (Int.toNat j) (ByteArray.empty, (0 : Int))).fst,
                                  SV.int IntKind.i64 (List.getD xs (Int.toNat j) (ByteArray.empty, (0 : Int))).2]
                                 140),
                               Ent.mk (Loc.blk b_2)
                                (SObj.cells
                                 [SV.str (List.getD xs (Int.toNat i) (ByteArray.empty, (0 : Int))).fst,
                                  SV.int IntKind.i64 (List.getD xs (Int.toNat i) (ByteArray.empty, (0 : Int))).2]
                                 140)]
                              (SV.bool
                               (decide ((List.getD xs (Int.toNat i) (ByteArray.empty, (0 : Int))).2 < (List.getD xs (Int.toNat j) (ByteArray.empty, (0 : Int))).2)))
                          | false =>
                           N
                            [Ent.mk (Loc.blk b) (SObj.cells (SV.vec 1 ao (List.length xs) cap :: SV.func (Fn.func (79 : FuncId)) [] [] :: rest) T),
                             Ent.mk (Loc.sl ao cap) (SObj.vecL (140 : TypeId) 2 encItS xs (ByteArray.empty, (0 : Int))),
                             Ent.mk (Loc.blk b_1)
                              (SObj.cells
                               [SV.str (List.getD xs (Int.toNat j) (ByteArray.empty, (0 : Int))).fst,
                                SV.int IntKind.i64 (List.getD xs (Int.toNat j) (ByteArray.empty, (0 : Int))).2]
                               140),
                             Ent.mk (Loc.blk b_2)
                              (SObj.cells
                               [SV.str (List.getD xs (Int.toNat i) (ByteArray.empty, (0 : Int))).fst,
                                SV.int IntKind.i64 (List.getD xs (Int.toNat i) (ByteArray.empty, (0 : Int))).2]
                               140)]
                            (SV.bool false)) := by kernel_rfl


theorem qSless1 (K : List Frm → Sy → Prop) (N : List Ent → SV → Prop) (b cap : Nat) (ao : Option Addr) (rest : List SV) (T : TypeId) (xs : List (ByteArray × Int)) (f : FuncId) (i j : Int) : (run Try.prog [(36, inl Try.prog [] true Try.f36 100)] true [] K (retP Try.prog Try.f130.results.toList N) 900 [.code (bodyOf Try.f130)] ⟨padTo 51 [.ptr 0 b 0, .int .i64 i, .int .i64 j], qhG 140 2 encItS (ByteArray.empty, (0 : Int)) b ao cap 36 rest T xs⟩) = (
b = b ∧
 (ao = ao ∧ cap = cap ∧ List.length xs = List.length xs ∧ (0 : Int) ≤ i ∧ i < (↑(List.length xs) : Int)) ∧
  (Addr.blkD ao = Addr.blkD ao ∧ Addr.offD ao = Addr.offD ao ∧ 2 = 2 ∧ Int.toNat i < List.length xs ∧ 2 = 2) ∧
   b = b ∧
    (ao = ao ∧ cap = cap ∧ List.length xs = List.length xs ∧ (0 : Int) ≤ j ∧ j < (↑(List.length xs) : Int)) ∧
     (Addr.blkD ao = Addr.blkD ao ∧ Addr.offD ao = Addr.offD ao ∧ 2 = 2 ∧ Int.toNat j < List.length xs ∧ 2 = 2) ∧
      (∀ (b_1 : Nat),
       (Ent.mk (Loc.blk b) (SObj.cells (SV.vec 1 ao (List.length xs) cap :: SV.func (Fn.func (36 : FuncId)) [] [] :: rest) T) =
        Ent.mk (Loc.blk b) (SObj.cells (SV.vec 1 ao (List.length xs) cap :: SV.func (Fn.func (36 : FuncId)) [] [] :: rest) T) ∧
        Ent.mk (Loc.sl ao cap) (SObj.vecL (140 : TypeId) 2 encItS xs (ByteArray.empty, (0 : Int))) =
         Ent.mk (Loc.sl ao cap) (SObj.vecL (140 : TypeId) 2 encItS xs (ByteArray.empty, (0 : Int))) ∧
         True) ∧
        ∀ (b_2 : Nat),
         (Ent.mk (Loc.blk b) (SObj.cells (SV.vec 1 ao (List.length xs) cap :: SV.func (Fn.func (36 : FuncId)) [] [] :: rest) T) =
          Ent.mk (Loc.blk b) (SObj.cells (SV.vec 1 ao (List.length xs) cap :: SV.func (Fn.func (36 : FuncId)) [] [] :: rest) T) ∧
          Ent.mk (Loc.sl ao cap) (SObj.vecL (140 : TypeId) 2 encItS xs (ByteArray.empty, (0 : Int))) =
           Ent.mk (Loc.sl ao cap) (SObj.vecL (140 : TypeId) 2 encItS xs (ByteArray.empty, (0 : Int))) ∧
           True) ∧
          (b_1 = b_1 ∧ true = true ∧ 2 = 2 ∧ 2 ≤ 2) ∧
           (Ent.mk (Loc.blk b) (SObj.cells (SV.vec 1 ao (List.length xs) cap :: SV.func (Fn.func (36 : FuncId)) [] [] :: rest) T) =
            Ent.mk (Loc.blk b) (SObj.cells (SV.vec 1 ao (List.length xs) cap :: SV.func (Fn.func (36 : FuncId)) [] [] :: rest) T) ∧
            Ent.mk (Loc.sl ao cap) (SObj.vecL (140 : TypeId) 2 encItS xs (ByteArray.empty, (0 : Int))) =
             Ent.mk (Loc.sl ao cap) (SObj.vecL (140 : TypeId) 2 encItS xs (ByteArray.empty, (0 : Int))) ∧
             True) ∧
            (b_2 = b_2 ∧ true = true ∧ 2 = 2 ∧ 2 ≤ 2) ∧
             (Ent.mk (Loc.blk b) (SObj.cells (SV.vec 1 ao (List.length xs) cap :: SV.func (Fn.func (36 : FuncId)) [] [] :: rest) T) =
              Ent.mk (Loc.blk b) (SObj.cells (SV.vec 1 ao (List.length xs) cap :: SV.func (Fn.func (36 : FuncId)) [] [] :: rest) T) ∧
              Ent.mk (Loc.sl ao cap) (SObj.vecL (140 : TypeId) 2 encItS xs (ByteArray.empty, (0 : Int))) =
               Ent.mk (Loc.sl ao cap) (SObj.vecL (140 : TypeId) 2 encItS xs (ByteArray.empty, (0 : Int))) ∧
               True) ∧
              b = b ∧
               b_1 = b_1 ∧
                b_2 = b_2 ∧
                 true = true ∧
                  (Ent.mk (Loc.blk b) (SObj.cells (SV.vec 1 ao (List.length xs) cap :: SV.func (Fn.func (36 : FuncId)) [] [] :: rest) T) =
                   Ent.mk (Loc.blk b) (SObj.cells (SV.vec 1 ao (List.length xs) cap :: SV.func (Fn.func (36 : FuncId)) [] [] :: rest) T) ∧
                   Ent.mk (Loc.sl ao cap) (SObj.vecL (140 : TypeId) 2 encItS xs (ByteArray.empty, (0 : Int))) =
                    Ent.mk (Loc.sl ao cap) (SObj.vecL (140 : TypeId) 2 encItS xs (ByteArray.empty, (0 : Int))) ∧
                    Ent.mk (Loc.blk b_1)
                     (SObj.cells
                      [SV.str (List.getD xs (Int.toNat i) (ByteArray.empty, (0 : Int))).fst,
                       SV.int IntKind.i64 (List.getD xs (Int.toNat i) (ByteArray.empty, (0 : Int))).2]
                      140) =
                     Ent.mk (Loc.blk b_1)
                      (SObj.cells
                       [SV.str (List.getD xs (Int.toNat i) (ByteArray.empty, (0 : Int))).fst,
                        SV.int IntKind.i64 (List.getD xs (Int.toNat i) (ByteArray.empty, (0 : Int))).2]
                       140) ∧
                     Ent.mk (Loc.blk b_2)
                      (SObj.cells
                       [SV.str (List.getD xs (Int.toNat j) (ByteArray.empty, (0 : Int))).fst,
                        SV.int IntKind.i64 (List.getD xs (Int.toNat j) (ByteArray.empty, (0 : Int))).2]
                       140) =
                      Ent.mk (Loc.blk b_2)
                       (SObj.cells
                        [SV.str (List.getD xs (Int.toNat j) (ByteArray.empty, (0 : Int))).fst,
                         SV.int IntKind.i64 (List.getD xs (Int.toNat j) (ByteArray.empty, (0 : Int))).2]
                        140) ∧
                      True) ∧
                   match
                    decide
                     ((↑(ByteArray.size (List.getD xs (Int.toNat i) (ByteArray.empty, (0 : Int))).fst) : Int) <
                      (↑(ByteArray.size (List.getD xs (Int.toNat j) (ByteArray.empty, (0 : Int))).fst) : Int)) with
                   | true =>
                    (Ent.mk (Loc.blk b) (SObj.cells (SV.vec 1 ao (List.length xs) cap :: SV.func (Fn.func (36 : FuncId)) [] [] :: rest) T) =
                     Ent.mk (Loc.blk b) (SObj.cells (SV.vec 1 ao (List.length xs) cap :: SV.func (Fn.func (36 : FuncId)) [] [] :: rest) T) ∧
                     Ent.mk (Loc.sl ao cap) (SObj.vecL (140 : TypeId) 2 encItS xs (ByteArray.empty, (0 : Int))) =
                      Ent.mk (Loc.sl ao cap) (SObj.vecL (140 : TypeId) 2 encItS xs (ByteArray.empty, (0 : Int))) ∧
                      Ent.mk (Loc.blk b_1)
                       (SObj.cells
                        [SV.str (List.getD xs (Int.toNat i) (ByteArray.empty, (0 : Int))).fst,
                         SV.int IntKind.i64 (List.getD xs (Int.toNat i) (ByteArray.empty, (0 : Int))).2]
                        140) =
                       Ent.mk (Loc.blk b_1)
                        (SObj.cells
                         [SV.str (List.getD xs (Int.toNat i) (ByteArray.empty, (0 : Int))).fst,
                          SV.int IntKind.i64 (List.getD xs (Int.toNat i) (ByteArray.empty, (0 : Int))).2]
                         140) ∧
                       Ent.mk (Loc.blk b_2)
                        (SObj.cells
                         [SV.str (List.getD xs (Int.toNat j) (ByteArray.empty, (0 : Int))).fst,
                          SV.int IntKind.i64 (List.getD xs (Int.toNat j) (ByteArray.empty, (0 : Int))).2]
                         140) =
                        Ent.mk (Loc.blk b_2)
                         (SObj.cells
                          [SV.str (List.getD xs (Int.toNat j) (ByteArray.empty, (0 : Int))).fst,
                           SV.int IntKind.i64 (List.getD xs (Int.toNat j) (ByteArray.empty, (0 : Int))).2]
                          140) ∧
                        True) ∧
                     true = true ∧
                      true = true ∧
                       true = true ∧
                        true = true ∧
                         true = true ∧
                          N
                           [Ent.mk (Loc.blk b) (SObj.cells (SV.vec 1 ao (List.length xs) cap :: SV.func (Fn.func (36 : FuncId)) [] [] :: rest) T),
                            Ent.mk (Loc.sl ao cap) (SObj.vecL (140 : TypeId) 2 encItS xs (ByteArray.empty, (0 : Int))),
                            Ent.mk (Loc.blk b_1)
                             (SObj.cells
                              [SV.str (List.getD xs (Int.toNat i) (ByteArray.empty, (0 : Int))).fst,
                               SV.int IntKind.i64 (List.getD xs (Int.toNat i) (ByteArray.empty, (0 : Int))).2]
                              140),
                            Ent.mk (Loc.blk b_2)
                             (SObj.cells
                              [SV.str (List.getD xs (Int.toNat j) (ByteArray.empty, (0 : Int))).fst,
                               SV.int IntKind.i64 (List.getD xs (Int.toNat j) (ByteArray.empty, (0 : Int))).2]
                              140)]
                           (SV.bool true)
                   | false =>
                    b = b ∧
                     b_2 = b_2 ∧
                      b_1 = b_1 ∧
                       true = true ∧
                        (Ent.mk (Loc.blk b) (SObj.cells (SV.vec 1 ao (List.length xs) cap :: SV.func (Fn.func (36 : FuncId)) [] [] :: rest) T) =
                         Ent.mk (Loc.blk b) (SObj.cells (SV.vec 1 ao (List.length xs) cap :: SV.func (Fn.func (36 : FuncId)) [] [] :: rest) T) ∧
                         Ent.mk (Loc.sl ao cap) (SObj.vecL (140 : TypeId) 2 encItS xs (ByteArray.empty, (0 : Int))) =
                          Ent.mk (Loc.sl ao cap) (SObj.vecL (140 : TypeId) 2 encItS xs (ByteArray.empty, (0 : Int))) ∧
                          Ent.mk (Loc.blk b_1)
                           (SObj.cells
                            [SV.str (List.getD xs (Int.toNat i) (ByteArray.empty, (0 : Int))).fst,
                             SV.int IntKind.i64 (List.getD xs (Int.toNat i) (ByteArray.empty, (0 : Int))).2]
                            140) =
                           Ent.mk (Loc.blk b_1)
                            (SObj.cells
                             [SV.str (List.getD xs (Int.toNat i) (ByteArray.empty, (0 : Int))).fst,
                              SV.int IntKind.i64 (List.getD xs (Int.toNat i) (ByteArray.empty, (0 : Int))).2]
                             140) ∧
                           Ent.mk (Loc.blk b_2)
                            (SObj.cells
                             [SV.str (List.getD xs (Int.toNat j) (ByteArray.empty, (0 : Int))).fst,
                              SV.int IntKind.i64 (List.getD xs (Int.toNat j) (ByteArray.empty, (0 : Int))).2]
                             140) =
                            Ent.mk (Loc.blk b_2)
                             (SObj.cells
                              [SV.str (List.getD xs (Int.toNat j) (ByteArray.empty, (0 : Int))).fst,
                               SV.int IntKind.i64 (List.getD xs (Int.toNat j) (ByteArray.empty, (0 : Int))).2]
                              140) ∧
                            True) ∧
                         match
                          !decide
                           ((↑(ByteArray.size (List.getD xs (Int.toNat j) (ByteArray.empty, (0 : Int))).fst) : Int) <
                            (↑(ByteArray.size (List.getD xs (Int.toNat i) (ByteArray.empty, (0 : Int))).fst) : Int)) with
                         | true =>
                          b_1 = b_1 ∧
                           b_2 = b_2 ∧
                            N
                             [Ent.mk (Loc.blk b) (SObj.cells (SV.vec 1 ao (List.length xs) cap :: SV.func (Fn.func (36 : FuncId)) [] [] :: rest) T),
                              Ent.mk (Loc.sl ao cap) (SObj.vecL (140 : TypeId) 2 encItS xs (ByteArray.empty, (0 : Int))),
                              Ent.mk (Loc.blk b_1)
                               (SObj.cells
                                [SV.str (List.getD xs (Int.toNat i) (ByteArray.empty, (0 : Int))).fst,
                                 SV.int IntKind.i64 (List.getD xs (Int.toNat i) (ByteArray.empty, (0 : Int))).2]
                                140),
                              Ent.mk (Loc.blk b_2)
                               (SObj.cells
                                [SV.str (List.getD xs (Int.toNat j) (ByteArray.empty, (0 : Int))).fst,
                                 SV.int IntKind.i64 (List.getD xs (Int.toNat j) (ByteArray.empty, (0 : Int))).2]
                                140)]
                             (SV.bool
                              (decide ((List.getD xs (Int.toNat i) (ByteArray.empty, (0 : Int))).2 < (List.getD xs (Int.toNat j) (ByteArray.empty, (0 : Int))).2)))
                         | false =>
                          N
                           [Ent.mk (Loc.blk b) (SObj.cells (SV.vec 1 ao (List.length xs) cap :: SV.func (Fn.func (36 : FuncId)) [] [] :: rest) T),
                            Ent.mk (Loc.sl ao cap) (SObj.vecL (140 : TypeId) 2 encItS xs (ByteArray.empty, (0 : Int))),
                            Ent.mk (Loc.blk b_1)
                             (SObj.cells
                              [SV.str (List.getD xs (Int.toNat i) (ByteArray.empty, (0 : Int))).fst,
                               SV.int IntKind.i64 (List.getD xs (Int.toNat i) (ByteArray.empty, (0 : Int))).2]
                              140),
                            Ent.mk (Loc.blk b_2)
                             (SObj.cells
                              [SV.str (List.getD xs (Int.toNat j) (ByteArray.empty, (0 : Int))).fst,
                               SV.int IntKind.i64 (List.getD xs (Int.toNat j) (ByteArray.empty, (0 : Int))).2]
                              140)]
                           (SV.bool false)) ∧
       ∀ (b_1 : Nat),
        (Ent.mk (Loc.blk b) (SObj.cells (SV.vec 1 ao (List.length xs) cap :: SV.func (Fn.func (36 : FuncId)) [] [] :: rest) T) =
         Ent.mk (Loc.blk b) (SObj.cells (SV.vec 1 ao (List.length xs) cap :: SV.func (Fn.func (36 : FuncId)) [] [] :: rest) T) ∧
         Ent.mk (Loc.sl ao cap) (SObj.vecL (140 : TypeId) 2 encItS xs (ByteArray.empty, (0 : Int))) =
          Ent.mk (Loc.sl ao cap) (SObj.vecL (140 : TypeId) 2 encItS xs (ByteArray.empty, (0 : Int))) ∧
          True) ∧
         ∀ (b_2 : Nat),
          (Ent.mk (Loc.blk b) (SObj.cells (SV.vec 1 ao (List.length xs) cap :: SV.func (Fn.func (36 : FuncId)) [] [] :: rest) T) =
           Ent.mk (Loc.blk b) (SObj.cells (SV.vec 1 ao (List.length xs) cap :: SV.func (Fn.func (36 : FuncId)) [] [] :: rest) T) ∧
           Ent.mk (Loc.sl ao cap) (SObj.vecL (140 : TypeId) 2 encItS xs (ByteArray.empty, (0 : Int))) =
            Ent.mk (Loc.sl ao cap) (SObj.vecL (140 : TypeId) 2 encItS xs (ByteArray.empty, (0 : Int))) ∧
            True) ∧
           (b_2 = b_2 ∧ true = true ∧ 2 = 2 ∧ 2 ≤ 2) ∧
            (Ent.mk (Loc.blk b) (SObj.cells (SV.vec 1 ao (List.length xs) cap :: SV.func (Fn.func (36 : FuncId)) [] [] :: rest) T) =
             Ent.mk (Loc.blk b) (SObj.cells (SV.vec 1 ao (List.length xs) cap :: SV.func (Fn.func (36 : FuncId)) [] [] :: rest) T) ∧
             Ent.mk (Loc.sl ao cap) (SObj.vecL (140 : TypeId) 2 encItS xs (ByteArray.empty, (0 : Int))) =
              Ent.mk (Loc.sl ao cap) (SObj.vecL (140 : TypeId) 2 encItS xs (ByteArray.empty, (0 : Int))) ∧
              True) ∧
             (b_1 = b_1 ∧ true = true ∧ 2 = 2 ∧ 2 ≤ 2) ∧
              (Ent.mk (Loc.blk b) (SObj.cells (SV.vec 1 ao (List.length xs) cap :: SV.func (Fn.func (36 : FuncId)) [] [] :: rest) T) =
               Ent.mk (Loc.blk b) (SObj.cells (SV.vec 1 ao (List.length xs) cap :: SV.func (Fn.func (36 : FuncId)) [] [] :: rest) T) ∧
               Ent.mk (Loc.sl ao cap) (SObj.vecL (140 : TypeId) 2 encItS xs (ByteArray.empty, (0 : Int))) =
                Ent.mk (Loc.sl ao cap) (SObj.vecL (140 : TypeId) 2 encItS xs (ByteArray.empty, (0 : Int))) ∧
                True) ∧
               b = b ∧
                b_2 = b_2 ∧
                 b_1 = b_1 ∧
                  true = true ∧
                   (Ent.mk (Loc.blk b) (SObj.cells (SV.vec 1 ao (List.length xs) cap :: SV.func (Fn.func (36 : FuncId)) [] [] :: rest) T) =
                    Ent.mk (Loc.blk b) (SObj.cells (SV.vec 1 ao (List.length xs) cap :: SV.func (Fn.func (36 : FuncId)) [] [] :: rest) T) ∧
                    Ent.mk (Loc.sl ao cap) (SObj.vecL (140 : TypeId) 2 encItS xs (ByteArray.empty, (0 : Int))) =
                     Ent.mk (Loc.sl ao cap) (SObj.vecL (140 : TypeId) 2 encItS xs (ByteArray.empty, (0 : Int))) ∧
                     Ent.mk (Loc.blk b_1)
                      (SObj.cells
                       [SV.str (List.getD xs (Int.toNat j) (ByteArray.empty, (0 : Int))).fst,
                        SV.int IntKind.i64 (List.getD xs (Int.toNat j) (ByteArray.empty, (0 : Int))).2]
                       140) =
                      Ent.mk (Loc.blk b_1)
                       (SObj.cells
                        [SV.str (List.getD xs (Int.toNat j) (ByteArray.empty, (0 : Int))).fst,
                         SV.int IntKind.i64 (List.getD xs (Int.toNat j) (ByteArray.empty, (0 : Int))).2]
                        140) ∧
                      Ent.mk (Loc.blk b_2)
                       (SObj.cells
                        [SV.str (List.getD xs (Int.toNat i) (ByteArray.empty, (0 : Int))).fst,
                         SV.int IntKind.i64 (List.getD xs (Int.toNat i) (ByteArray.empty, (0 : Int))).2]
                        140) =
                       Ent.mk (Loc.blk b_2)
                        (SObj.cells
                         [SV.str (List.getD xs (Int.toNat i) (ByteArray.empty, (0 : Int))).fst,
                          SV.int IntKind.i64 (List.getD xs (Int.toNat i) (ByteArray.empty, (0 : Int))).2]
                         140) ∧
                       True) ∧
                    match
                     decide
                      ((↑(ByteArray.size (List.getD xs (Int.toNat i) (ByteArray.empty, (0 : Int))).fst) : Int) <
                       (↑(ByteArray.size (List.getD xs (Int.toNat j) (ByteArray.empty, (0 : Int))).fst) : Int)) with
                    | true =>
                     (Ent.mk (Loc.blk b) (SObj.cells (SV.vec 1 ao (List.length xs) cap :: SV.func (Fn.func (36 : FuncId)) [] [] :: rest) T) =
                      Ent.mk (Loc.blk b) (SObj.cells (SV.vec 1 ao (List.length xs) cap :: SV.func (Fn.func (36 : FuncId)) [] [] :: rest) T) ∧
                      Ent.mk (Loc.sl ao cap) (SObj.vecL (140 : TypeId) 2 encItS xs (ByteArray.empty, (0 : Int))) =
                       Ent.mk (Loc.sl ao cap) (SObj.vecL (140 : TypeId) 2 encItS xs (ByteArray.empty, (0 : Int))) ∧
                       Ent.mk (Loc.blk b_1)
                        (SObj.cells
                         [SV.str (List.getD xs (Int.toNat j) (ByteArray.empty, (0 : Int))).fst,
                          SV.int IntKind.i64 (List.getD xs (Int.toNat j) (ByteArray.empty, (0 : Int))).2]
                         140) =
                        Ent.mk (Loc.blk b_1)
                         (SObj.cells
                          [SV.str (List.getD xs (Int.toNat j) (ByteArray.empty, (0 : Int))).fst,
                           SV.int IntKind.i64 (List.getD xs (Int.toNat j) (ByteArray.empty, (0 : Int))).2]
                          140) ∧
                        Ent.mk (Loc.blk b_2)
                         (SObj.cells
                          [SV.str (List.getD xs (Int.toNat i) (ByteArray.empty, (0 : Int))).fst,
                           SV.int IntKind.i64 (List.getD xs (Int.toNat i) (ByteArray.empty, (0 : Int))).2]
                          140) =
                         Ent.mk (Loc.blk b_2)
                          (SObj.cells
                           [SV.str (List.getD xs (Int.toNat i) (ByteArray.empty, (0 : Int))).fst,
                            SV.int IntKind.i64 (List.getD xs (Int.toNat i) (ByteArray.empty, (0 : Int))).2]
                           140) ∧
                         True) ∧
                      true = true ∧
                       true = true ∧
                        true = true ∧
                         true = true ∧
                          true = true ∧
                           N
                            [Ent.mk (Loc.blk b) (SObj.cells (SV.vec 1 ao (List.length xs) cap :: SV.func (Fn.func (36 : FuncId)) [] [] :: rest) T),
                             Ent.mk (Loc.sl ao cap) (SObj.vecL (140 : TypeId) 2 encItS xs (ByteArray.empty, (0 : Int))),
                             Ent.mk (Loc.blk b_1)
                              (SObj.cells
                               [SV.str (List.getD xs (Int.toNat j) (ByteArray.empty, (0 : Int))).fst,
                                SV.int IntKind.i64 (List.getD xs (Int.toNat j) (ByteArray.empty, (0 : Int))).2]
                               140),
                             Ent.mk (Loc.blk b_2)
                              (SObj.cells
                               [SV.str (List.getD xs (Int.toNat i) (ByteArray.empty, (0 : Int))).fst,
                                SV.int IntKind.i64 (List.getD xs (Int.toNat i) (ByteArray.empty, (0 : Int))).2]
                               140)]
                            (SV.bool true)
                    | false =>
                     b = b ∧
                      b_1 = b_1 ∧
                       b_2 = b_2 ∧
                        true = true ∧
                         (Ent.mk (Loc.blk b) (SObj.cells (SV.vec 1 ao (List.length xs) cap :: SV.func (Fn.func (36 : FuncId)) [] [] :: rest) T) =
                          Ent.mk (Loc.blk b) (SObj.cells (SV.vec 1 ao (List.length xs) cap :: SV.func (Fn.func (36 : FuncId)) [] [] :: rest) T) ∧
                          Ent.mk (Loc.sl ao cap) (SObj.vecL (140 : TypeId) 2 encItS xs (ByteArray.empty, (0 : Int))) =
                           Ent.mk (Loc.sl ao cap) (SObj.vecL (140 : TypeId) 2 encItS xs (ByteArray.empty, (0 : Int))) ∧
                           Ent.mk (Loc.blk b_1)
                            (SObj.cells
                             [SV.str (List.getD xs (Int.toNat j) (ByteArray.empty, (0 : Int))).fst,
                              SV.int IntKind.i64 (List.getD xs (Int.toNat j) (ByteArray.empty, (0 : Int))).2]
                             140) =
                            Ent.mk (Loc.blk b_1)
                             (SObj.cells
                              [SV.str (List.getD xs (Int.toNat j) (ByteArray.empty, (0 : Int))).fst,
                               SV.int IntKind.i64 (List.getD xs (Int.toNat j) (ByteArray.empty, (0 : Int))).2]
                              140) ∧
                            Ent.mk (Loc.blk b_2)
                             (SObj.cells
                              [SV.str (List.getD xs (Int.toNat i) (ByteArray.empty, (0 : Int))).fst,
                               SV.int IntKind.i64 (List.getD xs (Int.toNat i) (ByteArray.empty, (0 : Int))).2]
                              140) =
                             Ent.mk (Loc.blk b_2)
                              (SObj.cells
                               [SV.str (List.getD xs (Int.toNat i) (ByteArray.empty, (0 : Int))).fst,
                                SV.int IntKind.i64 (List.getD xs (Int.toNat i) (ByteArray.empty, (0 : Int))).2]
                               140) ∧
                             True) ∧
                          match
                           !decide
                            ((↑(ByteArray.size (List.getD xs (Int.toNat j) (ByteArray.empty, (0 : Int))).fst) : Int) <
                             (↑(ByteArray.size (List.getD xs (Int.toNat i) (ByteArray.empty, (0 : Int))).fst) : Int)) with
                          | true =>
                           b_2 = b_2 ∧
                            b_1 = b_1 ∧
                             N
                              [Ent.mk (Loc.blk b) (SObj.cells (SV.vec 1 ao (List.length xs) cap :: SV.func (Fn.func (36 : FuncId)) [] [] :: rest) T),
                               Ent.mk (Loc.sl ao cap) (SObj.vecL (140 : TypeId) 2 encItS xs (ByteArray.empty, (0 : Int))),
                               Ent.mk (Loc.blk b_1)
                                (SObj.cells
                                 [SV.str (List.getD xs (Int.toNat j) (ByteArray.empty, (0 : Int))).fst,
                                  SV.int IntKind.i64 (List.getD xs (Int.toNat j) (ByteArray.empty, (0 : Int))).2]
                                 140),
                               Ent.mk (Loc.blk b_2)
                                (SObj.cells
                                 [SV.str (List.getD xs (Int.toNat i) (ByteArray.empty, (0 : Int))).fst,
                                  SV.int IntKind.i64 (List.getD xs (Int.toNat i) (ByteArray.empty, (0 : Int))).2]
                                 140)]
                              (SV.bool
                               (decide ((List.getD xs (Int.toNat i) (ByteArray.empty, (0 : Int))).2 < (List.getD xs (Int.toNat j) (ByteArray.empty, (0 : Int))).2)))
                          | false =>
                           N
                            [Ent.mk (Loc.blk b) (SObj.cells (SV.vec 1 ao (List.length xs) cap :: SV.func (Fn.func (36 : FuncId)) [] [] :: rest) T),
                             Ent.mk (Loc.sl ao cap) (SObj.vecL (140 : TypeId) 2 encItS xs (ByteArray.empty, (0 : Int))),
                             Ent.mk (Loc.blk b_1)
                              (SObj.cells
                               [SV.str (List.getD xs (Int.toNat j) (ByteArray.empty, (0 : Int))).fst,
                                SV.int IntKind.i64 (List.getD xs (Int.toNat j) (ByteArray.empty, (0 : Int))).2]
                               140),
                             Ent.mk (Loc.blk b_2)
                              (SObj.cells
                               [SV.str (List.getD xs (Int.toNat i) (ByteArray.empty, (0 : Int))).fst,
                                SV.int IntKind.i64 (List.getD xs (Int.toNat i) (ByteArray.empty, (0 : Int))).2]
                               140)]
                            (SV.bool false)) := by kernel_rfl


theorem qSswap (K : List Frm → Sy → Prop) (N : List Ent → SV → Prop) (b cap : Nat) (ao : Option Addr) (rest : List SV) (T : TypeId) (xs : List (ByteArray × Int)) (f : FuncId) (i j : Int) : (run Try.prog [] false [] K (retP Try.prog Try.f133.results.toList N) 900 [.code (bodyOf Try.f133)] ⟨padTo 32 [.ptr 0 b 0, .int .i64 i, .int .i64 j], qhG 140 2 encItS (ByteArray.empty, (0 : Int)) b ao cap f rest T xs⟩) = (
b = b ∧
 b = b ∧
  b = b ∧
   (ao = ao ∧ cap = cap ∧ List.length xs = List.length xs ∧ (0 : Int) ≤ j ∧ j < (↑(List.length xs) : Int)) ∧
    (Addr.blkD ao = Addr.blkD ao ∧ Addr.offD ao = Addr.offD ao ∧ 2 = 2 ∧ Int.toNat j < List.length xs ∧ 2 = 2) ∧
     b = b ∧
      (ao = ao ∧ cap = cap ∧ List.length xs = List.length xs ∧ (0 : Int) ≤ i ∧ i < (↑(List.length xs) : Int)) ∧
       (Addr.blkD ao = Addr.blkD ao ∧ Addr.offD ao = Addr.offD ao ∧ 2 = 2 ∧ Int.toNat i < List.length xs ∧ 2 = 2) ∧
        (ao = ao ∧ cap = cap ∧ List.length xs = List.length xs ∧ (0 : Int) ≤ i ∧ i < (↑(List.length xs) : Int)) ∧
         (Addr.blkD ao = Addr.blkD ao ∧ Addr.offD ao = Addr.offD ao ∧ 2 = 2 ∧ Int.toNat i < List.length xs ∧ true = true ∧ 2 = 2 ∧ 2 ≤ 2) ∧
          ∃ (e : ByteArray × Int),
           [SV.str e.fst, SV.int IntKind.i64 e.2] =
            [SV.str (List.getD xs (Int.toNat j) (ByteArray.empty, (0 : Int))).fst, SV.int IntKind.i64 (List.getD xs (Int.toNat j) (ByteArray.empty, (0 : Int))).2] ∧
            (ao = ao ∧ cap = cap ∧ List.length xs = List.length (List.set xs (Int.toNat i) e) ∧ (0 : Int) ≤ j ∧ j < (↑(List.length xs) : Int)) ∧
             (Addr.blkD ao = Addr.blkD ao ∧
              Addr.offD ao = Addr.offD ao ∧
               2 = 2 ∧ Int.toNat j < List.length (List.set xs (Int.toNat i) e) ∧ true = true ∧ 2 = 2 ∧ 2 ≤ 2) ∧
              ∃ (e_1 : ByteArray × Int),
               [SV.str e_1.fst, SV.int IntKind.i64 e_1.2] =
                [SV.str (List.getD xs (Int.toNat i) (ByteArray.empty, (0 : Int))).fst, SV.int IntKind.i64 (List.getD xs (Int.toNat i) (ByteArray.empty, (0 : Int))).2] ∧
                N
                 [Ent.mk (Loc.blk b) (SObj.cells (SV.vec 1 ao (List.length xs) cap :: SV.func (Fn.func f) [] [] :: rest) T),
                  Ent.mk (Loc.sl ao cap) (SObj.vecL (140 : TypeId) 2 encItS (List.set (List.set xs (Int.toNat i) e) (Int.toNat j) e_1) (ByteArray.empty, (0 : Int)))]
                 (SV.tuple [])) := by kernel_rfl


theorem qSppush (K : List Frm → Sy → Prop) (N : List Ent → SV → Prop) (b cap : Nat) (ao : Option Addr) (rest : List SV) (T : TypeId) (xs : List (ByteArray × Int)) (f : FuncId) (v : ByteArray × Int) : (run Try.prog [] false [] K (retP Try.prog Try.f132.results.toList N) 900 [.code (bodyOf Try.f132)] ⟨padTo 15 [.ptr 0 b 0, .iface 140 (.agg (encItS v))], qhG 140 2 encItS (ByteArray.empty, (0 : Int)) b ao cap f rest T xs⟩) = (
b = b ∧
 (true = true ∧ 2 = 2 ∧ 0 < 2 ∧ 2 ≤ 16777216) ∧
  ∀ (b_1 : Nat),
   (Ent.mk (Loc.blk b) (SObj.cells (SV.vec 1 ao (List.length xs) cap :: SV.func (Fn.func f) [] [] :: rest) T) =
    Ent.mk (Loc.blk b) (SObj.cells (SV.vec 1 ao (List.length xs) cap :: SV.func (Fn.func f) [] [] :: rest) T) ∧
    Ent.mk (Loc.sl ao cap) (SObj.vecL (140 : TypeId) 2 encItS xs (ByteArray.empty, (0 : Int))) =
     Ent.mk (Loc.sl ao cap) (SObj.vecL (140 : TypeId) 2 encItS xs (ByteArray.empty, (0 : Int))) ∧
     True) ∧
    (ao = ao ∧
     cap = cap ∧
      List.length xs = List.length xs ∧
       some (Addr.mk b_1 0 (@none Nat)) = some (Addr.mk b_1 0 (@none Nat)) ∧
        (140 : TypeId) = 140 ∧
         2 = 2 ∧
          2 = 2 ∧
           0 < 1 ∧ true = true ∧ (List.length xs + 1) * 24 ≤ 140737488355328 ∧ List.length xs + 1 ≤ 9223372036854775807) ∧
     ∃ (es : List (ByteArray × Int)),
      List.length es = 1 ∧
       List.flatMap encItS es = [SV.str v.fst, SV.int IntKind.i64 v.2] ∧
        ∀ (ao2 : Option Addr) (cap2 : Nat),
         List.length xs + 1 ≤ cap2 →
          (b = b ∧ true = true ∧ 1 = 1 ∧ 1 ≤ lenN rest + 1 + 1) ∧
           N
            [Ent.mk (Loc.blk b) (SObj.cells (SV.vec 1 ao2 (List.length xs + 1) cap2 :: SV.func (Fn.func f) [] [] :: rest) T),
             Ent.mk (Loc.sl ao2 cap2) (SObj.vecL (140 : TypeId) 2 encItS (xs ++ es) (ByteArray.empty, (0 : Int))),
             Ent.mk (Loc.blk b_1) (SObj.cells [SV.str v.fst, SV.int IntKind.i64 v.2] 140)]
            (SV.tuple [])) := by kernel_rfl


theorem qSppop (K : List Frm → Sy → Prop) (N : List Ent → SV → Prop) (b cap : Nat) (ao : Option Addr) (rest : List SV) (T : TypeId) (xs : List (ByteArray × Int)) (f : FuncId) : (run Try.prog [] false [] K (retP Try.prog Try.f131.results.toList N) 900 [.code (bodyOf Try.f131)] ⟨padTo 29 [.ptr 0 b 0], qhG 140 2 encItS (ByteArray.empty, (0 : Int)) b ao cap f rest T xs⟩) = (
b = b ∧
 b = b ∧
  (ao = ao ∧
   cap = cap ∧
    List.length xs = List.length xs ∧
     (0 : Int) ≤ IntKind.wrap IntKind.i64 ((↑(List.length xs) : Int) - (1 : Int)) ∧ IntKind.wrap IntKind.i64 ((↑(List.length xs) : Int) - (1 : Int)) < (↑(List.length xs) : Int)) ∧
   (Addr.blkD ao = Addr.blkD ao ∧
    Addr.offD ao = Addr.offD ao ∧ 2 = 2 ∧ Int.toNat (IntKind.wrap IntKind.i64 ((↑(List.length xs) : Int) - (1 : Int))) < List.length xs ∧ 2 = 2) ∧
    ∀ (b_1 : Nat),
     (b_1 = b_1 ∧ true = true ∧ 2 = 2 ∧ 2 ≤ 2) ∧
      b = b ∧
       ((0 : Int) ≤ IntKind.wrap IntKind.i64 ((↑(List.length xs) : Int) - (1 : Int)) ∧ IntKind.wrap IntKind.i64 ((↑(List.length xs) : Int) - (1 : Int)) ≤ (↑cap : Int)) ∧
        (b = b ∧ true = true ∧ 1 = 1 ∧ 1 ≤ lenN rest + 1 + 1) ∧
         (b_1 = b_1 ∧ 2 = 2) ∧
          N
           [Ent.mk (Loc.blk b)
            (SObj.cells (SV.sub 1 ao cap 2 0 (Int.toNat (IntKind.wrap IntKind.i64 ((↑(List.length xs) : Int) - (1 : Int)))) :: SV.func (Fn.func f) [] [] :: rest)
             T),
            Ent.mk (Loc.sl ao cap) (SObj.vecL (140 : TypeId) 2 encItS xs (ByteArray.empty, (0 : Int))),
            Ent.mk (Loc.blk b_1)
             (SObj.cells
              [SV.str (List.getD xs (Int.toNat (IntKind.wrap IntKind.i64 ((↑(List.length xs) : Int) - (1 : Int)))) (ByteArray.empty, (0 : Int))).fst,
               SV.int IntKind.i64 (List.getD xs (Int.toNat (IntKind.wrap IntKind.i64 ((↑(List.length xs) : Int) - (1 : Int)))) (ByteArray.empty, (0 : Int))).2]
              140)]
           (SV.iface 140
            (SV.agg
             [SV.str (List.getD xs (Int.toNat (IntKind.wrap IntKind.i64 ((↑(List.length xs) : Int) - (1 : Int)))) (ByteArray.empty, (0 : Int))).fst,
              SV.int IntKind.i64 (List.getD xs (Int.toNat (IntKind.wrap IntKind.i64 ((↑(List.length xs) : Int) - (1 : Int)))) (ByteArray.empty, (0 : Int))).2]))) := by kernel_rfl


theorem qSplen (K : List Frm → Sy → Prop) (N : List Ent → SV → Prop) (b cap : Nat) (ao : Option Addr) (rest : List SV) (T : TypeId) (xs : List (ByteArray × Int)) (f : FuncId) : (run Try.prog [] true [] K (retP Try.prog Try.f129.results.toList N) 900 [.code (bodyOf Try.f129)] ⟨padTo 8 [.ptr 0 b 0], qhG 140 2 encItS (ByteArray.empty, (0 : Int)) b ao cap f rest T xs⟩) = (
b = b ∧
 N
  [Ent.mk (Loc.blk b) (SObj.cells (SV.vec 1 ao (List.length xs) cap :: SV.func (Fn.func f) [] [] :: rest) T),
   Ent.mk (Loc.sl ao cap) (SObj.vecL (140 : TypeId) 2 encItS xs (ByteArray.empty, (0 : Int)))]
  (SV.int IntKind.i64 (↑(List.length xs) : Int))) := by kernel_rfl
end Go.Proofs.Ytjnkfgigpapeaaa
